/-
  BuildMost: the walk.
-/
import Derived.Test.YtnndmpanopnncaaBuildFirst
import Derived.Test.YtnndmpanopnncaaNumber
namespace Go.Proofs.Ytnndmpanopnncaa
open Go.ChangeShapes Go.WideShapes Go.ChangeAt Go.RowKit
set_option linter.unusedVariables false

theorem ch_parts (r : RT) (C B T : Int) (L : List Int) : (chN r C B T L = 0 ∧ (chP r C B T L).2 = false ∧ 0 ≤ (chP r C B T L).1 ∧ (chP r C B T L).1 ≤ 1 ∧ (chP r C B T L).1 ≤ (L.length : Int)) ∨ (∃ k, chN r C B T L = k + 1 ∧ chP r C B T L = ((k : Int) + 1, true) ∧ k + 1 ≤ L.length) := by
  rcases hk : chN r C B T L with _ | k
  · left
    rw [chP_none hk]
    rcases L with _ | ⟨z, L⟩
    · simp [headOk]
    · split <;> simp <;> omega
  · right
    exact ⟨k, rfl, chP_some hk, by have := (ch_le r C B T L).1; omega⟩

set_option maxRecDepth 100000 in
set_option maxHeartbeats 8000000 in
theorem buildMost_walk (w : World) (r : RT) (hs : (Lit.int .i64 r.s).wf = true) (C B T : Int) (hC : (Lit.int .i64 C).wf = true) (hB : (Lit.int .i64 B).wf = true) (hT : (Lit.int .i64 T).wf = true) (A : Option Addr) (n Cp : Nat) (L : List Int) (hrow : Row w 1 A n Cp (L.map (Value.int .i64))) (hwf : ∀ z ∈ L, (Lit.int .i64 z).wf = true) (m : Int) (hm : (Lit.int .i64 m).wf = true) :
    Calls Try.prog 4 #[.agg #[.int .i64 r.m, .int .i64 r.c, .int .i64 r.s, .int .i64 r.w, .int .i64 r.g], .agg #[.int .i64 C, .int .i64 B, .int .i64 T], .slice A n Cp, .int .i64 m] w fun e w' => e = .returned (.bool true) ∧ Below w.heap.size w w' := by
  obtain ⟨s0, s1⟩ := bounds_i64 hs
  obtain ⟨C0, C1⟩ := bounds_i64 hC
  obtain ⟨B0, B1⟩ := bounds_i64 hB
  obtain ⟨T0, T1⟩ := bounds_i64 hT
  have hN : n = L.length := by have := hrow.1; simpa using this.symm
  have hcap := hrow.len_cap
  have HN := Lib.hid hN
  have HA := Lib.hid ((RtB.new w r).alloc (.cells #[.int .i64 C, .int .i64 B, .int .i64 T] 25))
  have HB := Lib.hid (LmB.new' w C B T (.cells #[.int .i64 r.m, .int .i64 r.c, .int .i64 r.s, .int .i64 r.w, .int .i64 r.g] 23))
  have HR := Lib.hid (((show RowN w A n Cp L from ⟨hN, hrow⟩).alloc (.cells #[.int .i64 r.m, .int .i64 r.c, .int .i64 r.s, .int .i64 r.w, .int .i64 r.g] 23)).alloc (.cells #[.int .i64 C, .int .i64 B, .int .i64 T] 25))
  have BB := Lib.hid (show Below w.heap.size w ((w.alloc (.cells #[.int .i64 r.m, .int .i64 r.c, .int .i64 r.s, .int .i64 r.w, .int .i64 r.g] 23)).alloc (.cells #[.int .i64 C, .int .i64 B, .int .i64 T] 25)) from ((Below.refl _ _).alloc (Nat.le_refl _) _).alloc (by simp) _)
  clear hs hC hB hT hrow hwf hN

  obtain ⟨m0, m1⟩ := bounds_i64 hm
  obtain ⟨p, hp, ep'⟩ := number_nat m 100 (by omega)
  have ep : m % 100 = (p : Int) := ep'
  clear hm ep' s0 s1
  go_enter Try.func4, Try.ntmps4
  go_wp2_with fail
  refine (bfirst_any _).mono ?_
  rintro e w1 ⟨rfl, hb⟩
  have HA1 := Lib.hid (HA.out.below hb (Nat.le_refl _))
  have HB1 := Lib.hid (HB.out.below hb (Nat.le_refl _))
  have HR1 := Lib.hid (HR.out.below hb (Nat.le_refl _))
  have BB1 := Lib.hid (BB.out.trans (hb.mono BB.out.size))
  clear hb HA HB HR BB
  obtain ⟨e0, e1, e2, e3, e4⟩ := HA1.out.cells
  obtain ⟨f0, f1, f2⟩ := HB1.out.cells
  have za := HA1.out.lt
  have zb := HB1.out.lt
  by_cases q0 : 64 < n
  case pos =>
    have q0d : decide ((64 : Int) < (n : Int)) = true := decide_eq_true (by omega)
    go_wp2_with fail
    go_ret
    exact ⟨rfl, BB1.out⟩
  case neg =>
  have q0d : decide ((64 : Int) < (n : Int)) = false := decide_eq_false (by omega)
  by_cases q1 : C < 0
  case pos =>
    have q1d : decide (C < 0) = true := decide_eq_true (by omega)
    go_wp2_with fail
    go_ret
    exact ⟨rfl, BB1.out⟩
  case neg =>
  have q1d : decide (C < 0) = false := decide_eq_false (by omega)
  by_cases q2 : B < 0
  case pos =>
    have q2d : decide (B < 0) = true := decide_eq_true (by omega)
    go_wp2_with fail
    go_ret
    exact ⟨rfl, BB1.out⟩
  case neg =>
  have q2d : decide (B < 0) = false := decide_eq_false (by omega)
  by_cases q3 : T < 0
  case pos =>
    have q3d : decide (T < 0) = true := decide_eq_true (by omega)
    go_wp2_with fail
    go_ret
    exact ⟨rfl, BB1.out⟩
  case neg =>
  have q3d : decide (T < 0) = false := decide_eq_false (by omega)
  by_cases q4 : 1099511627776 < C
  case pos =>
    have q4d : decide (1099511627776 < C) = true := decide_eq_true (by omega)
    go_wp2_with fail
    go_ret
    exact ⟨rfl, BB1.out⟩
  case neg =>
  have q4d : decide (1099511627776 < C) = false := decide_eq_false (by omega)
  by_cases q5 : 1099511627776 < B
  case pos =>
    have q5d : decide (1099511627776 < B) = true := decide_eq_true (by omega)
    go_wp2_with fail
    go_ret
    exact ⟨rfl, BB1.out⟩
  case neg =>
  have q5d : decide (1099511627776 < B) = false := decide_eq_false (by omega)
  by_cases q6 : 1099511627776 < T
  case pos =>
    have q6d : decide (1099511627776 < T) = true := decide_eq_true (by omega)
    go_wp2_with fail
    go_ret
    exact ⟨rfl, BB1.out⟩
  case neg =>
  have q6d : decide (1099511627776 < T) = false := decide_eq_false (by omega)
  have HN1 := Lib.hid (show n ≤ 1000 by omega)
  have D1 := Lib.hid (fun (w : World) (h : RowN w A n Cp L) => choose_any r C B T A n Cp L w h HN1.out)
  have D2 := Lib.hid (fun (w : World) (h : RowN w A n Cp L) => choose_any r (C + (p : Int)) (B + (p : Int)) (T + (p : Int)) A n Cp L w h HN1.out)
  have DF := Lib.hid (fun (k : Nat) (w : World) (h : RowN w A n Cp L) (hk : k ≤ n) => fits_any r C B T A k Cp (L.take k) w (h.take hk) (by omega))
  have HWD := Lib.hid (ch_wider (r := r) (L := L) (show C ≤ C + (p : Int) by omega) (show B ≤ B + (p : Int) by omega) (show T ≤ T + (p : Int) by omega))
  have k1 : IntKind.i64.wrap (C + (p : Int)) = C + (p : Int) := IntWalk.i64_in _ (by omega)
  have k2 : IntKind.i64.wrap (B + (p : Int)) = B + (p : Int) := IntWalk.i64_in _ (by omega)
  have k3 : IntKind.i64.wrap (T + (p : Int)) = T + (p : Int) := IntWalk.i64_in _ (by omega)
  go_wp2_with fail
  clear q0d q1d q2d q3d q4d q5d q6d
  refine (D1.out _ HR1.out).mono ?_
  rintro e w2 ⟨rfl, hb⟩
  clear e0 e1 e2 e3 e4 f0 f1 f2 za zb
  have HA2 := Lib.hid (HA1.out.below hb (Nat.le_refl _))
  have HB2 := Lib.hid (HB1.out.below hb (Nat.le_refl _))
  have HR2 := Lib.hid (HR1.out.below hb (Nat.le_refl _))
  have BB2 := Lib.hid (BB1.out.trans (hb.mono BB1.out.size))
  clear hb HA1 HB1 HR1 BB1
  obtain ⟨e0, e1, e2, e3, e4⟩ := HA2.out.cells
  obtain ⟨f0, f1, f2⟩ := HB2.out.cells
  have za := HA2.out.lt
  have zb := HB2.out.lt
  rcases ch_parts r C B T L with ⟨hz, hI, hN0, hN1, hNL⟩ | ⟨j, hz, hP, hjL⟩
  case inl =>
    rw [hI]
    rw [← HN.out] at hNL
    generalize (chP r C B T L).1 = N at *
    clear hz hI HWD
    have hd0 : decide (N < 0) = false := decide_eq_false (by omega)
    have hd2 : decide ((n : Int) < N) = false := decide_eq_false (by omega)
    go_wp2_with fail
    have c0 : w2.drew.cell? ⟨w.heap.size, 0, none⟩ = some (.int .i64 r.m) ∧ w2.drew.cell? ⟨w.heap.size, 1, none⟩ = some (.int .i64 r.c) ∧ w2.drew.cell? ⟨w.heap.size, 2, none⟩ = some (.int .i64 r.s) ∧ w2.drew.cell? ⟨w.heap.size, 3, none⟩ = some (.int .i64 r.w) ∧ w2.drew.cell? ⟨w.heap.size, 4, none⟩ = some (.int .i64 r.g) ∧ w2.drew.cell? ⟨w.heap.size + 1, 0, none⟩ = some (.int .i64 C) ∧ w2.drew.cell? ⟨w.heap.size + 1, 1, none⟩ = some (.int .i64 B) ∧ w2.drew.cell? ⟨w.heap.size + 1, 2, none⟩ = some (.int .i64 T) := ⟨e0, e1, e2, e3, e4, f0, f1, f2⟩
    have L0 : w.heap.size < w2.drew.heap.size := za
    have M0 : w.heap.size + 1 < w2.drew.heap.size := zb
    have A0 := Lib.hid (show RtB w2.drew w.heap.size r from HA2.out)
    have B0 := Lib.hid (show LmB w2.drew (w.heap.size + 1) C B T from HB2.out)
    have R0 := Lib.hid (show RowN w2.drew A n Cp L from HR2.out)
    have H0 := Lib.hid (show Below w.heap.size w w2.drew from BB2.out.trans (Below.drew (Below.refl _ _)))
    clear HA2 HB2 HR2 BB2 e0 e1 e2 e3 e4 f0 f1 f2 za zb
    refine wp_region_held_drew (S := (fun y => y.cell? ⟨w.heap.size, 0, none⟩ = some (.int .i64 r.m) ∧ y.cell? ⟨w.heap.size, 1, none⟩ = some (.int .i64 r.c) ∧ y.cell? ⟨w.heap.size, 2, none⟩ = some (.int .i64 r.s) ∧ y.cell? ⟨w.heap.size, 3, none⟩ = some (.int .i64 r.w) ∧ y.cell? ⟨w.heap.size, 4, none⟩ = some (.int .i64 r.g) ∧ y.cell? ⟨w.heap.size + 1, 0, none⟩ = some (.int .i64 C) ∧ y.cell? ⟨w.heap.size + 1, 1, none⟩ = some (.int .i64 B) ∧ y.cell? ⟨w.heap.size + 1, 2, none⟩ = some (.int .i64 T))) (by kernel_rfl) ?_ (fun hHeld => ?_)
    · (try dsimp only); exact c0
    refine wpAnyH_take (i := 0) (oi := { dst := some 60, op := Op.move (Operand.tmp 10), type := 3, pos := "law.go:50", after := #[], guard := none }) (v := ?hv1) rfl (by kernel_rfl) (by kernel_rfl) (by kernel_rfl) (fun _ _ _ h => h) (Or.inl ⟨by rfl, ?hy1⟩) (by assumption) ?_
    case hy1 => ((intro w hSw); (try dsimp only at hSw); go_simp; (try with_reducible rfl))
    try simp only [Act.put, List.setIfInBounds_toArray, List.set_cons_zero, List.set_cons_succ]
    refine wpAnyH_take (i := 1) (oi := { dst := some 61, op := Op.binOp BinOp.lss 3 (Operand.tmp 60) (Operand.const (Value.int IntKind.i64 0)) 3, type := 4, pos := "law.go:50", after := #[{ on := 0, ground := Ground.data }], guard := none }) (v := ?hv2) rfl (by kernel_rfl) (by kernel_rfl) (by kernel_rfl) (fun _ _ _ h => h) (Or.inl ⟨by rfl, ?hy2⟩) (by assumption) ?_
    case hy2 => ((intro w hSw); (try dsimp only at hSw); go_simp; (try with_reducible rfl))
    try simp only [Act.put, List.setIfInBounds_toArray, List.set_cons_zero, List.set_cons_succ]
    refine wpAnyH_take (i := 2) (oi := { dst := some 62, op := Op.move (Operand.tmp 61), type := 4, pos := "law.go:50", after := #[{ on := 1, ground := Ground.data }], guard := none }) (v := ?hv3) rfl (by kernel_rfl) (by kernel_rfl) (by kernel_rfl) (fun _ _ _ h => h) (Or.inl ⟨by rfl, ?hy3⟩) (by assumption) ?_
    case hy3 => ((intro w hSw); (try dsimp only at hSw); go_simp; (try with_reducible rfl))
    try simp only [Act.put, List.setIfInBounds_toArray, List.set_cons_zero, List.set_cons_succ]
    refine wpAnyH_take (i := 3) (oi := { dst := some 63, op := Op.move (Operand.tmp 10), type := 3, pos := "law.go:50", after := #[{ on := 2, ground := Ground.guard }], guard := some (2, false) }) (v := ?hv4) rfl (by kernel_rfl) (by kernel_rfl) (by kernel_rfl) (fun _ _ _ h => h) (Or.inl ⟨by rfl, ?hy4⟩) (by assumption) ?_
    case hy4 => ((intro w hSw); (try dsimp only at hSw); go_simp; (try with_reducible rfl))
    try simp only [Act.put, List.setIfInBounds_toArray, List.set_cons_zero, List.set_cons_succ]
    refine wpAnyH_take (i := 4) (oi := { dst := some 64, op := Op.move (Operand.tmp 2), type := 26, pos := "law.go:50", after := #[{ on := 2, ground := Ground.guard }], guard := some (2, false) }) (v := ?hv5) rfl (by kernel_rfl) (by kernel_rfl) (by kernel_rfl) (fun _ _ _ h => h) (Or.inl ⟨by rfl, ?hy5⟩) (by assumption) ?_
    case hy5 => ((intro w hSw); (try dsimp only at hSw); go_simp; (try with_reducible rfl))
    try simp only [Act.put, List.setIfInBounds_toArray, List.set_cons_zero, List.set_cons_succ]
    refine wpAnyH_take (i := 5) (oi := { dst := some 65, op := Op.call { callee := Callee.builtin Builtin.len, args := #[Operand.tmp 64], argTypes := #[26] }, type := 3, pos := "law.go:50", after := #[{ on := 4, ground := Ground.data }, { on := 2, ground := Ground.guard }], guard := some (2, false) }) (v := ?hv6) rfl (by kernel_rfl) (by kernel_rfl) (by kernel_rfl) (fun _ _ _ h => h) (Or.inl ⟨by rfl, ?hy6⟩) (by assumption) ?_
    case hy6 => ((intro w hSw); (try dsimp only at hSw); go_simp; (try with_reducible rfl))
    try simp only [Act.put, List.setIfInBounds_toArray, List.set_cons_zero, List.set_cons_succ]
    refine wpAnyH_take (i := 6) (oi := { dst := some 66, op := Op.binOp BinOp.gtr 3 (Operand.tmp 63) (Operand.tmp 65) 3, type := 4, pos := "law.go:50", after := #[{ on := 3, ground := Ground.data }, { on := 5, ground := Ground.data }, { on := 2, ground := Ground.guard }], guard := some (2, false) }) (v := ?hv7) rfl (by kernel_rfl) (by kernel_rfl) (by kernel_rfl) (fun _ _ _ h => h) (Or.inl ⟨by rfl, ?hy7⟩) (by assumption) ?_
    case hy7 => ((intro w hSw); (try dsimp only at hSw); go_simp; (try with_reducible rfl))
    try simp only [Act.put, List.setIfInBounds_toArray, List.set_cons_zero, List.set_cons_succ]
    refine wpAnyH_take (i := 7) (oi := { dst := some 67, op := Op.pick (Operand.tmp 62) (Operand.const (Value.bool true)) (Operand.tmp 66), type := 4, pos := "law.go:50", after := #[{ on := 2, ground := Ground.data }, { on := 6, ground := Ground.data }], guard := none }) (v := ?hv8) rfl (by kernel_rfl) (by kernel_rfl) (by kernel_rfl) (fun _ _ _ h => h) (Or.inl ⟨by rfl, ?hy8⟩) (by assumption) ?_
    case hy8 => ((intro w hSw); (try dsimp only at hSw); go_simp; (try with_reducible rfl))
    try simp only [Act.put, List.setIfInBounds_toArray, List.set_cons_zero, List.set_cons_succ]
    refine wpAnyH_take (i := 8) (oi := { dst := some 68, op := Op.move (Operand.tmp 67), type := 4, pos := "law.go:50", after := #[{ on := 7, ground := Ground.data }, { on := 2, ground := Ground.chain }], guard := none }) (v := ?hv9) rfl (by kernel_rfl) (by kernel_rfl) (by kernel_rfl) (fun _ _ _ h => h) (Or.inl ⟨by rfl, ?hy9⟩) (by assumption) ?_
    case hy9 => ((intro w hSw); (try dsimp only at hSw); go_simp; (try with_reducible rfl))
    try simp only [Act.put, List.setIfInBounds_toArray, List.set_cons_zero, List.set_cons_succ]
    refine wpAnyH_take (i := 9) (oi := { dst := some 69, op := Op.move (Operand.tmp 11), type := 4, pos := "law.go:50", after := #[{ on := 8, ground := Ground.guard }], guard := some (8, false) }) (v := ?hv10) rfl (by kernel_rfl) (by kernel_rfl) (by kernel_rfl) (fun _ _ _ h => h) (Or.inl ⟨by rfl, ?hy10⟩) (by assumption) ?_
    case hy10 => ((intro w hSw); (try dsimp only at hSw); go_simp; (try with_reducible rfl))
    try simp only [Act.put, List.setIfInBounds_toArray, List.set_cons_zero, List.set_cons_succ]
    refine wpAnyH_take (i := 10) (oi := { dst := some 70, op := Op.move (Operand.tmp 69), type := 4, pos := "law.go:50", after := #[{ on := 9, ground := Ground.data }, { on := 8, ground := Ground.chain }, { on := 8, ground := Ground.guard }], guard := some (8, false) }) (v := ?hv11) rfl (by kernel_rfl) (by kernel_rfl) (by kernel_rfl) (fun _ _ _ h => h) (Or.inl ⟨by rfl, ?hy11⟩) (by assumption) ?_
    case hy11 => ((intro w hSw); (try dsimp only at hSw); go_simp; (try with_reducible rfl))
    try simp only [Act.put, List.setIfInBounds_toArray, List.set_cons_zero, List.set_cons_succ]
    refine wpAnyH_take (i := 11) (oi := { dst := some 71, op := Op.move (Operand.tmp 10), type := 3, pos := "law.go:50", after := #[{ on := 10, ground := Ground.guard }], guard := some (10, true) }) (v := undef) rfl (by kernel_rfl) (by kernel_rfl) (by kernel_rfl) (fun _ _ _ h => h) (Or.inr ⟨by rfl, rfl⟩) (by assumption) ?_
    try simp only [Act.put, List.setIfInBounds_toArray, List.set_cons_zero, List.set_cons_succ]
    refine wpAnyH_take (i := 12) (oi := { dst := some 72, op := Op.binOp BinOp.eql 3 (Operand.tmp 71) (Operand.const (Value.int IntKind.i64 0)) 3, type := 4, pos := "law.go:50", after := #[{ on := 11, ground := Ground.data }, { on := 10, ground := Ground.guard }], guard := some (10, true) }) (v := undef) rfl (by kernel_rfl) (by kernel_rfl) (by kernel_rfl) (fun _ _ _ h => h) (Or.inr ⟨by rfl, rfl⟩) (by assumption) ?_
    try simp only [Act.put, List.setIfInBounds_toArray, List.set_cons_zero, List.set_cons_succ]
    refine wpAnyH_take (i := 13) (oi := { dst := some 73, op := Op.move (Operand.tmp 72), type := 4, pos := "law.go:50", after := #[{ on := 12, ground := Ground.data }, { on := 10, ground := Ground.chain }, { on := 10, ground := Ground.guard }], guard := some (10, true) }) (v := undef) rfl (by kernel_rfl) (by kernel_rfl) (by kernel_rfl) (fun _ _ _ h => h) (Or.inr ⟨by rfl, rfl⟩) (by assumption) ?_
    try simp only [Act.put, List.setIfInBounds_toArray, List.set_cons_zero, List.set_cons_succ]
    refine wpAnyH_take (i := 14) (oi := { dst := some 74, op := Op.load 23 (Operand.tmp 4), type := 23, pos := "law.go:50", after := #[{ on := 13, ground := Ground.guard }], guard := some (13, false) }) (v := undef) rfl (by kernel_rfl) (by kernel_rfl) (by kernel_rfl) (fun _ _ _ h => h) (Or.inr ⟨by rfl, rfl⟩) (by assumption) ?_
    try simp only [Act.put, List.setIfInBounds_toArray, List.set_cons_zero, List.set_cons_succ]
    refine wpAnyH_take (i := 15) (oi := { dst := some 75, op := Op.load 25 (Operand.tmp 5), type := 25, pos := "law.go:50", after := #[{ on := 13, ground := Ground.guard }], guard := some (13, false) }) (v := undef) rfl (by kernel_rfl) (by kernel_rfl) (by kernel_rfl) (fun _ _ _ h => h) (Or.inr ⟨by rfl, rfl⟩) (by assumption) ?_
    try simp only [Act.put, List.setIfInBounds_toArray, List.set_cons_zero, List.set_cons_succ]
    refine wpAnyH_take (i := 16) (oi := { dst := some 76, op := Op.move (Operand.tmp 2), type := 26, pos := "law.go:50", after := #[{ on := 13, ground := Ground.guard }], guard := some (13, false) }) (v := undef) rfl (by kernel_rfl) (by kernel_rfl) (by kernel_rfl) (fun _ _ _ h => h) (Or.inr ⟨by rfl, rfl⟩) (by assumption) ?_
    try simp only [Act.put, List.setIfInBounds_toArray, List.set_cons_zero, List.set_cons_succ]
    refine wpAnyH_take (i := 17) (oi := { dst := some 77, op := Op.move (Operand.tmp 10), type := 3, pos := "law.go:50", after := #[{ on := 13, ground := Ground.guard }], guard := some (13, false) }) (v := undef) rfl (by kernel_rfl) (by kernel_rfl) (by kernel_rfl) (fun _ _ _ h => h) (Or.inr ⟨by rfl, rfl⟩) (by assumption) ?_
    try simp only [Act.put, List.setIfInBounds_toArray, List.set_cons_zero, List.set_cons_succ]
    refine wpAnyH_take (i := 18) (oi := { dst := some 78, op := Op.slice 26 (Operand.tmp 76) none (some (Operand.tmp 77)) none, type := 26, pos := "law.go:50", after := #[{ on := 16, ground := Ground.data }, { on := 17, ground := Ground.data }, { on := 13, ground := Ground.guard }], guard := some (13, false) }) (v := undef) rfl (by kernel_rfl) (by kernel_rfl) (by kernel_rfl) (fun _ _ _ h => h) (Or.inr ⟨by rfl, rfl⟩) (by assumption) ?_
    try simp only [Act.put, List.setIfInBounds_toArray, List.set_cons_zero, List.set_cons_succ]
    refine wpAnyH_take (i := 19) (oi := { dst := some 79, op := Op.call { callee := Callee.value (Operand.func 11), args := #[Operand.tmp 74, Operand.tmp 75, Operand.tmp 78], argTypes := #[23, 25, 26] }, type := 4, pos := "law.go:50", after := #[{ on := 14, ground := Ground.data }, { on := 15, ground := Ground.data }, { on := 18, ground := Ground.data }, { on := 13, ground := Ground.chain }, { on := 13, ground := Ground.guard }], guard := some (13, false) }) (v := undef) rfl (by kernel_rfl) (by kernel_rfl) (by kernel_rfl) (fun _ _ _ h => h) (Or.inr ⟨by rfl, rfl⟩) (by assumption) ?_
    try simp only [Act.put, List.setIfInBounds_toArray, List.set_cons_zero, List.set_cons_succ]
    refine wpAnyH_take (i := 20) (oi := { dst := some 80, op := Op.unOp UnOp.not 4 (Operand.tmp 79), type := 4, pos := "law.go:50", after := #[{ on := 19, ground := Ground.data }, { on := 13, ground := Ground.guard }], guard := some (13, false) }) (v := undef) rfl (by kernel_rfl) (by kernel_rfl) (by kernel_rfl) (fun _ _ _ h => h) (Or.inr ⟨by rfl, rfl⟩) (by assumption) ?_
    try simp only [Act.put, List.setIfInBounds_toArray, List.set_cons_zero, List.set_cons_succ]
    refine wpAnyH_take (i := 21) (oi := { dst := some 81, op := Op.pick (Operand.tmp 73) (Operand.const (Value.bool true)) (Operand.tmp 80), type := 4, pos := "law.go:50", after := #[{ on := 13, ground := Ground.data }, { on := 20, ground := Ground.data }, { on := 10, ground := Ground.guard }], guard := some (10, true) }) (v := undef) rfl (by kernel_rfl) (by kernel_rfl) (by kernel_rfl) (fun _ _ _ h => h) (Or.inr ⟨by rfl, rfl⟩) (by assumption) ?_
    try simp only [Act.put, List.setIfInBounds_toArray, List.set_cons_zero, List.set_cons_succ]
    refine wpAnyH_take (i := 22) (oi := { dst := some 82, op := Op.pick (Operand.tmp 70) (Operand.tmp 81) (Operand.const (Value.bool false)), type := 4, pos := "law.go:50", after := #[{ on := 10, ground := Ground.data }, { on := 21, ground := Ground.data }, { on := 8, ground := Ground.guard }], guard := some (8, false) }) (v := ?hv12) rfl (by kernel_rfl) (by kernel_rfl) (by kernel_rfl) (fun _ _ _ h => h) (Or.inl ⟨by rfl, ?hy12⟩) (by assumption) ?_
    case hy12 => ((intro w hSw); (try dsimp only at hSw); go_simp; (try with_reducible rfl))
    try simp only [Act.put, List.setIfInBounds_toArray, List.set_cons_zero, List.set_cons_succ]
    refine wpAnyH_take (i := 23) (oi := { dst := some 83, op := Op.pick (Operand.tmp 68) (Operand.const (Value.bool true)) (Operand.tmp 82), type := 4, pos := "law.go:50", after := #[{ on := 8, ground := Ground.data }, { on := 22, ground := Ground.data }], guard := none }) (v := ?hv13) rfl (by kernel_rfl) (by kernel_rfl) (by kernel_rfl) (fun _ _ _ h => h) (Or.inl ⟨by rfl, ?hy13⟩) (by assumption) ?_
    case hy13 => ((intro w hSw); (try dsimp only at hSw); go_simp; (try with_reducible rfl))
    try simp only [Act.put, List.setIfInBounds_toArray, List.set_cons_zero, List.set_cons_succ]
    refine wpAnyH_take (i := 24) (oi := { dst := some 84, op := Op.move (Operand.tmp 83), type := 4, pos := "law.go:50", after := #[{ on := 23, ground := Ground.data }, { on := 19, ground := Ground.chain }], guard := none }) (v := ?hv14) rfl (by kernel_rfl) (by kernel_rfl) (by kernel_rfl) (fun _ _ _ h => h) (Or.inl ⟨by rfl, ?hy14⟩) (by assumption) ?_
    case hy14 => ((intro w hSw); (try dsimp only at hSw); go_simp; (try with_reducible rfl))
    try simp only [Act.put, List.setIfInBounds_toArray, List.set_cons_zero, List.set_cons_succ]
    refine wpAnyH_take (i := 25) (oi := { dst := some 85, op := Op.move (Operand.tmp 11), type := 4, pos := "law.go:50", after := #[{ on := 24, ground := Ground.guard }], guard := some (24, false) }) (v := ?hv15) rfl (by kernel_rfl) (by kernel_rfl) (by kernel_rfl) (fun _ _ _ h => h) (Or.inl ⟨by rfl, ?hy15⟩) (by assumption) ?_
    case hy15 => ((intro w hSw); (try dsimp only at hSw); go_simp; (try with_reducible rfl))
    try simp only [Act.put, List.setIfInBounds_toArray, List.set_cons_zero, List.set_cons_succ]
    refine wpAnyH_take (i := 26) (oi := { dst := some 86, op := Op.move (Operand.tmp 85), type := 4, pos := "law.go:50", after := #[{ on := 25, ground := Ground.data }, { on := 24, ground := Ground.chain }, { on := 24, ground := Ground.guard }], guard := some (24, false) }) (v := ?hv16) rfl (by kernel_rfl) (by kernel_rfl) (by kernel_rfl) (fun _ _ _ h => h) (Or.inl ⟨by rfl, ?hy16⟩) (by assumption) ?_
    case hy16 => ((intro w hSw); (try dsimp only at hSw); go_simp; (try with_reducible rfl))
    try simp only [Act.put, List.setIfInBounds_toArray, List.set_cons_zero, List.set_cons_succ]
    refine wpAnyH_take (i := 27) (oi := { dst := some 87, op := Op.move (Operand.tmp 10), type := 3, pos := "law.go:50", after := #[{ on := 26, ground := Ground.guard }], guard := some (26, true) }) (v := undef) rfl (by kernel_rfl) (by kernel_rfl) (by kernel_rfl) (fun _ _ _ h => h) (Or.inr ⟨by rfl, rfl⟩) (by assumption) ?_
    try simp only [Act.put, List.setIfInBounds_toArray, List.set_cons_zero, List.set_cons_succ]
    refine wpAnyH_take (i := 28) (oi := { dst := some 88, op := Op.move (Operand.tmp 2), type := 26, pos := "law.go:50", after := #[{ on := 26, ground := Ground.guard }], guard := some (26, true) }) (v := undef) rfl (by kernel_rfl) (by kernel_rfl) (by kernel_rfl) (fun _ _ _ h => h) (Or.inr ⟨by rfl, rfl⟩) (by assumption) ?_
    try simp only [Act.put, List.setIfInBounds_toArray, List.set_cons_zero, List.set_cons_succ]
    refine wpAnyH_take (i := 29) (oi := { dst := some 89, op := Op.call { callee := Callee.builtin Builtin.len, args := #[Operand.tmp 88], argTypes := #[26] }, type := 3, pos := "law.go:50", after := #[{ on := 28, ground := Ground.data }, { on := 26, ground := Ground.guard }], guard := some (26, true) }) (v := undef) rfl (by kernel_rfl) (by kernel_rfl) (by kernel_rfl) (fun _ _ _ h => h) (Or.inr ⟨by rfl, rfl⟩) (by assumption) ?_
    try simp only [Act.put, List.setIfInBounds_toArray, List.set_cons_zero, List.set_cons_succ]
    refine wpAnyH_take (i := 30) (oi := { dst := some 90, op := Op.binOp BinOp.lss 3 (Operand.tmp 87) (Operand.tmp 89) 3, type := 4, pos := "law.go:50", after := #[{ on := 27, ground := Ground.data }, { on := 29, ground := Ground.data }, { on := 26, ground := Ground.guard }], guard := some (26, true) }) (v := undef) rfl (by kernel_rfl) (by kernel_rfl) (by kernel_rfl) (fun _ _ _ h => h) (Or.inr ⟨by rfl, rfl⟩) (by assumption) ?_
    try simp only [Act.put, List.setIfInBounds_toArray, List.set_cons_zero, List.set_cons_succ]
    refine wpAnyH_take (i := 31) (oi := { dst := some 91, op := Op.pick (Operand.tmp 86) (Operand.tmp 90) (Operand.const (Value.bool false)), type := 4, pos := "law.go:50", after := #[{ on := 26, ground := Ground.data }, { on := 30, ground := Ground.data }, { on := 24, ground := Ground.guard }], guard := some (24, false) }) (v := ?hv17) rfl (by kernel_rfl) (by kernel_rfl) (by kernel_rfl) (fun _ _ _ h => h) (Or.inl ⟨by rfl, ?hy17⟩) (by assumption) ?_
    case hy17 => ((intro w hSw); (try dsimp only at hSw); go_simp; (try with_reducible rfl))
    try simp only [Act.put, List.setIfInBounds_toArray, List.set_cons_zero, List.set_cons_succ]
    refine wpAnyH_take (i := 32) (oi := { dst := some 92, op := Op.move (Operand.tmp 91), type := 4, pos := "law.go:50", after := #[{ on := 31, ground := Ground.data }, { on := 26, ground := Ground.chain }, { on := 24, ground := Ground.guard }], guard := some (24, false) }) (v := ?hv18) rfl (by kernel_rfl) (by kernel_rfl) (by kernel_rfl) (fun _ _ _ h => h) (Or.inl ⟨by rfl, ?hy18⟩) (by assumption) ?_
    case hy18 => ((intro w hSw); (try dsimp only at hSw); go_simp; (try with_reducible rfl))
    try simp only [Act.put, List.setIfInBounds_toArray, List.set_cons_zero, List.set_cons_succ]
    refine wpAnyH_take (i := 33) (oi := { dst := some 93, op := Op.load 23 (Operand.tmp 4), type := 23, pos := "law.go:50", after := #[{ on := 32, ground := Ground.guard }], guard := some (32, true) }) (v := undef) rfl (by kernel_rfl) (by kernel_rfl) (by kernel_rfl) (fun _ _ _ h => h) (Or.inr ⟨by rfl, rfl⟩) (by assumption) ?_
    try simp only [Act.put, List.setIfInBounds_toArray, List.set_cons_zero, List.set_cons_succ]
    refine wpAnyH_take (i := 34) (oi := { dst := some 94, op := Op.load 25 (Operand.tmp 5), type := 25, pos := "law.go:50", after := #[{ on := 32, ground := Ground.guard }], guard := some (32, true) }) (v := undef) rfl (by kernel_rfl) (by kernel_rfl) (by kernel_rfl) (fun _ _ _ h => h) (Or.inr ⟨by rfl, rfl⟩) (by assumption) ?_
    try simp only [Act.put, List.setIfInBounds_toArray, List.set_cons_zero, List.set_cons_succ]
    refine wpAnyH_take (i := 35) (oi := { dst := some 95, op := Op.move (Operand.tmp 2), type := 26, pos := "law.go:50", after := #[{ on := 32, ground := Ground.guard }], guard := some (32, true) }) (v := undef) rfl (by kernel_rfl) (by kernel_rfl) (by kernel_rfl) (fun _ _ _ h => h) (Or.inr ⟨by rfl, rfl⟩) (by assumption) ?_
    try simp only [Act.put, List.setIfInBounds_toArray, List.set_cons_zero, List.set_cons_succ]
    refine wpAnyH_take (i := 36) (oi := { dst := some 96, op := Op.move (Operand.tmp 10), type := 3, pos := "law.go:50", after := #[{ on := 32, ground := Ground.guard }], guard := some (32, true) }) (v := undef) rfl (by kernel_rfl) (by kernel_rfl) (by kernel_rfl) (fun _ _ _ h => h) (Or.inr ⟨by rfl, rfl⟩) (by assumption) ?_
    try simp only [Act.put, List.setIfInBounds_toArray, List.set_cons_zero, List.set_cons_succ]
    refine wpAnyH_take (i := 37) (oi := { dst := some 97, op := Op.binOp BinOp.add 3 (Operand.tmp 96) (Operand.const (Value.int IntKind.i64 1)) 3, type := 3, pos := "law.go:50", after := #[{ on := 36, ground := Ground.data }, { on := 32, ground := Ground.guard }], guard := some (32, true) }) (v := undef) rfl (by kernel_rfl) (by kernel_rfl) (by kernel_rfl) (fun _ _ _ h => h) (Or.inr ⟨by rfl, rfl⟩) (by assumption) ?_
    try simp only [Act.put, List.setIfInBounds_toArray, List.set_cons_zero, List.set_cons_succ]
    refine wpAnyH_take (i := 38) (oi := { dst := some 98, op := Op.slice 26 (Operand.tmp 95) none (some (Operand.tmp 97)) none, type := 26, pos := "law.go:50", after := #[{ on := 35, ground := Ground.data }, { on := 37, ground := Ground.data }, { on := 32, ground := Ground.guard }], guard := some (32, true) }) (v := undef) rfl (by kernel_rfl) (by kernel_rfl) (by kernel_rfl) (fun _ _ _ h => h) (Or.inr ⟨by rfl, rfl⟩) (by assumption) ?_
    try simp only [Act.put, List.setIfInBounds_toArray, List.set_cons_zero, List.set_cons_succ]
    refine wpAnyH_take (i := 39) (oi := { dst := some 99, op := Op.call { callee := Callee.value (Operand.func 11), args := #[Operand.tmp 93, Operand.tmp 94, Operand.tmp 98], argTypes := #[23, 25, 26] }, type := 4, pos := "law.go:50", after := #[{ on := 33, ground := Ground.data }, { on := 34, ground := Ground.data }, { on := 38, ground := Ground.data }, { on := 32, ground := Ground.chain }, { on := 32, ground := Ground.guard }], guard := some (32, true) }) (v := undef) rfl (by kernel_rfl) (by kernel_rfl) (by kernel_rfl) (fun _ _ _ h => h) (Or.inr ⟨by rfl, rfl⟩) (by assumption) ?_
    try simp only [Act.put, List.setIfInBounds_toArray, List.set_cons_zero, List.set_cons_succ]
    refine wpAnyH_take (i := 40) (oi := { dst := some 100, op := Op.pick (Operand.tmp 92) (Operand.tmp 99) (Operand.const (Value.bool false)), type := 4, pos := "law.go:50", after := #[{ on := 32, ground := Ground.data }, { on := 39, ground := Ground.data }, { on := 24, ground := Ground.guard }], guard := some (24, false) }) (v := ?hv19) rfl (by kernel_rfl) (by kernel_rfl) (by kernel_rfl) (fun _ _ _ h => h) (Or.inl ⟨by rfl, ?hy19⟩) (by assumption) ?_
    case hy19 => ((intro w hSw); (try dsimp only at hSw); go_simp; (try with_reducible rfl))
    try simp only [Act.put, List.setIfInBounds_toArray, List.set_cons_zero, List.set_cons_succ]
    refine wpAnyH_take (i := 41) (oi := { dst := some 101, op := Op.pick (Operand.tmp 84) (Operand.const (Value.bool true)) (Operand.tmp 100), type := 4, pos := "law.go:50", after := #[{ on := 24, ground := Ground.data }, { on := 40, ground := Ground.data }], guard := none }) (v := ?hv20) rfl (by kernel_rfl) (by kernel_rfl) (by kernel_rfl) (fun _ _ _ h => h) (Or.inl ⟨by rfl, ?hy20⟩) (by assumption) ?_
    case hy20 => ((intro w hSw); (try dsimp only at hSw); go_simp; (try with_reducible rfl))
    try simp only [Act.put, List.setIfInBounds_toArray, List.set_cons_zero, List.set_cons_succ]
    refine wpAnyH_done (by kernel_rfl) ?_ _
    have HA4 := A0
    have HB4 := B0
    have HR4 := R0
    have BB4 := H0
    clear c0 L0 M0 A0 B0 R0 H0
    go_wp2_with fail
    go_loopw [12] (fun i wr => i = .int .i64 1 ∧ RtB wr w.heap.size r ∧ LmB wr (w.heap.size + 1) C B T ∧ RowN wr A n Cp L ∧ Below w.heap.size w wr) (fun _ _ => 0)
    case atStart => exact ⟨rfl, HA4.out, HB4.out, HR4.out, BB4.out⟩
    case round =>
      obtain ⟨rfl, hA, hB, hR, hb⟩ := hrel
      have HA5 := Lib.hid hA
      have HB5 := Lib.hid hB
      have HR5 := Lib.hid hR
      have BB5 := Lib.hid hb
      clear hA hB hR hb HA4 HB4 HR4 BB4
      obtain ⟨e0, e1, e2, e3, e4⟩ := HA5.out.cells
      obtain ⟨f0, f1, f2⟩ := HB5.out.cells
      have za := HA5.out.lt
      have zb := HB5.out.lt
      have hd1 : decide ((1 : Int) < N) = false := decide_eq_false (by omega)
      go_wp2_with fail
      refine (number_any m 100 _ (by omega) (by omega) m0 m1).mono ?_
      rintro e w9 ⟨rfl, rfl⟩
      rw [ep]
      go_wp2_with fail
      have HRn := Lib.hid (HR5.out.alloc (.cells #[.int .i64 (C + (p : Int)), .int .i64 (B + (p : Int)), .int .i64 (T + (p : Int))] 25))
      have BBn := Lib.hid (BB5.out.alloc BB5.out.size (.cells #[.int .i64 (C + (p : Int)), .int .i64 (B + (p : Int)), .int .i64 (T + (p : Int))] 25))
      refine (D2.out _ HRn.out).mono ?_
      rintro e w8 ⟨rfl, hb⟩
      have BB8 := Lib.hid (BBn.out.trans (hb.mono BBn.out.size))
      clear hb e0 e1 e2 e3 e4 f0 f1 f2
      have hd9 : decide (N ≤ 1) = true := decide_eq_true (by omega)
      go_wp2_with fail
      go_ret
      exact ⟨rfl, BB8.out⟩
  case inr =>
    rw [hP]
    rw [← HN.out] at hjL
    have HFJ := Lib.hid (show fitF r C B T L (j + 1) = true from by have := ch_fits (r := r) (C := C) (B := B) (T := T) (L := L) (by omega); rwa [hz] at this)
    have HMORE := Lib.hid (fun (hlt : j + 1 < n) => show fitF r C B T L (j + 2) = false from ch_more (by omega) (by rw [← HN.out]; omega))
    obtain ⟨g, hgP, hgj⟩ : ∃ g : Nat, chP r (C + (p : Int)) (B + (p : Int)) (T + (p : Int)) L = ((g : Int) + 1, true) ∧ j ≤ g := by
      have h1 := HWD.out
      rw [hz] at h1
      obtain ⟨g, hg⟩ : ∃ g, chN r (C + (p : Int)) (B + (p : Int)) (T + (p : Int)) L = g + 1 := ⟨chN r (C + (p : Int)) (B + (p : Int)) (T + (p : Int)) L - 1, by omega⟩
      exact ⟨g, chP_some hg, by omega⟩
    have HCG := Lib.hid hgP
    have CF := Lib.hid (fun (w : World) (h : RowN w A n Cp L) => DF.out (j + 1) w h hjL)
    rw [show fitsP r C B T (L.take (j + 1)) = true from HFJ.out] at CF
    clear hz hP hgP HWD
    have hd0 : decide ((j : Int) + 1 < 0) = false := decide_eq_false (by omega)
    have hd2 : decide ((n : Int) < (j : Int) + 1) = false := decide_eq_false (by omega)
    have hd3 : (((j : Int) + 1) == 0) = false := by simp; omega
    have s1 : (0 : Int) ≤ (j : Int) + 1 := by omega
    have s2 : (j : Int) + 1 ≤ (Cp : Int) := by omega
    have s3 : ((j : Int) + 1).toNat = j + 1 := by omega
    by_cases hjn : j + 1 < n
    case neg =>
      have hd4 : decide ((j : Int) + 1 < (n : Int)) = false := decide_eq_false (by omega)
      go_wp2_with fail
      have c0 : w2.drew.cell? ⟨w.heap.size, 0, none⟩ = some (.int .i64 r.m) ∧ w2.drew.cell? ⟨w.heap.size, 1, none⟩ = some (.int .i64 r.c) ∧ w2.drew.cell? ⟨w.heap.size, 2, none⟩ = some (.int .i64 r.s) ∧ w2.drew.cell? ⟨w.heap.size, 3, none⟩ = some (.int .i64 r.w) ∧ w2.drew.cell? ⟨w.heap.size, 4, none⟩ = some (.int .i64 r.g) ∧ w2.drew.cell? ⟨w.heap.size + 1, 0, none⟩ = some (.int .i64 C) ∧ w2.drew.cell? ⟨w.heap.size + 1, 1, none⟩ = some (.int .i64 B) ∧ w2.drew.cell? ⟨w.heap.size + 1, 2, none⟩ = some (.int .i64 T) := ⟨e0, e1, e2, e3, e4, f0, f1, f2⟩
      have L0 : w.heap.size < w2.drew.heap.size := za
      have M0 : w.heap.size + 1 < w2.drew.heap.size := zb
      have A0 := Lib.hid (show RtB w2.drew w.heap.size r from HA2.out)
      have B0 := Lib.hid (show LmB w2.drew (w.heap.size + 1) C B T from HB2.out)
      have R0 := Lib.hid (show RowN w2.drew A n Cp L from HR2.out)
      have H0 := Lib.hid (show Below w.heap.size w w2.drew from BB2.out.trans (Below.drew (Below.refl _ _)))
      clear HA2 HB2 HR2 BB2 e0 e1 e2 e3 e4 f0 f1 f2 za zb
      refine wp_region_held_drew (S := (fun y => y.cell? ⟨w.heap.size, 0, none⟩ = some (.int .i64 r.m) ∧ y.cell? ⟨w.heap.size, 1, none⟩ = some (.int .i64 r.c) ∧ y.cell? ⟨w.heap.size, 2, none⟩ = some (.int .i64 r.s) ∧ y.cell? ⟨w.heap.size, 3, none⟩ = some (.int .i64 r.w) ∧ y.cell? ⟨w.heap.size, 4, none⟩ = some (.int .i64 r.g) ∧ y.cell? ⟨w.heap.size + 1, 0, none⟩ = some (.int .i64 C) ∧ y.cell? ⟨w.heap.size + 1, 1, none⟩ = some (.int .i64 B) ∧ y.cell? ⟨w.heap.size + 1, 2, none⟩ = some (.int .i64 T))) (by kernel_rfl) ?_ (fun hHeld => ?_)
      · (try dsimp only); exact c0
      refine wpAnyH_take (i := 0) (oi := { dst := some 60, op := Op.move (Operand.tmp 10), type := 3, pos := "law.go:50", after := #[], guard := none }) (v := ?hv21) rfl (by kernel_rfl) (by kernel_rfl) (by kernel_rfl) (fun _ _ _ h => h) (Or.inl ⟨by rfl, ?hy21⟩) (by assumption) ?_
      case hy21 => ((intro w hSw); (try dsimp only at hSw); go_simp; (try with_reducible rfl))
      try simp only [Act.put, List.setIfInBounds_toArray, List.set_cons_zero, List.set_cons_succ]
      refine wpAnyH_take (i := 1) (oi := { dst := some 61, op := Op.binOp BinOp.lss 3 (Operand.tmp 60) (Operand.const (Value.int IntKind.i64 0)) 3, type := 4, pos := "law.go:50", after := #[{ on := 0, ground := Ground.data }], guard := none }) (v := ?hv22) rfl (by kernel_rfl) (by kernel_rfl) (by kernel_rfl) (fun _ _ _ h => h) (Or.inl ⟨by rfl, ?hy22⟩) (by assumption) ?_
      case hy22 => ((intro w hSw); (try dsimp only at hSw); go_simp; (try with_reducible rfl))
      try simp only [Act.put, List.setIfInBounds_toArray, List.set_cons_zero, List.set_cons_succ]
      refine wpAnyH_take (i := 2) (oi := { dst := some 62, op := Op.move (Operand.tmp 61), type := 4, pos := "law.go:50", after := #[{ on := 1, ground := Ground.data }], guard := none }) (v := ?hv23) rfl (by kernel_rfl) (by kernel_rfl) (by kernel_rfl) (fun _ _ _ h => h) (Or.inl ⟨by rfl, ?hy23⟩) (by assumption) ?_
      case hy23 => ((intro w hSw); (try dsimp only at hSw); go_simp; (try with_reducible rfl))
      try simp only [Act.put, List.setIfInBounds_toArray, List.set_cons_zero, List.set_cons_succ]
      refine wpAnyH_take (i := 3) (oi := { dst := some 63, op := Op.move (Operand.tmp 10), type := 3, pos := "law.go:50", after := #[{ on := 2, ground := Ground.guard }], guard := some (2, false) }) (v := ?hv24) rfl (by kernel_rfl) (by kernel_rfl) (by kernel_rfl) (fun _ _ _ h => h) (Or.inl ⟨by rfl, ?hy24⟩) (by assumption) ?_
      case hy24 => ((intro w hSw); (try dsimp only at hSw); go_simp; (try with_reducible rfl))
      try simp only [Act.put, List.setIfInBounds_toArray, List.set_cons_zero, List.set_cons_succ]
      refine wpAnyH_take (i := 4) (oi := { dst := some 64, op := Op.move (Operand.tmp 2), type := 26, pos := "law.go:50", after := #[{ on := 2, ground := Ground.guard }], guard := some (2, false) }) (v := ?hv25) rfl (by kernel_rfl) (by kernel_rfl) (by kernel_rfl) (fun _ _ _ h => h) (Or.inl ⟨by rfl, ?hy25⟩) (by assumption) ?_
      case hy25 => ((intro w hSw); (try dsimp only at hSw); go_simp; (try with_reducible rfl))
      try simp only [Act.put, List.setIfInBounds_toArray, List.set_cons_zero, List.set_cons_succ]
      refine wpAnyH_take (i := 5) (oi := { dst := some 65, op := Op.call { callee := Callee.builtin Builtin.len, args := #[Operand.tmp 64], argTypes := #[26] }, type := 3, pos := "law.go:50", after := #[{ on := 4, ground := Ground.data }, { on := 2, ground := Ground.guard }], guard := some (2, false) }) (v := ?hv26) rfl (by kernel_rfl) (by kernel_rfl) (by kernel_rfl) (fun _ _ _ h => h) (Or.inl ⟨by rfl, ?hy26⟩) (by assumption) ?_
      case hy26 => ((intro w hSw); (try dsimp only at hSw); go_simp; (try with_reducible rfl))
      try simp only [Act.put, List.setIfInBounds_toArray, List.set_cons_zero, List.set_cons_succ]
      refine wpAnyH_take (i := 6) (oi := { dst := some 66, op := Op.binOp BinOp.gtr 3 (Operand.tmp 63) (Operand.tmp 65) 3, type := 4, pos := "law.go:50", after := #[{ on := 3, ground := Ground.data }, { on := 5, ground := Ground.data }, { on := 2, ground := Ground.guard }], guard := some (2, false) }) (v := ?hv27) rfl (by kernel_rfl) (by kernel_rfl) (by kernel_rfl) (fun _ _ _ h => h) (Or.inl ⟨by rfl, ?hy27⟩) (by assumption) ?_
      case hy27 => ((intro w hSw); (try dsimp only at hSw); go_simp; (try with_reducible rfl))
      try simp only [Act.put, List.setIfInBounds_toArray, List.set_cons_zero, List.set_cons_succ]
      refine wpAnyH_take (i := 7) (oi := { dst := some 67, op := Op.pick (Operand.tmp 62) (Operand.const (Value.bool true)) (Operand.tmp 66), type := 4, pos := "law.go:50", after := #[{ on := 2, ground := Ground.data }, { on := 6, ground := Ground.data }], guard := none }) (v := ?hv28) rfl (by kernel_rfl) (by kernel_rfl) (by kernel_rfl) (fun _ _ _ h => h) (Or.inl ⟨by rfl, ?hy28⟩) (by assumption) ?_
      case hy28 => ((intro w hSw); (try dsimp only at hSw); go_simp; (try with_reducible rfl))
      try simp only [Act.put, List.setIfInBounds_toArray, List.set_cons_zero, List.set_cons_succ]
      refine wpAnyH_take (i := 8) (oi := { dst := some 68, op := Op.move (Operand.tmp 67), type := 4, pos := "law.go:50", after := #[{ on := 7, ground := Ground.data }, { on := 2, ground := Ground.chain }], guard := none }) (v := ?hv29) rfl (by kernel_rfl) (by kernel_rfl) (by kernel_rfl) (fun _ _ _ h => h) (Or.inl ⟨by rfl, ?hy29⟩) (by assumption) ?_
      case hy29 => ((intro w hSw); (try dsimp only at hSw); go_simp; (try with_reducible rfl))
      try simp only [Act.put, List.setIfInBounds_toArray, List.set_cons_zero, List.set_cons_succ]
      refine wpAnyH_take (i := 9) (oi := { dst := some 69, op := Op.move (Operand.tmp 11), type := 4, pos := "law.go:50", after := #[{ on := 8, ground := Ground.guard }], guard := some (8, false) }) (v := ?hv30) rfl (by kernel_rfl) (by kernel_rfl) (by kernel_rfl) (fun _ _ _ h => h) (Or.inl ⟨by rfl, ?hy30⟩) (by assumption) ?_
      case hy30 => ((intro w hSw); (try dsimp only at hSw); go_simp; (try with_reducible rfl))
      try simp only [Act.put, List.setIfInBounds_toArray, List.set_cons_zero, List.set_cons_succ]
      refine wpAnyH_take (i := 10) (oi := { dst := some 70, op := Op.move (Operand.tmp 69), type := 4, pos := "law.go:50", after := #[{ on := 9, ground := Ground.data }, { on := 8, ground := Ground.chain }, { on := 8, ground := Ground.guard }], guard := some (8, false) }) (v := ?hv31) rfl (by kernel_rfl) (by kernel_rfl) (by kernel_rfl) (fun _ _ _ h => h) (Or.inl ⟨by rfl, ?hy31⟩) (by assumption) ?_
      case hy31 => ((intro w hSw); (try dsimp only at hSw); go_simp; (try with_reducible rfl))
      try simp only [Act.put, List.setIfInBounds_toArray, List.set_cons_zero, List.set_cons_succ]
      refine wpAnyH_take (i := 11) (oi := { dst := some 71, op := Op.move (Operand.tmp 10), type := 3, pos := "law.go:50", after := #[{ on := 10, ground := Ground.guard }], guard := some (10, true) }) (v := ?hv32) rfl (by kernel_rfl) (by kernel_rfl) (by kernel_rfl) (fun _ _ _ h => h) (Or.inl ⟨by rfl, ?hy32⟩) (by assumption) ?_
      case hy32 => ((intro w hSw); (try dsimp only at hSw); go_simp; (try with_reducible rfl))
      try simp only [Act.put, List.setIfInBounds_toArray, List.set_cons_zero, List.set_cons_succ]
      refine wpAnyH_take (i := 12) (oi := { dst := some 72, op := Op.binOp BinOp.eql 3 (Operand.tmp 71) (Operand.const (Value.int IntKind.i64 0)) 3, type := 4, pos := "law.go:50", after := #[{ on := 11, ground := Ground.data }, { on := 10, ground := Ground.guard }], guard := some (10, true) }) (v := ?hv33) rfl (by kernel_rfl) (by kernel_rfl) (by kernel_rfl) (fun _ _ _ h => h) (Or.inl ⟨by rfl, ?hy33⟩) (by assumption) ?_
      case hy33 => ((intro w hSw); (try dsimp only at hSw); go_simp; (try with_reducible rfl))
      try simp only [Act.put, List.setIfInBounds_toArray, List.set_cons_zero, List.set_cons_succ]
      refine wpAnyH_take (i := 13) (oi := { dst := some 73, op := Op.move (Operand.tmp 72), type := 4, pos := "law.go:50", after := #[{ on := 12, ground := Ground.data }, { on := 10, ground := Ground.chain }, { on := 10, ground := Ground.guard }], guard := some (10, true) }) (v := ?hv34) rfl (by kernel_rfl) (by kernel_rfl) (by kernel_rfl) (fun _ _ _ h => h) (Or.inl ⟨by rfl, ?hy34⟩) (by assumption) ?_
      case hy34 => ((intro w hSw); (try dsimp only at hSw); go_simp; (try with_reducible rfl))
      try simp only [Act.put, List.setIfInBounds_toArray, List.set_cons_zero, List.set_cons_succ]
      refine wpAnyH_take (i := 14) (oi := { dst := some 74, op := Op.load 23 (Operand.tmp 4), type := 23, pos := "law.go:50", after := #[{ on := 13, ground := Ground.guard }], guard := some (13, false) }) (v := ?hv35) rfl (by kernel_rfl) (by kernel_rfl) (by kernel_rfl) (fun _ _ _ h => h) (Or.inl ⟨by rfl, ?hy35⟩) (by assumption) ?_
      case hy35 => ((intro w hSw); (try dsimp only at hSw); go_simp; (try with_reducible rfl))
      try simp only [Act.put, List.setIfInBounds_toArray, List.set_cons_zero, List.set_cons_succ]
      refine wpAnyH_take (i := 15) (oi := { dst := some 75, op := Op.load 25 (Operand.tmp 5), type := 25, pos := "law.go:50", after := #[{ on := 13, ground := Ground.guard }], guard := some (13, false) }) (v := ?hv36) rfl (by kernel_rfl) (by kernel_rfl) (by kernel_rfl) (fun _ _ _ h => h) (Or.inl ⟨by rfl, ?hy36⟩) (by assumption) ?_
      case hy36 => ((intro w hSw); (try dsimp only at hSw); go_simp; (try with_reducible rfl))
      try simp only [Act.put, List.setIfInBounds_toArray, List.set_cons_zero, List.set_cons_succ]
      refine wpAnyH_take (i := 16) (oi := { dst := some 76, op := Op.move (Operand.tmp 2), type := 26, pos := "law.go:50", after := #[{ on := 13, ground := Ground.guard }], guard := some (13, false) }) (v := ?hv37) rfl (by kernel_rfl) (by kernel_rfl) (by kernel_rfl) (fun _ _ _ h => h) (Or.inl ⟨by rfl, ?hy37⟩) (by assumption) ?_
      case hy37 => ((intro w hSw); (try dsimp only at hSw); go_simp; (try with_reducible rfl))
      try simp only [Act.put, List.setIfInBounds_toArray, List.set_cons_zero, List.set_cons_succ]
      refine wpAnyH_take (i := 17) (oi := { dst := some 77, op := Op.move (Operand.tmp 10), type := 3, pos := "law.go:50", after := #[{ on := 13, ground := Ground.guard }], guard := some (13, false) }) (v := ?hv38) rfl (by kernel_rfl) (by kernel_rfl) (by kernel_rfl) (fun _ _ _ h => h) (Or.inl ⟨by rfl, ?hy38⟩) (by assumption) ?_
      case hy38 => ((intro w hSw); (try dsimp only at hSw); go_simp; (try with_reducible rfl))
      try simp only [Act.put, List.setIfInBounds_toArray, List.set_cons_zero, List.set_cons_succ]
      refine wpAnyH_take (i := 18) (oi := { dst := some 78, op := Op.slice 26 (Operand.tmp 76) none (some (Operand.tmp 77)) none, type := 26, pos := "law.go:50", after := #[{ on := 16, ground := Ground.data }, { on := 17, ground := Ground.data }, { on := 13, ground := Ground.guard }], guard := some (13, false) }) (v := ?hv39) rfl (by kernel_rfl) (by kernel_rfl) (by kernel_rfl) (fun _ _ _ h => h) (Or.inl ⟨by rfl, ?hy39⟩) (by assumption) ?_
      case hy39 => ((intro w hSw); (try dsimp only at hSw); go_simp; (try with_reducible rfl))
      try simp only [Act.put, List.setIfInBounds_toArray, List.set_cons_zero, List.set_cons_succ]
      refine wpAnyH_ready (rs := [19]) (by kernel_rfl) (by simp) ?_
      refine AllReadyH.cons (o := { dst := some 79, op := Op.call { callee := Callee.value (Operand.func 11), args := #[Operand.tmp 74, Operand.tmp 75, Operand.tmp 78], argTypes := #[23, 25, 26] }, type := 4, pos := "law.go:50", after := #[{ on := 14, ground := Ground.data }, { on := 15, ground := Ground.data }, { on := 18, ground := Ground.data }, { on := 13, ground := Ground.chain }, { on := 13, ground := Ground.guard }], guard := some (13, false) }) rfl (fun K hK => ?_) AllReadyH.nil
      go_simp
      go_at_call 11; (with_reducible refine (CF.out _ R0.out).mono ?_); rintro e x1 ⟨rfl, b1⟩; have c1 := rl (r := r) c0 b1 L0 M0; have L1 := Nat.lt_of_lt_of_le L0 b1.size; have M1 := Nat.lt_of_lt_of_le M0 b1.size; have A1 := Lib.hid (A0.out.below b1 (Nat.le_refl _)); have B1 := Lib.hid (B0.out.below b1 (Nat.le_refl _)); have R1 := Lib.hid (R0.out.below b1 (Nat.le_refl _)); have H1 := Lib.hid (H0.out.trans (b1.mono H0.out.size)); clear b1
      refine hK.out _ _ ?_ (fun hHeld => ?_)
      · (try dsimp only); exact c1
      clear hK K
      try simp only [Act.put, List.setIfInBounds_toArray, List.set_cons_zero, List.set_cons_succ]
      refine wpAnyH_take (i := 20) (oi := { dst := some 80, op := Op.unOp UnOp.not 4 (Operand.tmp 79), type := 4, pos := "law.go:50", after := #[{ on := 19, ground := Ground.data }, { on := 13, ground := Ground.guard }], guard := some (13, false) }) (v := ?hv40) rfl (by kernel_rfl) (by kernel_rfl) (by kernel_rfl) (fun _ _ _ h => h) (Or.inl ⟨by rfl, ?hy40⟩) (by assumption) ?_
      case hy40 => ((intro w hSw); (try dsimp only at hSw); go_simp; (try with_reducible rfl))
      try simp only [Act.put, List.setIfInBounds_toArray, List.set_cons_zero, List.set_cons_succ]
      refine wpAnyH_take (i := 21) (oi := { dst := some 81, op := Op.pick (Operand.tmp 73) (Operand.const (Value.bool true)) (Operand.tmp 80), type := 4, pos := "law.go:50", after := #[{ on := 13, ground := Ground.data }, { on := 20, ground := Ground.data }, { on := 10, ground := Ground.guard }], guard := some (10, true) }) (v := ?hv41) rfl (by kernel_rfl) (by kernel_rfl) (by kernel_rfl) (fun _ _ _ h => h) (Or.inl ⟨by rfl, ?hy41⟩) (by assumption) ?_
      case hy41 => ((intro w hSw); (try dsimp only at hSw); go_simp; (try with_reducible rfl))
      try simp only [Act.put, List.setIfInBounds_toArray, List.set_cons_zero, List.set_cons_succ]
      refine wpAnyH_take (i := 22) (oi := { dst := some 82, op := Op.pick (Operand.tmp 70) (Operand.tmp 81) (Operand.const (Value.bool false)), type := 4, pos := "law.go:50", after := #[{ on := 10, ground := Ground.data }, { on := 21, ground := Ground.data }, { on := 8, ground := Ground.guard }], guard := some (8, false) }) (v := ?hv42) rfl (by kernel_rfl) (by kernel_rfl) (by kernel_rfl) (fun _ _ _ h => h) (Or.inl ⟨by rfl, ?hy42⟩) (by assumption) ?_
      case hy42 => ((intro w hSw); (try dsimp only at hSw); go_simp; (try with_reducible rfl))
      try simp only [Act.put, List.setIfInBounds_toArray, List.set_cons_zero, List.set_cons_succ]
      refine wpAnyH_take (i := 23) (oi := { dst := some 83, op := Op.pick (Operand.tmp 68) (Operand.const (Value.bool true)) (Operand.tmp 82), type := 4, pos := "law.go:50", after := #[{ on := 8, ground := Ground.data }, { on := 22, ground := Ground.data }], guard := none }) (v := ?hv43) rfl (by kernel_rfl) (by kernel_rfl) (by kernel_rfl) (fun _ _ _ h => h) (Or.inl ⟨by rfl, ?hy43⟩) (by assumption) ?_
      case hy43 => ((intro w hSw); (try dsimp only at hSw); go_simp; (try with_reducible rfl))
      try simp only [Act.put, List.setIfInBounds_toArray, List.set_cons_zero, List.set_cons_succ]
      refine wpAnyH_take (i := 24) (oi := { dst := some 84, op := Op.move (Operand.tmp 83), type := 4, pos := "law.go:50", after := #[{ on := 23, ground := Ground.data }, { on := 19, ground := Ground.chain }], guard := none }) (v := ?hv44) rfl (by kernel_rfl) (by kernel_rfl) (by kernel_rfl) (fun _ _ _ h => h) (Or.inl ⟨by rfl, ?hy44⟩) (by assumption) ?_
      case hy44 => ((intro w hSw); (try dsimp only at hSw); go_simp; (try with_reducible rfl))
      try simp only [Act.put, List.setIfInBounds_toArray, List.set_cons_zero, List.set_cons_succ]
      refine wpAnyH_take (i := 25) (oi := { dst := some 85, op := Op.move (Operand.tmp 11), type := 4, pos := "law.go:50", after := #[{ on := 24, ground := Ground.guard }], guard := some (24, false) }) (v := ?hv45) rfl (by kernel_rfl) (by kernel_rfl) (by kernel_rfl) (fun _ _ _ h => h) (Or.inl ⟨by rfl, ?hy45⟩) (by assumption) ?_
      case hy45 => ((intro w hSw); (try dsimp only at hSw); go_simp; (try with_reducible rfl))
      try simp only [Act.put, List.setIfInBounds_toArray, List.set_cons_zero, List.set_cons_succ]
      refine wpAnyH_take (i := 26) (oi := { dst := some 86, op := Op.move (Operand.tmp 85), type := 4, pos := "law.go:50", after := #[{ on := 25, ground := Ground.data }, { on := 24, ground := Ground.chain }, { on := 24, ground := Ground.guard }], guard := some (24, false) }) (v := ?hv46) rfl (by kernel_rfl) (by kernel_rfl) (by kernel_rfl) (fun _ _ _ h => h) (Or.inl ⟨by rfl, ?hy46⟩) (by assumption) ?_
      case hy46 => ((intro w hSw); (try dsimp only at hSw); go_simp; (try with_reducible rfl))
      try simp only [Act.put, List.setIfInBounds_toArray, List.set_cons_zero, List.set_cons_succ]
      refine wpAnyH_take (i := 27) (oi := { dst := some 87, op := Op.move (Operand.tmp 10), type := 3, pos := "law.go:50", after := #[{ on := 26, ground := Ground.guard }], guard := some (26, true) }) (v := ?hv47) rfl (by kernel_rfl) (by kernel_rfl) (by kernel_rfl) (fun _ _ _ h => h) (Or.inl ⟨by rfl, ?hy47⟩) (by assumption) ?_
      case hy47 => ((intro w hSw); (try dsimp only at hSw); go_simp; (try with_reducible rfl))
      try simp only [Act.put, List.setIfInBounds_toArray, List.set_cons_zero, List.set_cons_succ]
      refine wpAnyH_take (i := 28) (oi := { dst := some 88, op := Op.move (Operand.tmp 2), type := 26, pos := "law.go:50", after := #[{ on := 26, ground := Ground.guard }], guard := some (26, true) }) (v := ?hv48) rfl (by kernel_rfl) (by kernel_rfl) (by kernel_rfl) (fun _ _ _ h => h) (Or.inl ⟨by rfl, ?hy48⟩) (by assumption) ?_
      case hy48 => ((intro w hSw); (try dsimp only at hSw); go_simp; (try with_reducible rfl))
      try simp only [Act.put, List.setIfInBounds_toArray, List.set_cons_zero, List.set_cons_succ]
      refine wpAnyH_take (i := 29) (oi := { dst := some 89, op := Op.call { callee := Callee.builtin Builtin.len, args := #[Operand.tmp 88], argTypes := #[26] }, type := 3, pos := "law.go:50", after := #[{ on := 28, ground := Ground.data }, { on := 26, ground := Ground.guard }], guard := some (26, true) }) (v := ?hv49) rfl (by kernel_rfl) (by kernel_rfl) (by kernel_rfl) (fun _ _ _ h => h) (Or.inl ⟨by rfl, ?hy49⟩) (by assumption) ?_
      case hy49 => ((intro w hSw); (try dsimp only at hSw); go_simp; (try with_reducible rfl))
      try simp only [Act.put, List.setIfInBounds_toArray, List.set_cons_zero, List.set_cons_succ]
      refine wpAnyH_take (i := 30) (oi := { dst := some 90, op := Op.binOp BinOp.lss 3 (Operand.tmp 87) (Operand.tmp 89) 3, type := 4, pos := "law.go:50", after := #[{ on := 27, ground := Ground.data }, { on := 29, ground := Ground.data }, { on := 26, ground := Ground.guard }], guard := some (26, true) }) (v := ?hv50) rfl (by kernel_rfl) (by kernel_rfl) (by kernel_rfl) (fun _ _ _ h => h) (Or.inl ⟨by rfl, ?hy50⟩) (by assumption) ?_
      case hy50 => ((intro w hSw); (try dsimp only at hSw); go_simp; (try with_reducible rfl))
      try simp only [Act.put, List.setIfInBounds_toArray, List.set_cons_zero, List.set_cons_succ]
      refine wpAnyH_take (i := 31) (oi := { dst := some 91, op := Op.pick (Operand.tmp 86) (Operand.tmp 90) (Operand.const (Value.bool false)), type := 4, pos := "law.go:50", after := #[{ on := 26, ground := Ground.data }, { on := 30, ground := Ground.data }, { on := 24, ground := Ground.guard }], guard := some (24, false) }) (v := ?hv51) rfl (by kernel_rfl) (by kernel_rfl) (by kernel_rfl) (fun _ _ _ h => h) (Or.inl ⟨by rfl, ?hy51⟩) (by assumption) ?_
      case hy51 => ((intro w hSw); (try dsimp only at hSw); go_simp; (try with_reducible rfl))
      try simp only [Act.put, List.setIfInBounds_toArray, List.set_cons_zero, List.set_cons_succ]
      refine wpAnyH_take (i := 32) (oi := { dst := some 92, op := Op.move (Operand.tmp 91), type := 4, pos := "law.go:50", after := #[{ on := 31, ground := Ground.data }, { on := 26, ground := Ground.chain }, { on := 24, ground := Ground.guard }], guard := some (24, false) }) (v := ?hv52) rfl (by kernel_rfl) (by kernel_rfl) (by kernel_rfl) (fun _ _ _ h => h) (Or.inl ⟨by rfl, ?hy52⟩) (by assumption) ?_
      case hy52 => ((intro w hSw); (try dsimp only at hSw); go_simp; (try with_reducible rfl))
      try simp only [Act.put, List.setIfInBounds_toArray, List.set_cons_zero, List.set_cons_succ]
      refine wpAnyH_take (i := 33) (oi := { dst := some 93, op := Op.load 23 (Operand.tmp 4), type := 23, pos := "law.go:50", after := #[{ on := 32, ground := Ground.guard }], guard := some (32, true) }) (v := undef) rfl (by kernel_rfl) (by kernel_rfl) (by kernel_rfl) (fun _ _ _ h => h) (Or.inr ⟨by rfl, rfl⟩) (by assumption) ?_
      try simp only [Act.put, List.setIfInBounds_toArray, List.set_cons_zero, List.set_cons_succ]
      refine wpAnyH_take (i := 34) (oi := { dst := some 94, op := Op.load 25 (Operand.tmp 5), type := 25, pos := "law.go:50", after := #[{ on := 32, ground := Ground.guard }], guard := some (32, true) }) (v := undef) rfl (by kernel_rfl) (by kernel_rfl) (by kernel_rfl) (fun _ _ _ h => h) (Or.inr ⟨by rfl, rfl⟩) (by assumption) ?_
      try simp only [Act.put, List.setIfInBounds_toArray, List.set_cons_zero, List.set_cons_succ]
      refine wpAnyH_take (i := 35) (oi := { dst := some 95, op := Op.move (Operand.tmp 2), type := 26, pos := "law.go:50", after := #[{ on := 32, ground := Ground.guard }], guard := some (32, true) }) (v := undef) rfl (by kernel_rfl) (by kernel_rfl) (by kernel_rfl) (fun _ _ _ h => h) (Or.inr ⟨by rfl, rfl⟩) (by assumption) ?_
      try simp only [Act.put, List.setIfInBounds_toArray, List.set_cons_zero, List.set_cons_succ]
      refine wpAnyH_take (i := 36) (oi := { dst := some 96, op := Op.move (Operand.tmp 10), type := 3, pos := "law.go:50", after := #[{ on := 32, ground := Ground.guard }], guard := some (32, true) }) (v := undef) rfl (by kernel_rfl) (by kernel_rfl) (by kernel_rfl) (fun _ _ _ h => h) (Or.inr ⟨by rfl, rfl⟩) (by assumption) ?_
      try simp only [Act.put, List.setIfInBounds_toArray, List.set_cons_zero, List.set_cons_succ]
      refine wpAnyH_take (i := 37) (oi := { dst := some 97, op := Op.binOp BinOp.add 3 (Operand.tmp 96) (Operand.const (Value.int IntKind.i64 1)) 3, type := 3, pos := "law.go:50", after := #[{ on := 36, ground := Ground.data }, { on := 32, ground := Ground.guard }], guard := some (32, true) }) (v := undef) rfl (by kernel_rfl) (by kernel_rfl) (by kernel_rfl) (fun _ _ _ h => h) (Or.inr ⟨by rfl, rfl⟩) (by assumption) ?_
      try simp only [Act.put, List.setIfInBounds_toArray, List.set_cons_zero, List.set_cons_succ]
      refine wpAnyH_take (i := 38) (oi := { dst := some 98, op := Op.slice 26 (Operand.tmp 95) none (some (Operand.tmp 97)) none, type := 26, pos := "law.go:50", after := #[{ on := 35, ground := Ground.data }, { on := 37, ground := Ground.data }, { on := 32, ground := Ground.guard }], guard := some (32, true) }) (v := undef) rfl (by kernel_rfl) (by kernel_rfl) (by kernel_rfl) (fun _ _ _ h => h) (Or.inr ⟨by rfl, rfl⟩) (by assumption) ?_
      try simp only [Act.put, List.setIfInBounds_toArray, List.set_cons_zero, List.set_cons_succ]
      refine wpAnyH_take (i := 39) (oi := { dst := some 99, op := Op.call { callee := Callee.value (Operand.func 11), args := #[Operand.tmp 93, Operand.tmp 94, Operand.tmp 98], argTypes := #[23, 25, 26] }, type := 4, pos := "law.go:50", after := #[{ on := 33, ground := Ground.data }, { on := 34, ground := Ground.data }, { on := 38, ground := Ground.data }, { on := 32, ground := Ground.chain }, { on := 32, ground := Ground.guard }], guard := some (32, true) }) (v := undef) rfl (by kernel_rfl) (by kernel_rfl) (by kernel_rfl) (fun _ _ _ h => h) (Or.inr ⟨by rfl, rfl⟩) (by assumption) ?_
      try simp only [Act.put, List.setIfInBounds_toArray, List.set_cons_zero, List.set_cons_succ]
      refine wpAnyH_take (i := 40) (oi := { dst := some 100, op := Op.pick (Operand.tmp 92) (Operand.tmp 99) (Operand.const (Value.bool false)), type := 4, pos := "law.go:50", after := #[{ on := 32, ground := Ground.data }, { on := 39, ground := Ground.data }, { on := 24, ground := Ground.guard }], guard := some (24, false) }) (v := ?hv53) rfl (by kernel_rfl) (by kernel_rfl) (by kernel_rfl) (fun _ _ _ h => h) (Or.inl ⟨by rfl, ?hy53⟩) (by assumption) ?_
      case hy53 => ((intro w hSw); (try dsimp only at hSw); go_simp; (try with_reducible rfl))
      try simp only [Act.put, List.setIfInBounds_toArray, List.set_cons_zero, List.set_cons_succ]
      refine wpAnyH_take (i := 41) (oi := { dst := some 101, op := Op.pick (Operand.tmp 84) (Operand.const (Value.bool true)) (Operand.tmp 100), type := 4, pos := "law.go:50", after := #[{ on := 24, ground := Ground.data }, { on := 40, ground := Ground.data }], guard := none }) (v := ?hv54) rfl (by kernel_rfl) (by kernel_rfl) (by kernel_rfl) (fun _ _ _ h => h) (Or.inl ⟨by rfl, ?hy54⟩) (by assumption) ?_
      case hy54 => ((intro w hSw); (try dsimp only at hSw); go_simp; (try with_reducible rfl))
      try simp only [Act.put, List.setIfInBounds_toArray, List.set_cons_zero, List.set_cons_succ]
      refine wpAnyH_done (by kernel_rfl) ?_ _
      have HA4 := A1
      have HB4 := B1
      have HR4 := R1
      have BB4 := H1
      clear c0 c1 L0 M0 A0 B0 R0 H0 L1 M1 A1 B1 R1 H1 s1 s2 s3 hd0 hd2 hd3 hd4
      go_wp2_with fail
      go_loopw [12] (fun i wr => ∃ k : Nat, k ≤ j ∧ i = .int .i64 ((k : Int) + 1) ∧ RtB wr w.heap.size r ∧ LmB wr (w.heap.size + 1) C B T ∧ RowN wr A n Cp L ∧ Below w.heap.size w wr) (fun i _ => j + 1 - (intOf i).toNat)
      case atStart => exact ⟨0, Nat.zero_le _, by go_num, HA4.out, HB4.out, HR4.out, BB4.out⟩
      case round =>
        obtain ⟨k, hk, rfl, hA, hB, hR, hb⟩ := hrel
        have HA5 := Lib.hid hA
        have HB5 := Lib.hid hB
        have HR5 := Lib.hid hR
        have BB5 := Lib.hid hb
        clear hA hB hR hb HA4 HB4 HR4 BB4
        obtain ⟨e0, e1, e2, e3, e4⟩ := HA5.out.cells
        obtain ⟨f0, f1, f2⟩ := HB5.out.cells
        have za := HA5.out.lt
        have zb := HB5.out.lt
        by_cases hkj : k < j
        case pos =>
          have hdj : decide ((k : Int) + 1 < (j : Int) + 1) = true := decide_eq_true (by omega)
          have CF := Lib.hid (fun (w : World) (h : RowN w A n Cp L) => DF.out (k + 1) w h (by omega))
          have HF := Lib.hid (show fitsP r C B T (L.take (k + 1)) = true from fit_down (j := k + 1) HFJ.out (by omega) (by omega))
          rw [HF.out] at CF
          have s1 : (0 : Int) ≤ (k : Int) + 1 := by omega
          have s2 : (k : Int) + 1 ≤ (Cp : Int) := by omega
          have s3 : ((k : Int) + 1).toNat = k + 1 := by omega
          go_wp2_with fail
          have c0 : wr.drew.cell? ⟨w.heap.size, 0, none⟩ = some (.int .i64 r.m) ∧ wr.drew.cell? ⟨w.heap.size, 1, none⟩ = some (.int .i64 r.c) ∧ wr.drew.cell? ⟨w.heap.size, 2, none⟩ = some (.int .i64 r.s) ∧ wr.drew.cell? ⟨w.heap.size, 3, none⟩ = some (.int .i64 r.w) ∧ wr.drew.cell? ⟨w.heap.size, 4, none⟩ = some (.int .i64 r.g) ∧ wr.drew.cell? ⟨w.heap.size + 1, 0, none⟩ = some (.int .i64 C) ∧ wr.drew.cell? ⟨w.heap.size + 1, 1, none⟩ = some (.int .i64 B) ∧ wr.drew.cell? ⟨w.heap.size + 1, 2, none⟩ = some (.int .i64 T) := ⟨e0, e1, e2, e3, e4, f0, f1, f2⟩
          have L0 : w.heap.size < wr.drew.heap.size := za
          have M0 : w.heap.size + 1 < wr.drew.heap.size := zb
          have A0 := Lib.hid (show RtB wr.drew w.heap.size r from HA5.out)
          have B0 := Lib.hid (show LmB wr.drew (w.heap.size + 1) C B T from HB5.out)
          have R0 := Lib.hid (show RowN wr.drew A n Cp L from HR5.out)
          have H0 := Lib.hid (show Below w.heap.size w wr.drew from BB5.out.trans (Below.drew (Below.refl _ _)))
          clear HA5 HB5 HR5 BB5 e0 e1 e2 e3 e4 f0 f1 f2 za zb
          go_region_held3 (fun y => y.cell? ⟨w.heap.size, 0, none⟩ = some (.int .i64 r.m) ∧ y.cell? ⟨w.heap.size, 1, none⟩ = some (.int .i64 r.c) ∧ y.cell? ⟨w.heap.size, 2, none⟩ = some (.int .i64 r.s) ∧ y.cell? ⟨w.heap.size, 3, none⟩ = some (.int .i64 r.w) ∧ y.cell? ⟨w.heap.size, 4, none⟩ = some (.int .i64 r.g) ∧ y.cell? ⟨w.heap.size + 1, 0, none⟩ = some (.int .i64 C) ∧ y.cell? ⟨w.heap.size + 1, 1, none⟩ = some (.int .i64 B) ∧ y.cell? ⟨w.heap.size + 1, 2, none⟩ = some (.int .i64 T))
            (first | exact c0 | exact c1)
            ((go_at_call 11; (with_reducible refine (CF.out _ R0.out).mono ?_); rintro e x1 ⟨rfl, b1⟩; have c1 := rl (r := r) c0 b1 L0 M0; have L1 := Nat.lt_of_lt_of_le L0 b1.size; have M1 := Nat.lt_of_lt_of_le M0 b1.size; have A1 := Lib.hid (A0.out.below b1 (Nat.le_refl _)); have B1 := Lib.hid (B0.out.below b1 (Nat.le_refl _)); have R1 := Lib.hid (R0.out.below b1 (Nat.le_refl _)); have H1 := Lib.hid (H0.out.trans (b1.mono H0.out.size)); clear b1))
          clear c0 c1 s1 s2 s3
          go_wp2_with fail
          go_roundw
          case rel => exact ⟨k + 1, by omega, by go_num, A1.out, B1.out, R1.out, H1.out⟩
          case measure => simp [intOf]; omega
        case neg =>
          obtain rfl : k = j := by omega
          have hdj : decide ((k : Int) + 1 < (k : Int) + 1) = false := decide_eq_false (by omega)
          go_wp2_with fail
          refine (number_any m 100 _ (by omega) (by omega) m0 m1).mono ?_
          rintro e w9 ⟨rfl, rfl⟩
          rw [ep]
          go_wp2_with fail
          have HRn := Lib.hid (HR5.out.alloc (.cells #[.int .i64 (C + (p : Int)), .int .i64 (B + (p : Int)), .int .i64 (T + (p : Int))] 25))
          have BBn := Lib.hid (BB5.out.alloc BB5.out.size (.cells #[.int .i64 (C + (p : Int)), .int .i64 (B + (p : Int)), .int .i64 (T + (p : Int))] 25))
          refine (D2.out _ HRn.out).mono ?_
          rintro e w8 ⟨rfl, hb⟩
          have BB8 := Lib.hid (BBn.out.trans (hb.mono BBn.out.size))
          clear hb e0 e1 e2 e3 e4 f0 f1 f2
          rw [HCG.out]
          have hd9 : decide ((k : Int) + 1 ≤ (g : Int) + 1) = true := decide_eq_true (by omega)
          go_wp2_with fail
          go_ret
          exact ⟨rfl, BB8.out⟩
    case pos =>
      have hd4 : decide ((j : Int) + 1 < (n : Int)) = true := decide_eq_true (by omega)
      have s4 : IntKind.i64.wrap ((j : Int) + 1 + 1) = (j : Int) + 1 + 1 := IntWalk.i64_in _ (by omega)
      have s5 : (0 : Int) ≤ (j : Int) + 1 + 1 := by omega
      have s6 : (j : Int) + 1 + 1 ≤ (Cp : Int) := by omega
      have s7 : ((j : Int) + 1 + 1).toNat = j + 1 + 1 := by omega
      have CG := Lib.hid (fun (w : World) (h : RowN w A n Cp L) => DF.out (j + 1 + 1) w h (by omega))
      rw [show fitsP r C B T (L.take (j + 1 + 1)) = false from HMORE.out hjn] at CG
      go_wp2_with fail
      have c0 : w2.drew.cell? ⟨w.heap.size, 0, none⟩ = some (.int .i64 r.m) ∧ w2.drew.cell? ⟨w.heap.size, 1, none⟩ = some (.int .i64 r.c) ∧ w2.drew.cell? ⟨w.heap.size, 2, none⟩ = some (.int .i64 r.s) ∧ w2.drew.cell? ⟨w.heap.size, 3, none⟩ = some (.int .i64 r.w) ∧ w2.drew.cell? ⟨w.heap.size, 4, none⟩ = some (.int .i64 r.g) ∧ w2.drew.cell? ⟨w.heap.size + 1, 0, none⟩ = some (.int .i64 C) ∧ w2.drew.cell? ⟨w.heap.size + 1, 1, none⟩ = some (.int .i64 B) ∧ w2.drew.cell? ⟨w.heap.size + 1, 2, none⟩ = some (.int .i64 T) := ⟨e0, e1, e2, e3, e4, f0, f1, f2⟩
      have L0 : w.heap.size < w2.drew.heap.size := za
      have M0 : w.heap.size + 1 < w2.drew.heap.size := zb
      have A0 := Lib.hid (show RtB w2.drew w.heap.size r from HA2.out)
      have B0 := Lib.hid (show LmB w2.drew (w.heap.size + 1) C B T from HB2.out)
      have R0 := Lib.hid (show RowN w2.drew A n Cp L from HR2.out)
      have H0 := Lib.hid (show Below w.heap.size w w2.drew from BB2.out.trans (Below.drew (Below.refl _ _)))
      clear HA2 HB2 HR2 BB2 e0 e1 e2 e3 e4 f0 f1 f2 za zb
      refine wp_region_held_drew (S := (fun y => y.cell? ⟨w.heap.size, 0, none⟩ = some (.int .i64 r.m) ∧ y.cell? ⟨w.heap.size, 1, none⟩ = some (.int .i64 r.c) ∧ y.cell? ⟨w.heap.size, 2, none⟩ = some (.int .i64 r.s) ∧ y.cell? ⟨w.heap.size, 3, none⟩ = some (.int .i64 r.w) ∧ y.cell? ⟨w.heap.size, 4, none⟩ = some (.int .i64 r.g) ∧ y.cell? ⟨w.heap.size + 1, 0, none⟩ = some (.int .i64 C) ∧ y.cell? ⟨w.heap.size + 1, 1, none⟩ = some (.int .i64 B) ∧ y.cell? ⟨w.heap.size + 1, 2, none⟩ = some (.int .i64 T))) (by kernel_rfl) ?_ (fun hHeld => ?_)
      · (try dsimp only); exact c0
      refine wpAnyH_take (i := 0) (oi := { dst := some 60, op := Op.move (Operand.tmp 10), type := 3, pos := "law.go:50", after := #[], guard := none }) (v := ?hv55) rfl (by kernel_rfl) (by kernel_rfl) (by kernel_rfl) (fun _ _ _ h => h) (Or.inl ⟨by rfl, ?hy55⟩) (by assumption) ?_
      case hy55 => ((intro w hSw); (try dsimp only at hSw); go_simp; (try with_reducible rfl))
      try simp only [Act.put, List.setIfInBounds_toArray, List.set_cons_zero, List.set_cons_succ]
      refine wpAnyH_take (i := 1) (oi := { dst := some 61, op := Op.binOp BinOp.lss 3 (Operand.tmp 60) (Operand.const (Value.int IntKind.i64 0)) 3, type := 4, pos := "law.go:50", after := #[{ on := 0, ground := Ground.data }], guard := none }) (v := ?hv56) rfl (by kernel_rfl) (by kernel_rfl) (by kernel_rfl) (fun _ _ _ h => h) (Or.inl ⟨by rfl, ?hy56⟩) (by assumption) ?_
      case hy56 => ((intro w hSw); (try dsimp only at hSw); go_simp; (try with_reducible rfl))
      try simp only [Act.put, List.setIfInBounds_toArray, List.set_cons_zero, List.set_cons_succ]
      refine wpAnyH_take (i := 2) (oi := { dst := some 62, op := Op.move (Operand.tmp 61), type := 4, pos := "law.go:50", after := #[{ on := 1, ground := Ground.data }], guard := none }) (v := ?hv57) rfl (by kernel_rfl) (by kernel_rfl) (by kernel_rfl) (fun _ _ _ h => h) (Or.inl ⟨by rfl, ?hy57⟩) (by assumption) ?_
      case hy57 => ((intro w hSw); (try dsimp only at hSw); go_simp; (try with_reducible rfl))
      try simp only [Act.put, List.setIfInBounds_toArray, List.set_cons_zero, List.set_cons_succ]
      refine wpAnyH_take (i := 3) (oi := { dst := some 63, op := Op.move (Operand.tmp 10), type := 3, pos := "law.go:50", after := #[{ on := 2, ground := Ground.guard }], guard := some (2, false) }) (v := ?hv58) rfl (by kernel_rfl) (by kernel_rfl) (by kernel_rfl) (fun _ _ _ h => h) (Or.inl ⟨by rfl, ?hy58⟩) (by assumption) ?_
      case hy58 => ((intro w hSw); (try dsimp only at hSw); go_simp; (try with_reducible rfl))
      try simp only [Act.put, List.setIfInBounds_toArray, List.set_cons_zero, List.set_cons_succ]
      refine wpAnyH_take (i := 4) (oi := { dst := some 64, op := Op.move (Operand.tmp 2), type := 26, pos := "law.go:50", after := #[{ on := 2, ground := Ground.guard }], guard := some (2, false) }) (v := ?hv59) rfl (by kernel_rfl) (by kernel_rfl) (by kernel_rfl) (fun _ _ _ h => h) (Or.inl ⟨by rfl, ?hy59⟩) (by assumption) ?_
      case hy59 => ((intro w hSw); (try dsimp only at hSw); go_simp; (try with_reducible rfl))
      try simp only [Act.put, List.setIfInBounds_toArray, List.set_cons_zero, List.set_cons_succ]
      refine wpAnyH_take (i := 5) (oi := { dst := some 65, op := Op.call { callee := Callee.builtin Builtin.len, args := #[Operand.tmp 64], argTypes := #[26] }, type := 3, pos := "law.go:50", after := #[{ on := 4, ground := Ground.data }, { on := 2, ground := Ground.guard }], guard := some (2, false) }) (v := ?hv60) rfl (by kernel_rfl) (by kernel_rfl) (by kernel_rfl) (fun _ _ _ h => h) (Or.inl ⟨by rfl, ?hy60⟩) (by assumption) ?_
      case hy60 => ((intro w hSw); (try dsimp only at hSw); go_simp; (try with_reducible rfl))
      try simp only [Act.put, List.setIfInBounds_toArray, List.set_cons_zero, List.set_cons_succ]
      refine wpAnyH_take (i := 6) (oi := { dst := some 66, op := Op.binOp BinOp.gtr 3 (Operand.tmp 63) (Operand.tmp 65) 3, type := 4, pos := "law.go:50", after := #[{ on := 3, ground := Ground.data }, { on := 5, ground := Ground.data }, { on := 2, ground := Ground.guard }], guard := some (2, false) }) (v := ?hv61) rfl (by kernel_rfl) (by kernel_rfl) (by kernel_rfl) (fun _ _ _ h => h) (Or.inl ⟨by rfl, ?hy61⟩) (by assumption) ?_
      case hy61 => ((intro w hSw); (try dsimp only at hSw); go_simp; (try with_reducible rfl))
      try simp only [Act.put, List.setIfInBounds_toArray, List.set_cons_zero, List.set_cons_succ]
      refine wpAnyH_take (i := 7) (oi := { dst := some 67, op := Op.pick (Operand.tmp 62) (Operand.const (Value.bool true)) (Operand.tmp 66), type := 4, pos := "law.go:50", after := #[{ on := 2, ground := Ground.data }, { on := 6, ground := Ground.data }], guard := none }) (v := ?hv62) rfl (by kernel_rfl) (by kernel_rfl) (by kernel_rfl) (fun _ _ _ h => h) (Or.inl ⟨by rfl, ?hy62⟩) (by assumption) ?_
      case hy62 => ((intro w hSw); (try dsimp only at hSw); go_simp; (try with_reducible rfl))
      try simp only [Act.put, List.setIfInBounds_toArray, List.set_cons_zero, List.set_cons_succ]
      refine wpAnyH_take (i := 8) (oi := { dst := some 68, op := Op.move (Operand.tmp 67), type := 4, pos := "law.go:50", after := #[{ on := 7, ground := Ground.data }, { on := 2, ground := Ground.chain }], guard := none }) (v := ?hv63) rfl (by kernel_rfl) (by kernel_rfl) (by kernel_rfl) (fun _ _ _ h => h) (Or.inl ⟨by rfl, ?hy63⟩) (by assumption) ?_
      case hy63 => ((intro w hSw); (try dsimp only at hSw); go_simp; (try with_reducible rfl))
      try simp only [Act.put, List.setIfInBounds_toArray, List.set_cons_zero, List.set_cons_succ]
      refine wpAnyH_take (i := 9) (oi := { dst := some 69, op := Op.move (Operand.tmp 11), type := 4, pos := "law.go:50", after := #[{ on := 8, ground := Ground.guard }], guard := some (8, false) }) (v := ?hv64) rfl (by kernel_rfl) (by kernel_rfl) (by kernel_rfl) (fun _ _ _ h => h) (Or.inl ⟨by rfl, ?hy64⟩) (by assumption) ?_
      case hy64 => ((intro w hSw); (try dsimp only at hSw); go_simp; (try with_reducible rfl))
      try simp only [Act.put, List.setIfInBounds_toArray, List.set_cons_zero, List.set_cons_succ]
      refine wpAnyH_take (i := 10) (oi := { dst := some 70, op := Op.move (Operand.tmp 69), type := 4, pos := "law.go:50", after := #[{ on := 9, ground := Ground.data }, { on := 8, ground := Ground.chain }, { on := 8, ground := Ground.guard }], guard := some (8, false) }) (v := ?hv65) rfl (by kernel_rfl) (by kernel_rfl) (by kernel_rfl) (fun _ _ _ h => h) (Or.inl ⟨by rfl, ?hy65⟩) (by assumption) ?_
      case hy65 => ((intro w hSw); (try dsimp only at hSw); go_simp; (try with_reducible rfl))
      try simp only [Act.put, List.setIfInBounds_toArray, List.set_cons_zero, List.set_cons_succ]
      refine wpAnyH_take (i := 11) (oi := { dst := some 71, op := Op.move (Operand.tmp 10), type := 3, pos := "law.go:50", after := #[{ on := 10, ground := Ground.guard }], guard := some (10, true) }) (v := ?hv66) rfl (by kernel_rfl) (by kernel_rfl) (by kernel_rfl) (fun _ _ _ h => h) (Or.inl ⟨by rfl, ?hy66⟩) (by assumption) ?_
      case hy66 => ((intro w hSw); (try dsimp only at hSw); go_simp; (try with_reducible rfl))
      try simp only [Act.put, List.setIfInBounds_toArray, List.set_cons_zero, List.set_cons_succ]
      refine wpAnyH_take (i := 12) (oi := { dst := some 72, op := Op.binOp BinOp.eql 3 (Operand.tmp 71) (Operand.const (Value.int IntKind.i64 0)) 3, type := 4, pos := "law.go:50", after := #[{ on := 11, ground := Ground.data }, { on := 10, ground := Ground.guard }], guard := some (10, true) }) (v := ?hv67) rfl (by kernel_rfl) (by kernel_rfl) (by kernel_rfl) (fun _ _ _ h => h) (Or.inl ⟨by rfl, ?hy67⟩) (by assumption) ?_
      case hy67 => ((intro w hSw); (try dsimp only at hSw); go_simp; (try with_reducible rfl))
      try simp only [Act.put, List.setIfInBounds_toArray, List.set_cons_zero, List.set_cons_succ]
      refine wpAnyH_take (i := 13) (oi := { dst := some 73, op := Op.move (Operand.tmp 72), type := 4, pos := "law.go:50", after := #[{ on := 12, ground := Ground.data }, { on := 10, ground := Ground.chain }, { on := 10, ground := Ground.guard }], guard := some (10, true) }) (v := ?hv68) rfl (by kernel_rfl) (by kernel_rfl) (by kernel_rfl) (fun _ _ _ h => h) (Or.inl ⟨by rfl, ?hy68⟩) (by assumption) ?_
      case hy68 => ((intro w hSw); (try dsimp only at hSw); go_simp; (try with_reducible rfl))
      try simp only [Act.put, List.setIfInBounds_toArray, List.set_cons_zero, List.set_cons_succ]
      refine wpAnyH_take (i := 14) (oi := { dst := some 74, op := Op.load 23 (Operand.tmp 4), type := 23, pos := "law.go:50", after := #[{ on := 13, ground := Ground.guard }], guard := some (13, false) }) (v := ?hv69) rfl (by kernel_rfl) (by kernel_rfl) (by kernel_rfl) (fun _ _ _ h => h) (Or.inl ⟨by rfl, ?hy69⟩) (by assumption) ?_
      case hy69 => ((intro w hSw); (try dsimp only at hSw); go_simp; (try with_reducible rfl))
      try simp only [Act.put, List.setIfInBounds_toArray, List.set_cons_zero, List.set_cons_succ]
      refine wpAnyH_take (i := 15) (oi := { dst := some 75, op := Op.load 25 (Operand.tmp 5), type := 25, pos := "law.go:50", after := #[{ on := 13, ground := Ground.guard }], guard := some (13, false) }) (v := ?hv70) rfl (by kernel_rfl) (by kernel_rfl) (by kernel_rfl) (fun _ _ _ h => h) (Or.inl ⟨by rfl, ?hy70⟩) (by assumption) ?_
      case hy70 => ((intro w hSw); (try dsimp only at hSw); go_simp; (try with_reducible rfl))
      try simp only [Act.put, List.setIfInBounds_toArray, List.set_cons_zero, List.set_cons_succ]
      refine wpAnyH_take (i := 16) (oi := { dst := some 76, op := Op.move (Operand.tmp 2), type := 26, pos := "law.go:50", after := #[{ on := 13, ground := Ground.guard }], guard := some (13, false) }) (v := ?hv71) rfl (by kernel_rfl) (by kernel_rfl) (by kernel_rfl) (fun _ _ _ h => h) (Or.inl ⟨by rfl, ?hy71⟩) (by assumption) ?_
      case hy71 => ((intro w hSw); (try dsimp only at hSw); go_simp; (try with_reducible rfl))
      try simp only [Act.put, List.setIfInBounds_toArray, List.set_cons_zero, List.set_cons_succ]
      refine wpAnyH_take (i := 17) (oi := { dst := some 77, op := Op.move (Operand.tmp 10), type := 3, pos := "law.go:50", after := #[{ on := 13, ground := Ground.guard }], guard := some (13, false) }) (v := ?hv72) rfl (by kernel_rfl) (by kernel_rfl) (by kernel_rfl) (fun _ _ _ h => h) (Or.inl ⟨by rfl, ?hy72⟩) (by assumption) ?_
      case hy72 => ((intro w hSw); (try dsimp only at hSw); go_simp; (try with_reducible rfl))
      try simp only [Act.put, List.setIfInBounds_toArray, List.set_cons_zero, List.set_cons_succ]
      refine wpAnyH_take (i := 18) (oi := { dst := some 78, op := Op.slice 26 (Operand.tmp 76) none (some (Operand.tmp 77)) none, type := 26, pos := "law.go:50", after := #[{ on := 16, ground := Ground.data }, { on := 17, ground := Ground.data }, { on := 13, ground := Ground.guard }], guard := some (13, false) }) (v := ?hv73) rfl (by kernel_rfl) (by kernel_rfl) (by kernel_rfl) (fun _ _ _ h => h) (Or.inl ⟨by rfl, ?hy73⟩) (by assumption) ?_
      case hy73 => ((intro w hSw); (try dsimp only at hSw); go_simp; (try with_reducible rfl))
      try simp only [Act.put, List.setIfInBounds_toArray, List.set_cons_zero, List.set_cons_succ]
      refine wpAnyH_ready (rs := [19]) (by kernel_rfl) (by simp) ?_
      refine AllReadyH.cons (o := { dst := some 79, op := Op.call { callee := Callee.value (Operand.func 11), args := #[Operand.tmp 74, Operand.tmp 75, Operand.tmp 78], argTypes := #[23, 25, 26] }, type := 4, pos := "law.go:50", after := #[{ on := 14, ground := Ground.data }, { on := 15, ground := Ground.data }, { on := 18, ground := Ground.data }, { on := 13, ground := Ground.chain }, { on := 13, ground := Ground.guard }], guard := some (13, false) }) rfl (fun K hK => ?_) AllReadyH.nil
      go_simp
      go_at_call 11; (with_reducible refine (CF.out _ R0.out).mono ?_); rintro e x1 ⟨rfl, b1⟩; have c1 := rl (r := r) c0 b1 L0 M0; have L1 := Nat.lt_of_lt_of_le L0 b1.size; have M1 := Nat.lt_of_lt_of_le M0 b1.size; have A1 := Lib.hid (A0.out.below b1 (Nat.le_refl _)); have B1 := Lib.hid (B0.out.below b1 (Nat.le_refl _)); have R1 := Lib.hid (R0.out.below b1 (Nat.le_refl _)); have H1 := Lib.hid (H0.out.trans (b1.mono H0.out.size)); clear b1
      refine hK.out _ _ ?_ (fun hHeld => ?_)
      · (try dsimp only); exact c1
      clear hK K
      try simp only [Act.put, List.setIfInBounds_toArray, List.set_cons_zero, List.set_cons_succ]
      refine wpAnyH_take (i := 20) (oi := { dst := some 80, op := Op.unOp UnOp.not 4 (Operand.tmp 79), type := 4, pos := "law.go:50", after := #[{ on := 19, ground := Ground.data }, { on := 13, ground := Ground.guard }], guard := some (13, false) }) (v := ?hv74) rfl (by kernel_rfl) (by kernel_rfl) (by kernel_rfl) (fun _ _ _ h => h) (Or.inl ⟨by rfl, ?hy74⟩) (by assumption) ?_
      case hy74 => ((intro w hSw); (try dsimp only at hSw); go_simp; (try with_reducible rfl))
      try simp only [Act.put, List.setIfInBounds_toArray, List.set_cons_zero, List.set_cons_succ]
      refine wpAnyH_take (i := 21) (oi := { dst := some 81, op := Op.pick (Operand.tmp 73) (Operand.const (Value.bool true)) (Operand.tmp 80), type := 4, pos := "law.go:50", after := #[{ on := 13, ground := Ground.data }, { on := 20, ground := Ground.data }, { on := 10, ground := Ground.guard }], guard := some (10, true) }) (v := ?hv75) rfl (by kernel_rfl) (by kernel_rfl) (by kernel_rfl) (fun _ _ _ h => h) (Or.inl ⟨by rfl, ?hy75⟩) (by assumption) ?_
      case hy75 => ((intro w hSw); (try dsimp only at hSw); go_simp; (try with_reducible rfl))
      try simp only [Act.put, List.setIfInBounds_toArray, List.set_cons_zero, List.set_cons_succ]
      refine wpAnyH_take (i := 22) (oi := { dst := some 82, op := Op.pick (Operand.tmp 70) (Operand.tmp 81) (Operand.const (Value.bool false)), type := 4, pos := "law.go:50", after := #[{ on := 10, ground := Ground.data }, { on := 21, ground := Ground.data }, { on := 8, ground := Ground.guard }], guard := some (8, false) }) (v := ?hv76) rfl (by kernel_rfl) (by kernel_rfl) (by kernel_rfl) (fun _ _ _ h => h) (Or.inl ⟨by rfl, ?hy76⟩) (by assumption) ?_
      case hy76 => ((intro w hSw); (try dsimp only at hSw); go_simp; (try with_reducible rfl))
      try simp only [Act.put, List.setIfInBounds_toArray, List.set_cons_zero, List.set_cons_succ]
      refine wpAnyH_take (i := 23) (oi := { dst := some 83, op := Op.pick (Operand.tmp 68) (Operand.const (Value.bool true)) (Operand.tmp 82), type := 4, pos := "law.go:50", after := #[{ on := 8, ground := Ground.data }, { on := 22, ground := Ground.data }], guard := none }) (v := ?hv77) rfl (by kernel_rfl) (by kernel_rfl) (by kernel_rfl) (fun _ _ _ h => h) (Or.inl ⟨by rfl, ?hy77⟩) (by assumption) ?_
      case hy77 => ((intro w hSw); (try dsimp only at hSw); go_simp; (try with_reducible rfl))
      try simp only [Act.put, List.setIfInBounds_toArray, List.set_cons_zero, List.set_cons_succ]
      refine wpAnyH_take (i := 24) (oi := { dst := some 84, op := Op.move (Operand.tmp 83), type := 4, pos := "law.go:50", after := #[{ on := 23, ground := Ground.data }, { on := 19, ground := Ground.chain }], guard := none }) (v := ?hv78) rfl (by kernel_rfl) (by kernel_rfl) (by kernel_rfl) (fun _ _ _ h => h) (Or.inl ⟨by rfl, ?hy78⟩) (by assumption) ?_
      case hy78 => ((intro w hSw); (try dsimp only at hSw); go_simp; (try with_reducible rfl))
      try simp only [Act.put, List.setIfInBounds_toArray, List.set_cons_zero, List.set_cons_succ]
      refine wpAnyH_take (i := 25) (oi := { dst := some 85, op := Op.move (Operand.tmp 11), type := 4, pos := "law.go:50", after := #[{ on := 24, ground := Ground.guard }], guard := some (24, false) }) (v := ?hv79) rfl (by kernel_rfl) (by kernel_rfl) (by kernel_rfl) (fun _ _ _ h => h) (Or.inl ⟨by rfl, ?hy79⟩) (by assumption) ?_
      case hy79 => ((intro w hSw); (try dsimp only at hSw); go_simp; (try with_reducible rfl))
      try simp only [Act.put, List.setIfInBounds_toArray, List.set_cons_zero, List.set_cons_succ]
      refine wpAnyH_take (i := 26) (oi := { dst := some 86, op := Op.move (Operand.tmp 85), type := 4, pos := "law.go:50", after := #[{ on := 25, ground := Ground.data }, { on := 24, ground := Ground.chain }, { on := 24, ground := Ground.guard }], guard := some (24, false) }) (v := ?hv80) rfl (by kernel_rfl) (by kernel_rfl) (by kernel_rfl) (fun _ _ _ h => h) (Or.inl ⟨by rfl, ?hy80⟩) (by assumption) ?_
      case hy80 => ((intro w hSw); (try dsimp only at hSw); go_simp; (try with_reducible rfl))
      try simp only [Act.put, List.setIfInBounds_toArray, List.set_cons_zero, List.set_cons_succ]
      refine wpAnyH_take (i := 27) (oi := { dst := some 87, op := Op.move (Operand.tmp 10), type := 3, pos := "law.go:50", after := #[{ on := 26, ground := Ground.guard }], guard := some (26, true) }) (v := ?hv81) rfl (by kernel_rfl) (by kernel_rfl) (by kernel_rfl) (fun _ _ _ h => h) (Or.inl ⟨by rfl, ?hy81⟩) (by assumption) ?_
      case hy81 => ((intro w hSw); (try dsimp only at hSw); go_simp; (try with_reducible rfl))
      try simp only [Act.put, List.setIfInBounds_toArray, List.set_cons_zero, List.set_cons_succ]
      refine wpAnyH_take (i := 28) (oi := { dst := some 88, op := Op.move (Operand.tmp 2), type := 26, pos := "law.go:50", after := #[{ on := 26, ground := Ground.guard }], guard := some (26, true) }) (v := ?hv82) rfl (by kernel_rfl) (by kernel_rfl) (by kernel_rfl) (fun _ _ _ h => h) (Or.inl ⟨by rfl, ?hy82⟩) (by assumption) ?_
      case hy82 => ((intro w hSw); (try dsimp only at hSw); go_simp; (try with_reducible rfl))
      try simp only [Act.put, List.setIfInBounds_toArray, List.set_cons_zero, List.set_cons_succ]
      refine wpAnyH_take (i := 29) (oi := { dst := some 89, op := Op.call { callee := Callee.builtin Builtin.len, args := #[Operand.tmp 88], argTypes := #[26] }, type := 3, pos := "law.go:50", after := #[{ on := 28, ground := Ground.data }, { on := 26, ground := Ground.guard }], guard := some (26, true) }) (v := ?hv83) rfl (by kernel_rfl) (by kernel_rfl) (by kernel_rfl) (fun _ _ _ h => h) (Or.inl ⟨by rfl, ?hy83⟩) (by assumption) ?_
      case hy83 => ((intro w hSw); (try dsimp only at hSw); go_simp; (try with_reducible rfl))
      try simp only [Act.put, List.setIfInBounds_toArray, List.set_cons_zero, List.set_cons_succ]
      refine wpAnyH_take (i := 30) (oi := { dst := some 90, op := Op.binOp BinOp.lss 3 (Operand.tmp 87) (Operand.tmp 89) 3, type := 4, pos := "law.go:50", after := #[{ on := 27, ground := Ground.data }, { on := 29, ground := Ground.data }, { on := 26, ground := Ground.guard }], guard := some (26, true) }) (v := ?hv84) rfl (by kernel_rfl) (by kernel_rfl) (by kernel_rfl) (fun _ _ _ h => h) (Or.inl ⟨by rfl, ?hy84⟩) (by assumption) ?_
      case hy84 => ((intro w hSw); (try dsimp only at hSw); go_simp; (try with_reducible rfl))
      try simp only [Act.put, List.setIfInBounds_toArray, List.set_cons_zero, List.set_cons_succ]
      refine wpAnyH_take (i := 31) (oi := { dst := some 91, op := Op.pick (Operand.tmp 86) (Operand.tmp 90) (Operand.const (Value.bool false)), type := 4, pos := "law.go:50", after := #[{ on := 26, ground := Ground.data }, { on := 30, ground := Ground.data }, { on := 24, ground := Ground.guard }], guard := some (24, false) }) (v := ?hv85) rfl (by kernel_rfl) (by kernel_rfl) (by kernel_rfl) (fun _ _ _ h => h) (Or.inl ⟨by rfl, ?hy85⟩) (by assumption) ?_
      case hy85 => ((intro w hSw); (try dsimp only at hSw); go_simp; (try with_reducible rfl))
      try simp only [Act.put, List.setIfInBounds_toArray, List.set_cons_zero, List.set_cons_succ]
      refine wpAnyH_take (i := 32) (oi := { dst := some 92, op := Op.move (Operand.tmp 91), type := 4, pos := "law.go:50", after := #[{ on := 31, ground := Ground.data }, { on := 26, ground := Ground.chain }, { on := 24, ground := Ground.guard }], guard := some (24, false) }) (v := ?hv86) rfl (by kernel_rfl) (by kernel_rfl) (by kernel_rfl) (fun _ _ _ h => h) (Or.inl ⟨by rfl, ?hy86⟩) (by assumption) ?_
      case hy86 => ((intro w hSw); (try dsimp only at hSw); go_simp; (try with_reducible rfl))
      try simp only [Act.put, List.setIfInBounds_toArray, List.set_cons_zero, List.set_cons_succ]
      refine wpAnyH_take (i := 33) (oi := { dst := some 93, op := Op.load 23 (Operand.tmp 4), type := 23, pos := "law.go:50", after := #[{ on := 32, ground := Ground.guard }], guard := some (32, true) }) (v := ?hv87) rfl (by kernel_rfl) (by kernel_rfl) (by kernel_rfl) (fun _ _ _ h => h) (Or.inl ⟨by rfl, ?hy87⟩) (by assumption) ?_
      case hy87 => ((intro w hSw); (try dsimp only at hSw); go_simp; (try with_reducible rfl))
      try simp only [Act.put, List.setIfInBounds_toArray, List.set_cons_zero, List.set_cons_succ]
      refine wpAnyH_take (i := 34) (oi := { dst := some 94, op := Op.load 25 (Operand.tmp 5), type := 25, pos := "law.go:50", after := #[{ on := 32, ground := Ground.guard }], guard := some (32, true) }) (v := ?hv88) rfl (by kernel_rfl) (by kernel_rfl) (by kernel_rfl) (fun _ _ _ h => h) (Or.inl ⟨by rfl, ?hy88⟩) (by assumption) ?_
      case hy88 => ((intro w hSw); (try dsimp only at hSw); go_simp; (try with_reducible rfl))
      try simp only [Act.put, List.setIfInBounds_toArray, List.set_cons_zero, List.set_cons_succ]
      refine wpAnyH_take (i := 35) (oi := { dst := some 95, op := Op.move (Operand.tmp 2), type := 26, pos := "law.go:50", after := #[{ on := 32, ground := Ground.guard }], guard := some (32, true) }) (v := ?hv89) rfl (by kernel_rfl) (by kernel_rfl) (by kernel_rfl) (fun _ _ _ h => h) (Or.inl ⟨by rfl, ?hy89⟩) (by assumption) ?_
      case hy89 => ((intro w hSw); (try dsimp only at hSw); go_simp; (try with_reducible rfl))
      try simp only [Act.put, List.setIfInBounds_toArray, List.set_cons_zero, List.set_cons_succ]
      refine wpAnyH_take (i := 36) (oi := { dst := some 96, op := Op.move (Operand.tmp 10), type := 3, pos := "law.go:50", after := #[{ on := 32, ground := Ground.guard }], guard := some (32, true) }) (v := ?hv90) rfl (by kernel_rfl) (by kernel_rfl) (by kernel_rfl) (fun _ _ _ h => h) (Or.inl ⟨by rfl, ?hy90⟩) (by assumption) ?_
      case hy90 => ((intro w hSw); (try dsimp only at hSw); go_simp; (try with_reducible rfl))
      try simp only [Act.put, List.setIfInBounds_toArray, List.set_cons_zero, List.set_cons_succ]
      refine wpAnyH_take (i := 37) (oi := { dst := some 97, op := Op.binOp BinOp.add 3 (Operand.tmp 96) (Operand.const (Value.int IntKind.i64 1)) 3, type := 3, pos := "law.go:50", after := #[{ on := 36, ground := Ground.data }, { on := 32, ground := Ground.guard }], guard := some (32, true) }) (v := ?hv91) rfl (by kernel_rfl) (by kernel_rfl) (by kernel_rfl) (fun _ _ _ h => h) (Or.inl ⟨by rfl, ?hy91⟩) (by assumption) ?_
      case hy91 => ((intro w hSw); (try dsimp only at hSw); go_simp; (try with_reducible rfl))
      try simp only [Act.put, List.setIfInBounds_toArray, List.set_cons_zero, List.set_cons_succ]
      refine wpAnyH_take (i := 38) (oi := { dst := some 98, op := Op.slice 26 (Operand.tmp 95) none (some (Operand.tmp 97)) none, type := 26, pos := "law.go:50", after := #[{ on := 35, ground := Ground.data }, { on := 37, ground := Ground.data }, { on := 32, ground := Ground.guard }], guard := some (32, true) }) (v := ?hv92) rfl (by kernel_rfl) (by kernel_rfl) (by kernel_rfl) (fun _ _ _ h => h) (Or.inl ⟨by rfl, ?hy92⟩) (by assumption) ?_
      case hy92 => ((intro w hSw); (try dsimp only at hSw); go_simp; (try with_reducible rfl))
      try simp only [Act.put, List.setIfInBounds_toArray, List.set_cons_zero, List.set_cons_succ]
      refine wpAnyH_ready (rs := [39]) (by kernel_rfl) (by simp) ?_
      refine AllReadyH.cons (o := { dst := some 99, op := Op.call { callee := Callee.value (Operand.func 11), args := #[Operand.tmp 93, Operand.tmp 94, Operand.tmp 98], argTypes := #[23, 25, 26] }, type := 4, pos := "law.go:50", after := #[{ on := 33, ground := Ground.data }, { on := 34, ground := Ground.data }, { on := 38, ground := Ground.data }, { on := 32, ground := Ground.chain }, { on := 32, ground := Ground.guard }], guard := some (32, true) }) rfl (fun K hK => ?_) AllReadyH.nil
      go_simp
      go_at_call 11; (with_reducible refine (CG.out _ R1.out).mono ?_); rintro e x2 ⟨rfl, b2⟩; have c2 := rl (r := r) c1 b2 L1 M1; have L2 := Nat.lt_of_lt_of_le L1 b2.size; have M2 := Nat.lt_of_lt_of_le M1 b2.size; have A2 := Lib.hid (A1.out.below b2 (Nat.le_refl _)); have B2 := Lib.hid (B1.out.below b2 (Nat.le_refl _)); have R2 := Lib.hid (R1.out.below b2 (Nat.le_refl _)); have H2 := Lib.hid (H1.out.trans (b2.mono H1.out.size)); clear b2
      refine hK.out _ _ ?_ (fun hHeld => ?_)
      · (try dsimp only); exact c2
      clear hK K
      try simp only [Act.put, List.setIfInBounds_toArray, List.set_cons_zero, List.set_cons_succ]
      refine wpAnyH_take (i := 40) (oi := { dst := some 100, op := Op.pick (Operand.tmp 92) (Operand.tmp 99) (Operand.const (Value.bool false)), type := 4, pos := "law.go:50", after := #[{ on := 32, ground := Ground.data }, { on := 39, ground := Ground.data }, { on := 24, ground := Ground.guard }], guard := some (24, false) }) (v := ?hv93) rfl (by kernel_rfl) (by kernel_rfl) (by kernel_rfl) (fun _ _ _ h => h) (Or.inl ⟨by rfl, ?hy93⟩) (by assumption) ?_
      case hy93 => ((intro w hSw); (try dsimp only at hSw); go_simp; (try with_reducible rfl))
      try simp only [Act.put, List.setIfInBounds_toArray, List.set_cons_zero, List.set_cons_succ]
      refine wpAnyH_take (i := 41) (oi := { dst := some 101, op := Op.pick (Operand.tmp 84) (Operand.const (Value.bool true)) (Operand.tmp 100), type := 4, pos := "law.go:50", after := #[{ on := 24, ground := Ground.data }, { on := 40, ground := Ground.data }], guard := none }) (v := ?hv94) rfl (by kernel_rfl) (by kernel_rfl) (by kernel_rfl) (fun _ _ _ h => h) (Or.inl ⟨by rfl, ?hy94⟩) (by assumption) ?_
      case hy94 => ((intro w hSw); (try dsimp only at hSw); go_simp; (try with_reducible rfl))
      try simp only [Act.put, List.setIfInBounds_toArray, List.set_cons_zero, List.set_cons_succ]
      refine wpAnyH_done (by kernel_rfl) ?_ _
      have HA4 := A2
      have HB4 := B2
      have HR4 := R2
      have BB4 := H2
      clear c0 c1 c2 L0 M0 A0 B0 R0 H0 L1 M1 A1 B1 R1 H1 L2 M2 A2 B2 R2 H2 s1 s2 s3 s4 s5 s6 s7 hd0 hd2 hd3 hd4 CG
      go_wp2_with fail
      go_loopw [12] (fun i wr => ∃ k : Nat, k ≤ j ∧ i = .int .i64 ((k : Int) + 1) ∧ RtB wr w.heap.size r ∧ LmB wr (w.heap.size + 1) C B T ∧ RowN wr A n Cp L ∧ Below w.heap.size w wr) (fun i _ => j + 1 - (intOf i).toNat)
      case atStart => exact ⟨0, Nat.zero_le _, by go_num, HA4.out, HB4.out, HR4.out, BB4.out⟩
      case round =>
        obtain ⟨k, hk, rfl, hA, hB, hR, hb⟩ := hrel
        have HA5 := Lib.hid hA
        have HB5 := Lib.hid hB
        have HR5 := Lib.hid hR
        have BB5 := Lib.hid hb
        clear hA hB hR hb HA4 HB4 HR4 BB4
        obtain ⟨e0, e1, e2, e3, e4⟩ := HA5.out.cells
        obtain ⟨f0, f1, f2⟩ := HB5.out.cells
        have za := HA5.out.lt
        have zb := HB5.out.lt
        by_cases hkj : k < j
        case pos =>
          have hdj : decide ((k : Int) + 1 < (j : Int) + 1) = true := decide_eq_true (by omega)
          have CF := Lib.hid (fun (w : World) (h : RowN w A n Cp L) => DF.out (k + 1) w h (by omega))
          have HF := Lib.hid (show fitsP r C B T (L.take (k + 1)) = true from fit_down (j := k + 1) HFJ.out (by omega) (by omega))
          rw [HF.out] at CF
          have s1 : (0 : Int) ≤ (k : Int) + 1 := by omega
          have s2 : (k : Int) + 1 ≤ (Cp : Int) := by omega
          have s3 : ((k : Int) + 1).toNat = k + 1 := by omega
          go_wp2_with fail
          have c0 : wr.drew.cell? ⟨w.heap.size, 0, none⟩ = some (.int .i64 r.m) ∧ wr.drew.cell? ⟨w.heap.size, 1, none⟩ = some (.int .i64 r.c) ∧ wr.drew.cell? ⟨w.heap.size, 2, none⟩ = some (.int .i64 r.s) ∧ wr.drew.cell? ⟨w.heap.size, 3, none⟩ = some (.int .i64 r.w) ∧ wr.drew.cell? ⟨w.heap.size, 4, none⟩ = some (.int .i64 r.g) ∧ wr.drew.cell? ⟨w.heap.size + 1, 0, none⟩ = some (.int .i64 C) ∧ wr.drew.cell? ⟨w.heap.size + 1, 1, none⟩ = some (.int .i64 B) ∧ wr.drew.cell? ⟨w.heap.size + 1, 2, none⟩ = some (.int .i64 T) := ⟨e0, e1, e2, e3, e4, f0, f1, f2⟩
          have L0 : w.heap.size < wr.drew.heap.size := za
          have M0 : w.heap.size + 1 < wr.drew.heap.size := zb
          have A0 := Lib.hid (show RtB wr.drew w.heap.size r from HA5.out)
          have B0 := Lib.hid (show LmB wr.drew (w.heap.size + 1) C B T from HB5.out)
          have R0 := Lib.hid (show RowN wr.drew A n Cp L from HR5.out)
          have H0 := Lib.hid (show Below w.heap.size w wr.drew from BB5.out.trans (Below.drew (Below.refl _ _)))
          clear HA5 HB5 HR5 BB5 e0 e1 e2 e3 e4 f0 f1 f2 za zb
          go_region_held3 (fun y => y.cell? ⟨w.heap.size, 0, none⟩ = some (.int .i64 r.m) ∧ y.cell? ⟨w.heap.size, 1, none⟩ = some (.int .i64 r.c) ∧ y.cell? ⟨w.heap.size, 2, none⟩ = some (.int .i64 r.s) ∧ y.cell? ⟨w.heap.size, 3, none⟩ = some (.int .i64 r.w) ∧ y.cell? ⟨w.heap.size, 4, none⟩ = some (.int .i64 r.g) ∧ y.cell? ⟨w.heap.size + 1, 0, none⟩ = some (.int .i64 C) ∧ y.cell? ⟨w.heap.size + 1, 1, none⟩ = some (.int .i64 B) ∧ y.cell? ⟨w.heap.size + 1, 2, none⟩ = some (.int .i64 T))
            (first | exact c0 | exact c1)
            ((go_at_call 11; (with_reducible refine (CF.out _ R0.out).mono ?_); rintro e x1 ⟨rfl, b1⟩; have c1 := rl (r := r) c0 b1 L0 M0; have L1 := Nat.lt_of_lt_of_le L0 b1.size; have M1 := Nat.lt_of_lt_of_le M0 b1.size; have A1 := Lib.hid (A0.out.below b1 (Nat.le_refl _)); have B1 := Lib.hid (B0.out.below b1 (Nat.le_refl _)); have R1 := Lib.hid (R0.out.below b1 (Nat.le_refl _)); have H1 := Lib.hid (H0.out.trans (b1.mono H0.out.size)); clear b1))
          clear c0 c1 s1 s2 s3
          go_wp2_with fail
          go_roundw
          case rel => exact ⟨k + 1, by omega, by go_num, A1.out, B1.out, R1.out, H1.out⟩
          case measure => simp [intOf]; omega
        case neg =>
          obtain rfl : k = j := by omega
          have hdj : decide ((k : Int) + 1 < (k : Int) + 1) = false := decide_eq_false (by omega)
          go_wp2_with fail
          refine (number_any m 100 _ (by omega) (by omega) m0 m1).mono ?_
          rintro e w9 ⟨rfl, rfl⟩
          rw [ep]
          go_wp2_with fail
          have HRn := Lib.hid (HR5.out.alloc (.cells #[.int .i64 (C + (p : Int)), .int .i64 (B + (p : Int)), .int .i64 (T + (p : Int))] 25))
          have BBn := Lib.hid (BB5.out.alloc BB5.out.size (.cells #[.int .i64 (C + (p : Int)), .int .i64 (B + (p : Int)), .int .i64 (T + (p : Int))] 25))
          refine (D2.out _ HRn.out).mono ?_
          rintro e w8 ⟨rfl, hb⟩
          have BB8 := Lib.hid (BBn.out.trans (hb.mono BBn.out.size))
          clear hb e0 e1 e2 e3 e4 f0 f1 f2
          rw [HCG.out]
          have hd9 : decide ((k : Int) + 1 ≤ (g : Int) + 1) = true := decide_eq_true (by omega)
          go_wp2_with fail
          go_ret
          exact ⟨rfl, BB8.out⟩
end Go.Proofs.Ytnndmpanopnncaa
