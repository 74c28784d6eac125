/-
  build.Fits, Choose.
-/
import Derived.Test.YtnndmpanopnncaaBuildLen
import Derived.Test.YtnndmpanopnncaaAir
namespace Go.Proofs.Ytnndmpanopnncaa
open Go.ChangeShapes Go.WideShapes Go.ChangeAt Go.RowKit
set_option linter.unusedVariables false

def LmB (w : World) (n : Nat) (C B T : Int) : Prop := Blk w n #[.int .i64 C, .int .i64 B, .int .i64 T] 25
theorem LmB.cells {w : World} {n : Nat} {C B T : Int} (h : LmB w n C B T) : w.cell? ⟨n, 0, none⟩ = some (.int .i64 C) ∧ w.cell? ⟨n, 1, none⟩ = some (.int .i64 B) ∧ w.cell? ⟨n, 2, none⟩ = some (.int .i64 T) := ⟨Blk.cell h 0, Blk.cell h 1, Blk.cell h 2⟩
theorem LmB.below {w w' : World} {n : Nat} {C B T : Int} (h : LmB w n C B T) {D : Nat} (hb : Below D w w') (hD : w.heap.size ≤ D) : LmB w' n C B T := Blk.below h hb (Nat.lt_of_lt_of_le (Blk.lt h) hD)
theorem LmB.lt {w : World} {n : Nat} {C B T : Int} (h : LmB w n C B T) : n < w.heap.size := Blk.lt h
theorem LmB.new (w : World) (C B T : Int) : LmB (w.alloc (.cells #[.int .i64 C, .int .i64 B, .int .i64 T] 25)) w.heap.size C B T := Blk.new w _ _
theorem LmB.new' (w : World) (C B T : Int) (o : Obj) : LmB ((w.alloc o).alloc (.cells #[.int .i64 C, .int .i64 B, .int .i64 T] 25)) (w.heap.size + 1) C B T := by
  have := LmB.new (w.alloc o) C B T
  rwa [show (w.alloc o).heap.size = w.heap.size + 1 by simp] at this
theorem rl {x y : World} {n k D : Nat} {r : RT} {C B T : Int} (h : x.cell? ⟨n, 0, none⟩ = some (.int .i64 r.m) ∧ x.cell? ⟨n, 1, none⟩ = some (.int .i64 r.c) ∧ x.cell? ⟨n, 2, none⟩ = some (.int .i64 r.s) ∧ x.cell? ⟨n, 3, none⟩ = some (.int .i64 r.w) ∧ x.cell? ⟨n, 4, none⟩ = some (.int .i64 r.g) ∧ x.cell? ⟨k, 0, none⟩ = some (.int .i64 C) ∧ x.cell? ⟨k, 1, none⟩ = some (.int .i64 B) ∧ x.cell? ⟨k, 2, none⟩ = some (.int .i64 T)) (hb : Below D x y) (hn : n < D) (hk : k < D) :
    y.cell? ⟨n, 0, none⟩ = some (.int .i64 r.m) ∧ y.cell? ⟨n, 1, none⟩ = some (.int .i64 r.c) ∧ y.cell? ⟨n, 2, none⟩ = some (.int .i64 r.s) ∧ y.cell? ⟨n, 3, none⟩ = some (.int .i64 r.w) ∧ y.cell? ⟨n, 4, none⟩ = some (.int .i64 r.g) ∧ y.cell? ⟨k, 0, none⟩ = some (.int .i64 C) ∧ y.cell? ⟨k, 1, none⟩ = some (.int .i64 B) ∧ y.cell? ⟨k, 2, none⟩ = some (.int .i64 T) := by
  obtain ⟨e0, e1, e2, e3, e4, f0, f1, f2⟩ := h
  exact ⟨(hb.cell (p := ⟨n, 0, none⟩) hn).trans e0, (hb.cell (p := ⟨n, 1, none⟩) hn).trans e1, (hb.cell (p := ⟨n, 2, none⟩) hn).trans e2, (hb.cell (p := ⟨n, 3, none⟩) hn).trans e3, (hb.cell (p := ⟨n, 4, none⟩) hn).trans e4, (hb.cell (p := ⟨k, 0, none⟩) hk).trans f0, (hb.cell (p := ⟨k, 1, none⟩) hk).trans f1, (hb.cell (p := ⟨k, 2, none⟩) hk).trans f2⟩

set_option maxHeartbeats 4000000 in
theorem fits_any (r : RT) (C B T : Int) (A : Option Addr) (n Cp : Nat) (L : List Int) (w : World) (h : RowN w A n Cp L) (hn : n ≤ 1000) :
    Calls Try.prog 11 #[.agg #[.int .i64 r.m, .int .i64 r.c, .int .i64 r.s, .int .i64 r.w, .int .i64 r.g], .agg #[.int .i64 C, .int .i64 B, .int .i64 T], .slice A n Cp] w fun e w' => e = .returned (.bool (fitsP r C B T L)) ∧ Below w.heap.size w w' := by
  have HA := Lib.hid ((RtB.new w r).alloc (.cells #[.int .i64 C, .int .i64 B, .int .i64 T] 25))
  have HB := Lib.hid (LmB.new' w C B T (.cells #[.int .i64 r.m, .int .i64 r.c, .int .i64 r.s, .int .i64 r.w, .int .i64 r.g] 23))
  have BB := Lib.hid (show Below w.heap.size w ((w.alloc (.cells #[.int .i64 r.m, .int .i64 r.c, .int .i64 r.s, .int .i64 r.w, .int .i64 r.g] 23)).alloc (.cells #[.int .i64 C, .int .i64 B, .int .i64 T] 25)) from ((Below.refl _ _).alloc (Nat.le_refl _) _).alloc (by simp) _)
  have HN := Lib.hid h.1
  have HR := Lib.hid ((h.below ((Below.refl w.heap.size w).alloc (Nat.le_refl _) (.cells #[.int .i64 r.m, .int .i64 r.c, .int .i64 r.s, .int .i64 r.w, .int .i64 r.g] 23)) (Nat.le_refl _)).below ((Below.refl _ _).alloc (Nat.le_refl _) (.cells #[.int .i64 C, .int .i64 B, .int .i64 T] 25)) (Nat.le_refl _))
  clear h
  have HF := Lib.hid (show fitsP r C B T L = (validP r && (decide (L ≠ []) && (!(L.any wrongB) && (decide ((L.length : Int) ≤ min C 64) && (decide (aggP L ≤ min B 65535) && decide (ppP r (aggP L) ≤ min T 54840)))))) from rfl)
  have CV := Lib.hid (fun w => valid_any r w)
  go_enter Try.func11, Try.ntmps11
  go_wp2_with fail
  refine (CV.out _).mono ?_
  rintro e w1 ⟨rfl, hb⟩
  have HA1 := Lib.hid (HA.out.below hb (Nat.le_refl _))
  have HB1 := Lib.hid (HB.out.below hb (Nat.le_refl _))
  have HR1 := Lib.hid (HR.out.below hb (Nat.le_refl _))
  have BB1 := Lib.hid (BB.out.trans (hb.mono BB.out.size))
  clear hb HA HB BB HR CV
  obtain ⟨e0, e1, e2, e3, e4⟩ := HA1.out.cells
  obtain ⟨f0, f1, f2⟩ := HB1.out.cells
  have za := HA1.out.lt
  have zb := HB1.out.lt
  rcases hv : validP r
  case false =>
    go_wp2_with fail
    go_ret
    exact ⟨ret_bool (by rw [HF.out, hv]; rfl), BB1.out⟩
  case true =>
  have HV := Lib.hid hv
  clear hv
  by_cases hn0 : n = 0
  case pos =>
    subst hn0
    have hL := List.eq_nil_of_length_eq_zero HN.out.symm
    go_wp2_with fail
    go_ret
    exact ⟨ret_bool (by rw [HF.out, HV.out, hL]; rfl), BB1.out⟩
  case neg =>
  have hne : L ≠ [] := by intro e; have := HN.out; rw [e] at this; simp at this; omega
  have HNE := Lib.hid (show decide (L ≠ []) = true from decide_eq_true hne)
  clear hne
  have hn1 : ((n : Int) == 0) = false := by simp; omega
  go_wp2_with fail
  refine (anyWrong_any A n Cp L w1 HR1.out _ rfl).mono ?_
  rintro e w2 ⟨rfl, rfl⟩
  rcases hw : L.any wrongB
  case true =>
    go_wp2_with fail
    go_ret
    exact ⟨ret_bool (by rw [HF.out, HV.out, HNE.out, hw]; rfl), BB1.out⟩
  case false =>
  have HW := Lib.hid hw
  clear hw
  by_cases hc : (L.length : Int) ≤ min C 64
  case neg =>
    have HC := Lib.hid (show decide ((L.length : Int) ≤ min C 64) = false from decide_eq_false hc)
    rw [← HN.out] at hc
    by_cases hC : C ≤ 64
    case pos =>
      have hc' : C < (n : Int) := by omega
      have hd : decide (C < (n : Int)) = true := decide_eq_true hc'
      have hm : min C 64 = C := by omega
      clear hc
      go_wp2_with fail
      go_ret
      exact ⟨ret_bool (by rw [HF.out, HV.out, HNE.out, HW.out, HC.out]; rfl), BB1.out⟩
    case neg =>
      have hc' : (64 : Int) < (n : Int) := by omega
      have hd : decide ((64 : Int) < (n : Int)) = true := decide_eq_true hc'
      have hm : min C 64 = 64 := by omega
      clear hc
      go_wp2_with fail
      go_ret
      exact ⟨ret_bool (by rw [HF.out, HV.out, HNE.out, HW.out, HC.out]; rfl), BB1.out⟩
  case pos =>
  have HC := Lib.hid (show decide ((L.length : Int) ≤ min C 64) = true from decide_eq_true hc)
  rw [← HN.out] at hc
  have hcn : (n : Int) ≤ C ∧ (n : Int) ≤ 64 := by omega
  have hL := Lib.hid (fun z hz => any_le HW.out z hz)
  have ha0 := agg_nonneg L
  have ha1 := agg_top L (fun z hz => (hL.out z hz).2)
  rw [← HN.out] at ha1
  have CL := Lib.hid (len_any A n Cp L w1 HR1.out hn (fun z hz => by have := hL.out z hz; omega))
  have CP := Lib.hid (fun w => ppdu_any r (aggP L) w (by omega) (by omega))
  clear hL
  have HG := Lib.hid (show fitsP r C B T L = (decide (aggP L ≤ min B 65535) && decide (ppP r (aggP L) ≤ min T 54840)) by rw [HF.out, HV.out, HNE.out, HW.out, HC.out]; rfl)
  clear HF
  generalize aggP L = g at *
  obtain ⟨X, hX⟩ : ∃ X, ppP r g = X := ⟨_, rfl⟩
  rw [hX] at CP HG
  clear hX
  have c0 : w1.drew.cell? ⟨w.heap.size, 0, none⟩ = some (.int .i64 r.m) ∧ w1.drew.cell? ⟨w.heap.size, 1, none⟩ = some (.int .i64 r.c) ∧ w1.drew.cell? ⟨w.heap.size, 2, none⟩ = some (.int .i64 r.s) ∧ w1.drew.cell? ⟨w.heap.size, 3, none⟩ = some (.int .i64 r.w) ∧ w1.drew.cell? ⟨w.heap.size, 4, none⟩ = some (.int .i64 r.g) ∧ w1.drew.cell? ⟨w.heap.size + 1, 0, none⟩ = some (.int .i64 C) ∧ w1.drew.cell? ⟨w.heap.size + 1, 1, none⟩ = some (.int .i64 B) ∧ w1.drew.cell? ⟨w.heap.size + 1, 2, none⟩ = some (.int .i64 T) := ⟨e0, e1, e2, e3, e4, f0, f1, f2⟩
  have L0 : w.heap.size < w1.drew.heap.size := za
  have M0 : w.heap.size + 1 < w1.drew.heap.size := zb
  have H0 := Lib.hid (show Below w.heap.size w w1.drew from BB1.out.trans (Below.drew (Below.refl _ _)))
  by_cases hB : B ≤ 65535
  case pos =>
    have hB' : (if (65535 : Int) < B then (65535 : Int) else B) = B := if_neg (by omega)
    have eB : min B 65535 = B := by omega
    have EB := Lib.hid eB
    clear eB
    by_cases hC : C ≤ 64
    case pos =>
      have hd1 : decide (C < (n : Int)) = false := decide_eq_false (by omega)
      have hd2 : decide ((64 : Int) < (n : Int)) = false := decide_eq_false (by omega)
      clear hc
      by_cases hg : g ≤ B
      case neg =>
        have dg : decide (g ≤ B) = false := decide_eq_false hg
        have DG := Lib.hid dg
        go_wp2_with fail
        refine CL.out.mono ?_
        rintro e w2 ⟨rfl, rfl⟩
        go_wp2_with fail
        refine wp_region_held_drew (S := (fun y => y.cell? ⟨w.heap.size, 0, none⟩ = some (.int .i64 r.m) ∧ y.cell? ⟨w.heap.size, 1, none⟩ = some (.int .i64 r.c) ∧ y.cell? ⟨w.heap.size, 2, none⟩ = some (.int .i64 r.s) ∧ y.cell? ⟨w.heap.size, 3, none⟩ = some (.int .i64 r.w) ∧ y.cell? ⟨w.heap.size, 4, none⟩ = some (.int .i64 r.g) ∧ y.cell? ⟨w.heap.size + 1, 0, none⟩ = some (.int .i64 C) ∧ y.cell? ⟨w.heap.size + 1, 1, none⟩ = some (.int .i64 B) ∧ y.cell? ⟨w.heap.size + 1, 2, none⟩ = some (.int .i64 T))) (by kernel_rfl) ?_ (fun hHeld => ?_)
        · (try dsimp only); exact c0
        refine wpAnyH_take (i := 0) (oi := { dst := some 30, op := Op.move (Operand.tmp 7), type := 3, pos := "build.go:28", after := #[], guard := none }) (v := ?hv1) rfl (by kernel_rfl) (by kernel_rfl) (by kernel_rfl) (fun _ _ _ h => h) (Or.inl ⟨by rfl, ?hy1⟩) (by assumption) ?_
        case hy1 => ((intro w hSw); (try dsimp only at hSw); go_simp; (try with_reducible rfl))
        try simp only [Act.put, List.setIfInBounds_toArray, List.set_cons_zero, List.set_cons_succ]
        refine wpAnyH_take (i := 1) (oi := { dst := some 31, op := Op.fieldAddr 25 (Operand.tmp 4) 1, type := 0, pos := "build.go:28", after := #[], guard := none }) (v := ?hv2) rfl (by kernel_rfl) (by kernel_rfl) (by kernel_rfl) (fun _ _ _ h => h) (Or.inl ⟨by rfl, ?hy2⟩) (by assumption) ?_
        case hy2 => ((intro w hSw); (try dsimp only at hSw); go_simp; (try with_reducible rfl))
        try simp only [Act.put, List.setIfInBounds_toArray, List.set_cons_zero, List.set_cons_succ]
        refine wpAnyH_take (i := 2) (oi := { dst := some 32, op := Op.load 3 (Operand.tmp 31), type := 3, pos := "build.go:28", after := #[{ on := 1, ground := Ground.data }], guard := none }) (v := ?hv3) rfl (by kernel_rfl) (by kernel_rfl) (by kernel_rfl) (fun _ _ _ h => h) (Or.inl ⟨by rfl, ?hy3⟩) (by assumption) ?_
        case hy3 => ((intro w hSw); (try dsimp only at hSw); go_simp; (try with_reducible rfl))
        try simp only [Act.put, List.setIfInBounds_toArray, List.set_cons_zero, List.set_cons_succ]
        refine wpAnyH_take (i := 3) (oi := { dst := some 33, op := Op.call { callee := Callee.builtin Builtin.min, args := #[Operand.tmp 32, Operand.const (Value.int IntKind.i64 65535)], argTypes := #[3, 3] }, type := 3, pos := "build.go:28", after := #[{ on := 2, ground := Ground.data }], guard := none }) (v := ?hv4) rfl (by kernel_rfl) (by kernel_rfl) (by kernel_rfl) (fun _ _ _ h => h) (Or.inl ⟨by rfl, ?hy4⟩) (by assumption) ?_
        case hy4 => ((intro w hSw); (try dsimp only at hSw); go_simp; (try with_reducible rfl))
        try simp only [Act.put, List.setIfInBounds_toArray, List.set_cons_zero, List.set_cons_succ]
        refine wpAnyH_take (i := 4) (oi := { dst := some 34, op := Op.binOp BinOp.leq 3 (Operand.tmp 30) (Operand.tmp 33) 3, type := 4, pos := "build.go:28", after := #[{ on := 0, ground := Ground.data }, { on := 3, ground := Ground.data }], guard := none }) (v := ?hv5) rfl (by kernel_rfl) (by kernel_rfl) (by kernel_rfl) (fun _ _ _ h => h) (Or.inl ⟨by rfl, ?hy5⟩) (by assumption) ?_
        case hy5 => ((intro w hSw); (try dsimp only at hSw); go_simp; (try with_reducible rfl))
        try simp only [Act.put, List.setIfInBounds_toArray, List.set_cons_zero, List.set_cons_succ]
        refine wpAnyH_take (i := 5) (oi := { dst := some 35, op := Op.move (Operand.tmp 34), type := 4, pos := "build.go:28", after := #[{ on := 4, ground := Ground.data }], guard := none }) (v := ?hv6) rfl (by kernel_rfl) (by kernel_rfl) (by kernel_rfl) (fun _ _ _ h => h) (Or.inl ⟨by rfl, ?hy6⟩) (by assumption) ?_
        case hy6 => ((intro w hSw); (try dsimp only at hSw); go_simp; (try with_reducible rfl))
        try simp only [Act.put, List.setIfInBounds_toArray, List.set_cons_zero, List.set_cons_succ]
        refine wpAnyH_take (i := 6) (oi := { dst := some 36, op := Op.load 23 (Operand.tmp 3), type := 23, pos := "build.go:28", after := #[{ on := 5, ground := Ground.guard }], guard := some (5, true) }) (v := undef) rfl (by kernel_rfl) (by kernel_rfl) (by kernel_rfl) (fun _ _ _ h => h) (Or.inr ⟨by rfl, rfl⟩) (by assumption) ?_
        try simp only [Act.put, List.setIfInBounds_toArray, List.set_cons_zero, List.set_cons_succ]
        refine wpAnyH_take (i := 7) (oi := { dst := some 37, op := Op.move (Operand.tmp 7), type := 3, pos := "build.go:28", after := #[{ on := 5, ground := Ground.guard }], guard := some (5, true) }) (v := undef) rfl (by kernel_rfl) (by kernel_rfl) (by kernel_rfl) (fun _ _ _ h => h) (Or.inr ⟨by rfl, rfl⟩) (by assumption) ?_
        try simp only [Act.put, List.setIfInBounds_toArray, List.set_cons_zero, List.set_cons_succ]
        refine wpAnyH_take (i := 8) (oi := { dst := some 38, op := Op.call { callee := Callee.value (Operand.func 22), args := #[Operand.tmp 36, Operand.tmp 37], argTypes := #[23, 3] }, type := 2, pos := "build.go:28", after := #[{ on := 6, ground := Ground.data }, { on := 7, ground := Ground.data }, { on := 5, ground := Ground.chain }, { on := 5, ground := Ground.guard }], guard := some (5, true) }) (v := undef) rfl (by kernel_rfl) (by kernel_rfl) (by kernel_rfl) (fun _ _ _ h => h) (Or.inr ⟨by rfl, rfl⟩) (by assumption) ?_
        try simp only [Act.put, List.setIfInBounds_toArray, List.set_cons_zero, List.set_cons_succ]
        refine wpAnyH_take (i := 9) (oi := { dst := some 39, op := Op.fieldAddr 25 (Operand.tmp 4) 2, type := 0, pos := "build.go:28", after := #[{ on := 5, ground := Ground.guard }], guard := some (5, true) }) (v := undef) rfl (by kernel_rfl) (by kernel_rfl) (by kernel_rfl) (fun _ _ _ h => h) (Or.inr ⟨by rfl, rfl⟩) (by assumption) ?_
        try simp only [Act.put, List.setIfInBounds_toArray, List.set_cons_zero, List.set_cons_succ]
        refine wpAnyH_take (i := 10) (oi := { dst := some 40, op := Op.load 2 (Operand.tmp 39), type := 2, pos := "build.go:28", after := #[{ on := 9, ground := Ground.data }, { on := 5, ground := Ground.guard }], guard := some (5, true) }) (v := undef) rfl (by kernel_rfl) (by kernel_rfl) (by kernel_rfl) (fun _ _ _ h => h) (Or.inr ⟨by rfl, rfl⟩) (by assumption) ?_
        try simp only [Act.put, List.setIfInBounds_toArray, List.set_cons_zero, List.set_cons_succ]
        refine wpAnyH_take (i := 11) (oi := { dst := some 41, op := Op.call { callee := Callee.builtin Builtin.min, args := #[Operand.tmp 40, Operand.const (Value.int IntKind.i64 54840)], argTypes := #[2, 2] }, type := 2, pos := "build.go:28", after := #[{ on := 10, ground := Ground.data }, { on := 5, ground := Ground.guard }], guard := some (5, true) }) (v := undef) rfl (by kernel_rfl) (by kernel_rfl) (by kernel_rfl) (fun _ _ _ h => h) (Or.inr ⟨by rfl, rfl⟩) (by assumption) ?_
        try simp only [Act.put, List.setIfInBounds_toArray, List.set_cons_zero, List.set_cons_succ]
        refine wpAnyH_take (i := 12) (oi := { dst := some 42, op := Op.binOp BinOp.leq 2 (Operand.tmp 38) (Operand.tmp 41) 2, type := 4, pos := "build.go:28", after := #[{ on := 8, ground := Ground.data }, { on := 11, ground := Ground.data }, { on := 5, ground := Ground.guard }], guard := some (5, true) }) (v := undef) rfl (by kernel_rfl) (by kernel_rfl) (by kernel_rfl) (fun _ _ _ h => h) (Or.inr ⟨by rfl, rfl⟩) (by assumption) ?_
        try simp only [Act.put, List.setIfInBounds_toArray, List.set_cons_zero, List.set_cons_succ]
        refine wpAnyH_take (i := 13) (oi := { dst := some 43, op := Op.pick (Operand.tmp 35) (Operand.tmp 42) (Operand.const (Value.bool false)), type := 4, pos := "build.go:28", after := #[{ on := 5, ground := Ground.data }, { on := 12, ground := Ground.data }], guard := none }) (v := ?hv7) rfl (by kernel_rfl) (by kernel_rfl) (by kernel_rfl) (fun _ _ _ h => h) (Or.inl ⟨by rfl, ?hy7⟩) (by assumption) ?_
        case hy7 => ((intro w hSw); (try dsimp only at hSw); go_simp; (try with_reducible rfl))
        try simp only [Act.put, List.setIfInBounds_toArray, List.set_cons_zero, List.set_cons_succ]
        refine wpAnyH_take (i := 14) (oi := { dst := some 6, op := Op.assign (Operand.tmp 43), type := 4, pos := "build.go:28", after := #[{ on := 13, ground := Ground.data }, { on := 8, ground := Ground.chain }, { on := 0, ground := Ground.phase }, { on := 1, ground := Ground.phase }, { on := 2, ground := Ground.phase }, { on := 3, ground := Ground.phase }, { on := 4, ground := Ground.phase }, { on := 5, ground := Ground.phase }, { on := 6, ground := Ground.phase }, { on := 7, ground := Ground.phase }, { on := 8, ground := Ground.phase }, { on := 9, ground := Ground.phase }, { on := 10, ground := Ground.phase }, { on := 11, ground := Ground.phase }, { on := 12, ground := Ground.phase }, { on := 13, ground := Ground.phase }], guard := none }) (v := ?hv8) rfl (by kernel_rfl) (by kernel_rfl) (by kernel_rfl) (fun _ _ _ h => h) (Or.inl ⟨by rfl, ?hy8⟩) (by assumption) ?_
        case hy8 => ((intro w hSw); (try dsimp only at hSw); go_simp; (try with_reducible rfl))
        try simp only [Act.put, List.setIfInBounds_toArray, List.set_cons_zero, List.set_cons_succ]
        refine wpAnyH_done (by kernel_rfl) ?_ _
        go_wp2_with fail
        go_ret
        exact ⟨ret_bool (by rw [HG.out, EB.out, DG.out]; rfl), H0.out⟩
      case pos =>
        have dg : decide (g ≤ B) = true := decide_eq_true hg
        have DG := Lib.hid dg
        by_cases hT : T ≤ 54840
        case pos =>
          have hT' : (if (54840 : Int) < T then (54840 : Int) else T) = T := if_neg (by omega)
          have eT : min T 54840 = T := by omega
          have ET := Lib.hid eT
          clear eT
          go_wp2_with fail
          refine CL.out.mono ?_
          rintro e w2 ⟨rfl, rfl⟩
          go_wp2_with fail
          refine wp_region_held_drew (S := (fun y => y.cell? ⟨w.heap.size, 0, none⟩ = some (.int .i64 r.m) ∧ y.cell? ⟨w.heap.size, 1, none⟩ = some (.int .i64 r.c) ∧ y.cell? ⟨w.heap.size, 2, none⟩ = some (.int .i64 r.s) ∧ y.cell? ⟨w.heap.size, 3, none⟩ = some (.int .i64 r.w) ∧ y.cell? ⟨w.heap.size, 4, none⟩ = some (.int .i64 r.g) ∧ y.cell? ⟨w.heap.size + 1, 0, none⟩ = some (.int .i64 C) ∧ y.cell? ⟨w.heap.size + 1, 1, none⟩ = some (.int .i64 B) ∧ y.cell? ⟨w.heap.size + 1, 2, none⟩ = some (.int .i64 T))) (by kernel_rfl) ?_ (fun hHeld => ?_)
          · (try dsimp only); exact c0
          refine wpAnyH_take (i := 0) (oi := { dst := some 30, op := Op.move (Operand.tmp 7), type := 3, pos := "build.go:28", after := #[], guard := none }) (v := ?hv9) rfl (by kernel_rfl) (by kernel_rfl) (by kernel_rfl) (fun _ _ _ h => h) (Or.inl ⟨by rfl, ?hy9⟩) (by assumption) ?_
          case hy9 => ((intro w hSw); (try dsimp only at hSw); go_simp; (try with_reducible rfl))
          try simp only [Act.put, List.setIfInBounds_toArray, List.set_cons_zero, List.set_cons_succ]
          refine wpAnyH_take (i := 1) (oi := { dst := some 31, op := Op.fieldAddr 25 (Operand.tmp 4) 1, type := 0, pos := "build.go:28", after := #[], guard := none }) (v := ?hv10) rfl (by kernel_rfl) (by kernel_rfl) (by kernel_rfl) (fun _ _ _ h => h) (Or.inl ⟨by rfl, ?hy10⟩) (by assumption) ?_
          case hy10 => ((intro w hSw); (try dsimp only at hSw); go_simp; (try with_reducible rfl))
          try simp only [Act.put, List.setIfInBounds_toArray, List.set_cons_zero, List.set_cons_succ]
          refine wpAnyH_take (i := 2) (oi := { dst := some 32, op := Op.load 3 (Operand.tmp 31), type := 3, pos := "build.go:28", after := #[{ on := 1, ground := Ground.data }], guard := none }) (v := ?hv11) rfl (by kernel_rfl) (by kernel_rfl) (by kernel_rfl) (fun _ _ _ h => h) (Or.inl ⟨by rfl, ?hy11⟩) (by assumption) ?_
          case hy11 => ((intro w hSw); (try dsimp only at hSw); go_simp; (try with_reducible rfl))
          try simp only [Act.put, List.setIfInBounds_toArray, List.set_cons_zero, List.set_cons_succ]
          refine wpAnyH_take (i := 3) (oi := { dst := some 33, op := Op.call { callee := Callee.builtin Builtin.min, args := #[Operand.tmp 32, Operand.const (Value.int IntKind.i64 65535)], argTypes := #[3, 3] }, type := 3, pos := "build.go:28", after := #[{ on := 2, ground := Ground.data }], guard := none }) (v := ?hv12) rfl (by kernel_rfl) (by kernel_rfl) (by kernel_rfl) (fun _ _ _ h => h) (Or.inl ⟨by rfl, ?hy12⟩) (by assumption) ?_
          case hy12 => ((intro w hSw); (try dsimp only at hSw); go_simp; (try with_reducible rfl))
          try simp only [Act.put, List.setIfInBounds_toArray, List.set_cons_zero, List.set_cons_succ]
          refine wpAnyH_take (i := 4) (oi := { dst := some 34, op := Op.binOp BinOp.leq 3 (Operand.tmp 30) (Operand.tmp 33) 3, type := 4, pos := "build.go:28", after := #[{ on := 0, ground := Ground.data }, { on := 3, ground := Ground.data }], guard := none }) (v := ?hv13) rfl (by kernel_rfl) (by kernel_rfl) (by kernel_rfl) (fun _ _ _ h => h) (Or.inl ⟨by rfl, ?hy13⟩) (by assumption) ?_
          case hy13 => ((intro w hSw); (try dsimp only at hSw); go_simp; (try with_reducible rfl))
          try simp only [Act.put, List.setIfInBounds_toArray, List.set_cons_zero, List.set_cons_succ]
          refine wpAnyH_take (i := 5) (oi := { dst := some 35, op := Op.move (Operand.tmp 34), type := 4, pos := "build.go:28", after := #[{ on := 4, ground := Ground.data }], guard := none }) (v := ?hv14) rfl (by kernel_rfl) (by kernel_rfl) (by kernel_rfl) (fun _ _ _ h => h) (Or.inl ⟨by rfl, ?hy14⟩) (by assumption) ?_
          case hy14 => ((intro w hSw); (try dsimp only at hSw); go_simp; (try with_reducible rfl))
          try simp only [Act.put, List.setIfInBounds_toArray, List.set_cons_zero, List.set_cons_succ]
          refine wpAnyH_take (i := 6) (oi := { dst := some 36, op := Op.load 23 (Operand.tmp 3), type := 23, pos := "build.go:28", after := #[{ on := 5, ground := Ground.guard }], guard := some (5, true) }) (v := ?hv15) rfl (by kernel_rfl) (by kernel_rfl) (by kernel_rfl) (fun _ _ _ h => h) (Or.inl ⟨by rfl, ?hy15⟩) (by assumption) ?_
          case hy15 => ((intro w hSw); (try dsimp only at hSw); go_simp; (try with_reducible rfl))
          try simp only [Act.put, List.setIfInBounds_toArray, List.set_cons_zero, List.set_cons_succ]
          refine wpAnyH_take (i := 7) (oi := { dst := some 37, op := Op.move (Operand.tmp 7), type := 3, pos := "build.go:28", after := #[{ on := 5, ground := Ground.guard }], guard := some (5, true) }) (v := ?hv16) rfl (by kernel_rfl) (by kernel_rfl) (by kernel_rfl) (fun _ _ _ h => h) (Or.inl ⟨by rfl, ?hy16⟩) (by assumption) ?_
          case hy16 => ((intro w hSw); (try dsimp only at hSw); go_simp; (try with_reducible rfl))
          try simp only [Act.put, List.setIfInBounds_toArray, List.set_cons_zero, List.set_cons_succ]
          refine wpAnyH_take (i := 9) (oi := { dst := some 39, op := Op.fieldAddr 25 (Operand.tmp 4) 2, type := 0, pos := "build.go:28", after := #[{ on := 5, ground := Ground.guard }], guard := some (5, true) }) (v := ?hv17) rfl (by kernel_rfl) (by kernel_rfl) (by kernel_rfl) (fun _ _ _ h => h) (Or.inl ⟨by rfl, ?hy17⟩) (by assumption) ?_
          case hy17 => ((intro w hSw); (try dsimp only at hSw); go_simp; (try with_reducible rfl))
          try simp only [Act.put, List.setIfInBounds_toArray, List.set_cons_zero, List.set_cons_succ]
          refine wpAnyH_take (i := 10) (oi := { dst := some 40, op := Op.load 2 (Operand.tmp 39), type := 2, pos := "build.go:28", after := #[{ on := 9, ground := Ground.data }, { on := 5, ground := Ground.guard }], guard := some (5, true) }) (v := ?hv18) rfl (by kernel_rfl) (by kernel_rfl) (by kernel_rfl) (fun _ _ _ h => h) (Or.inl ⟨by rfl, ?hy18⟩) (by assumption) ?_
          case hy18 => ((intro w hSw); (try dsimp only at hSw); go_simp; (try with_reducible rfl))
          try simp only [Act.put, List.setIfInBounds_toArray, List.set_cons_zero, List.set_cons_succ]
          refine wpAnyH_take (i := 11) (oi := { dst := some 41, op := Op.call { callee := Callee.builtin Builtin.min, args := #[Operand.tmp 40, Operand.const (Value.int IntKind.i64 54840)], argTypes := #[2, 2] }, type := 2, pos := "build.go:28", after := #[{ on := 10, ground := Ground.data }, { on := 5, ground := Ground.guard }], guard := some (5, true) }) (v := ?hv19) rfl (by kernel_rfl) (by kernel_rfl) (by kernel_rfl) (fun _ _ _ h => h) (Or.inl ⟨by rfl, ?hy19⟩) (by assumption) ?_
          case hy19 => ((intro w hSw); (try dsimp only at hSw); go_simp; (try with_reducible rfl))
          try simp only [Act.put, List.setIfInBounds_toArray, List.set_cons_zero, List.set_cons_succ]
          refine wpAnyH_ready (rs := [8]) (by kernel_rfl) (by simp) ?_
          refine AllReadyH.cons (o := { dst := some 38, op := Op.call { callee := Callee.value (Operand.func 22), args := #[Operand.tmp 36, Operand.tmp 37], argTypes := #[23, 3] }, type := 2, pos := "build.go:28", after := #[{ on := 6, ground := Ground.data }, { on := 7, ground := Ground.data }, { on := 5, ground := Ground.chain }, { on := 5, ground := Ground.guard }], guard := some (5, true) }) rfl (fun K hK => ?_) AllReadyH.nil
          go_simp
          go_at_call 22; (with_reducible refine (CP.out _).mono ?_); rintro e x1 ⟨rfl, b1⟩; have c1 := rl (r := r) c0 b1 L0 M0; have H1 := Lib.hid (H0.out.trans (b1.mono H0.out.size)); clear b1
          refine hK.out _ _ ?_ (fun hHeld => ?_)
          · (try dsimp only); exact c1
          clear hK K
          try simp only [Act.put, List.setIfInBounds_toArray, List.set_cons_zero, List.set_cons_succ]
          refine wpAnyH_take (i := 12) (oi := { dst := some 42, op := Op.binOp BinOp.leq 2 (Operand.tmp 38) (Operand.tmp 41) 2, type := 4, pos := "build.go:28", after := #[{ on := 8, ground := Ground.data }, { on := 11, ground := Ground.data }, { on := 5, ground := Ground.guard }], guard := some (5, true) }) (v := ?hv20) rfl (by kernel_rfl) (by kernel_rfl) (by kernel_rfl) (fun _ _ _ h => h) (Or.inl ⟨by rfl, ?hy20⟩) (by assumption) ?_
          case hy20 => ((intro w hSw); (try dsimp only at hSw); go_simp; (try with_reducible rfl))
          try simp only [Act.put, List.setIfInBounds_toArray, List.set_cons_zero, List.set_cons_succ]
          refine wpAnyH_take (i := 13) (oi := { dst := some 43, op := Op.pick (Operand.tmp 35) (Operand.tmp 42) (Operand.const (Value.bool false)), type := 4, pos := "build.go:28", after := #[{ on := 5, ground := Ground.data }, { on := 12, ground := Ground.data }], guard := none }) (v := ?hv21) rfl (by kernel_rfl) (by kernel_rfl) (by kernel_rfl) (fun _ _ _ h => h) (Or.inl ⟨by rfl, ?hy21⟩) (by assumption) ?_
          case hy21 => ((intro w hSw); (try dsimp only at hSw); go_simp; (try with_reducible rfl))
          try simp only [Act.put, List.setIfInBounds_toArray, List.set_cons_zero, List.set_cons_succ]
          refine wpAnyH_take (i := 14) (oi := { dst := some 6, op := Op.assign (Operand.tmp 43), type := 4, pos := "build.go:28", after := #[{ on := 13, ground := Ground.data }, { on := 8, ground := Ground.chain }, { on := 0, ground := Ground.phase }, { on := 1, ground := Ground.phase }, { on := 2, ground := Ground.phase }, { on := 3, ground := Ground.phase }, { on := 4, ground := Ground.phase }, { on := 5, ground := Ground.phase }, { on := 6, ground := Ground.phase }, { on := 7, ground := Ground.phase }, { on := 8, ground := Ground.phase }, { on := 9, ground := Ground.phase }, { on := 10, ground := Ground.phase }, { on := 11, ground := Ground.phase }, { on := 12, ground := Ground.phase }, { on := 13, ground := Ground.phase }], guard := none }) (v := ?hv22) rfl (by kernel_rfl) (by kernel_rfl) (by kernel_rfl) (fun _ _ _ h => h) (Or.inl ⟨by rfl, ?hy22⟩) (by assumption) ?_
          case hy22 => ((intro w hSw); (try dsimp only at hSw); go_simp; (try with_reducible rfl))
          try simp only [Act.put, List.setIfInBounds_toArray, List.set_cons_zero, List.set_cons_succ]
          refine wpAnyH_done (by kernel_rfl) ?_ _
          go_wp2_with fail
          go_ret
          exact ⟨ret_bool (by rw [HG.out, EB.out, DG.out, ET.out]; rfl), H1.out⟩
        case neg =>
          have hT' : (if (54840 : Int) < T then (54840 : Int) else T) = 54840 := if_pos (by omega)
          have eT : min T 54840 = 54840 := by omega
          have ET := Lib.hid eT
          clear eT
          go_wp2_with fail
          refine CL.out.mono ?_
          rintro e w2 ⟨rfl, rfl⟩
          go_wp2_with fail
          refine wp_region_held_drew (S := (fun y => y.cell? ⟨w.heap.size, 0, none⟩ = some (.int .i64 r.m) ∧ y.cell? ⟨w.heap.size, 1, none⟩ = some (.int .i64 r.c) ∧ y.cell? ⟨w.heap.size, 2, none⟩ = some (.int .i64 r.s) ∧ y.cell? ⟨w.heap.size, 3, none⟩ = some (.int .i64 r.w) ∧ y.cell? ⟨w.heap.size, 4, none⟩ = some (.int .i64 r.g) ∧ y.cell? ⟨w.heap.size + 1, 0, none⟩ = some (.int .i64 C) ∧ y.cell? ⟨w.heap.size + 1, 1, none⟩ = some (.int .i64 B) ∧ y.cell? ⟨w.heap.size + 1, 2, none⟩ = some (.int .i64 T))) (by kernel_rfl) ?_ (fun hHeld => ?_)
          · (try dsimp only); exact c0
          refine wpAnyH_take (i := 0) (oi := { dst := some 30, op := Op.move (Operand.tmp 7), type := 3, pos := "build.go:28", after := #[], guard := none }) (v := ?hv23) rfl (by kernel_rfl) (by kernel_rfl) (by kernel_rfl) (fun _ _ _ h => h) (Or.inl ⟨by rfl, ?hy23⟩) (by assumption) ?_
          case hy23 => ((intro w hSw); (try dsimp only at hSw); go_simp; (try with_reducible rfl))
          try simp only [Act.put, List.setIfInBounds_toArray, List.set_cons_zero, List.set_cons_succ]
          refine wpAnyH_take (i := 1) (oi := { dst := some 31, op := Op.fieldAddr 25 (Operand.tmp 4) 1, type := 0, pos := "build.go:28", after := #[], guard := none }) (v := ?hv24) rfl (by kernel_rfl) (by kernel_rfl) (by kernel_rfl) (fun _ _ _ h => h) (Or.inl ⟨by rfl, ?hy24⟩) (by assumption) ?_
          case hy24 => ((intro w hSw); (try dsimp only at hSw); go_simp; (try with_reducible rfl))
          try simp only [Act.put, List.setIfInBounds_toArray, List.set_cons_zero, List.set_cons_succ]
          refine wpAnyH_take (i := 2) (oi := { dst := some 32, op := Op.load 3 (Operand.tmp 31), type := 3, pos := "build.go:28", after := #[{ on := 1, ground := Ground.data }], guard := none }) (v := ?hv25) rfl (by kernel_rfl) (by kernel_rfl) (by kernel_rfl) (fun _ _ _ h => h) (Or.inl ⟨by rfl, ?hy25⟩) (by assumption) ?_
          case hy25 => ((intro w hSw); (try dsimp only at hSw); go_simp; (try with_reducible rfl))
          try simp only [Act.put, List.setIfInBounds_toArray, List.set_cons_zero, List.set_cons_succ]
          refine wpAnyH_take (i := 3) (oi := { dst := some 33, op := Op.call { callee := Callee.builtin Builtin.min, args := #[Operand.tmp 32, Operand.const (Value.int IntKind.i64 65535)], argTypes := #[3, 3] }, type := 3, pos := "build.go:28", after := #[{ on := 2, ground := Ground.data }], guard := none }) (v := ?hv26) rfl (by kernel_rfl) (by kernel_rfl) (by kernel_rfl) (fun _ _ _ h => h) (Or.inl ⟨by rfl, ?hy26⟩) (by assumption) ?_
          case hy26 => ((intro w hSw); (try dsimp only at hSw); go_simp; (try with_reducible rfl))
          try simp only [Act.put, List.setIfInBounds_toArray, List.set_cons_zero, List.set_cons_succ]
          refine wpAnyH_take (i := 4) (oi := { dst := some 34, op := Op.binOp BinOp.leq 3 (Operand.tmp 30) (Operand.tmp 33) 3, type := 4, pos := "build.go:28", after := #[{ on := 0, ground := Ground.data }, { on := 3, ground := Ground.data }], guard := none }) (v := ?hv27) rfl (by kernel_rfl) (by kernel_rfl) (by kernel_rfl) (fun _ _ _ h => h) (Or.inl ⟨by rfl, ?hy27⟩) (by assumption) ?_
          case hy27 => ((intro w hSw); (try dsimp only at hSw); go_simp; (try with_reducible rfl))
          try simp only [Act.put, List.setIfInBounds_toArray, List.set_cons_zero, List.set_cons_succ]
          refine wpAnyH_take (i := 5) (oi := { dst := some 35, op := Op.move (Operand.tmp 34), type := 4, pos := "build.go:28", after := #[{ on := 4, ground := Ground.data }], guard := none }) (v := ?hv28) rfl (by kernel_rfl) (by kernel_rfl) (by kernel_rfl) (fun _ _ _ h => h) (Or.inl ⟨by rfl, ?hy28⟩) (by assumption) ?_
          case hy28 => ((intro w hSw); (try dsimp only at hSw); go_simp; (try with_reducible rfl))
          try simp only [Act.put, List.setIfInBounds_toArray, List.set_cons_zero, List.set_cons_succ]
          refine wpAnyH_take (i := 6) (oi := { dst := some 36, op := Op.load 23 (Operand.tmp 3), type := 23, pos := "build.go:28", after := #[{ on := 5, ground := Ground.guard }], guard := some (5, true) }) (v := ?hv29) rfl (by kernel_rfl) (by kernel_rfl) (by kernel_rfl) (fun _ _ _ h => h) (Or.inl ⟨by rfl, ?hy29⟩) (by assumption) ?_
          case hy29 => ((intro w hSw); (try dsimp only at hSw); go_simp; (try with_reducible rfl))
          try simp only [Act.put, List.setIfInBounds_toArray, List.set_cons_zero, List.set_cons_succ]
          refine wpAnyH_take (i := 7) (oi := { dst := some 37, op := Op.move (Operand.tmp 7), type := 3, pos := "build.go:28", after := #[{ on := 5, ground := Ground.guard }], guard := some (5, true) }) (v := ?hv30) rfl (by kernel_rfl) (by kernel_rfl) (by kernel_rfl) (fun _ _ _ h => h) (Or.inl ⟨by rfl, ?hy30⟩) (by assumption) ?_
          case hy30 => ((intro w hSw); (try dsimp only at hSw); go_simp; (try with_reducible rfl))
          try simp only [Act.put, List.setIfInBounds_toArray, List.set_cons_zero, List.set_cons_succ]
          refine wpAnyH_take (i := 9) (oi := { dst := some 39, op := Op.fieldAddr 25 (Operand.tmp 4) 2, type := 0, pos := "build.go:28", after := #[{ on := 5, ground := Ground.guard }], guard := some (5, true) }) (v := ?hv31) rfl (by kernel_rfl) (by kernel_rfl) (by kernel_rfl) (fun _ _ _ h => h) (Or.inl ⟨by rfl, ?hy31⟩) (by assumption) ?_
          case hy31 => ((intro w hSw); (try dsimp only at hSw); go_simp; (try with_reducible rfl))
          try simp only [Act.put, List.setIfInBounds_toArray, List.set_cons_zero, List.set_cons_succ]
          refine wpAnyH_take (i := 10) (oi := { dst := some 40, op := Op.load 2 (Operand.tmp 39), type := 2, pos := "build.go:28", after := #[{ on := 9, ground := Ground.data }, { on := 5, ground := Ground.guard }], guard := some (5, true) }) (v := ?hv32) rfl (by kernel_rfl) (by kernel_rfl) (by kernel_rfl) (fun _ _ _ h => h) (Or.inl ⟨by rfl, ?hy32⟩) (by assumption) ?_
          case hy32 => ((intro w hSw); (try dsimp only at hSw); go_simp; (try with_reducible rfl))
          try simp only [Act.put, List.setIfInBounds_toArray, List.set_cons_zero, List.set_cons_succ]
          refine wpAnyH_take (i := 11) (oi := { dst := some 41, op := Op.call { callee := Callee.builtin Builtin.min, args := #[Operand.tmp 40, Operand.const (Value.int IntKind.i64 54840)], argTypes := #[2, 2] }, type := 2, pos := "build.go:28", after := #[{ on := 10, ground := Ground.data }, { on := 5, ground := Ground.guard }], guard := some (5, true) }) (v := ?hv33) rfl (by kernel_rfl) (by kernel_rfl) (by kernel_rfl) (fun _ _ _ h => h) (Or.inl ⟨by rfl, ?hy33⟩) (by assumption) ?_
          case hy33 => ((intro w hSw); (try dsimp only at hSw); go_simp; (try with_reducible rfl))
          try simp only [Act.put, List.setIfInBounds_toArray, List.set_cons_zero, List.set_cons_succ]
          refine wpAnyH_ready (rs := [8]) (by kernel_rfl) (by simp) ?_
          refine AllReadyH.cons (o := { dst := some 38, op := Op.call { callee := Callee.value (Operand.func 22), args := #[Operand.tmp 36, Operand.tmp 37], argTypes := #[23, 3] }, type := 2, pos := "build.go:28", after := #[{ on := 6, ground := Ground.data }, { on := 7, ground := Ground.data }, { on := 5, ground := Ground.chain }, { on := 5, ground := Ground.guard }], guard := some (5, true) }) rfl (fun K hK => ?_) AllReadyH.nil
          go_simp
          go_at_call 22; (with_reducible refine (CP.out _).mono ?_); rintro e x1 ⟨rfl, b1⟩; have c1 := rl (r := r) c0 b1 L0 M0; have H1 := Lib.hid (H0.out.trans (b1.mono H0.out.size)); clear b1
          refine hK.out _ _ ?_ (fun hHeld => ?_)
          · (try dsimp only); exact c1
          clear hK K
          try simp only [Act.put, List.setIfInBounds_toArray, List.set_cons_zero, List.set_cons_succ]
          refine wpAnyH_take (i := 12) (oi := { dst := some 42, op := Op.binOp BinOp.leq 2 (Operand.tmp 38) (Operand.tmp 41) 2, type := 4, pos := "build.go:28", after := #[{ on := 8, ground := Ground.data }, { on := 11, ground := Ground.data }, { on := 5, ground := Ground.guard }], guard := some (5, true) }) (v := ?hv34) rfl (by kernel_rfl) (by kernel_rfl) (by kernel_rfl) (fun _ _ _ h => h) (Or.inl ⟨by rfl, ?hy34⟩) (by assumption) ?_
          case hy34 => ((intro w hSw); (try dsimp only at hSw); go_simp; (try with_reducible rfl))
          try simp only [Act.put, List.setIfInBounds_toArray, List.set_cons_zero, List.set_cons_succ]
          refine wpAnyH_take (i := 13) (oi := { dst := some 43, op := Op.pick (Operand.tmp 35) (Operand.tmp 42) (Operand.const (Value.bool false)), type := 4, pos := "build.go:28", after := #[{ on := 5, ground := Ground.data }, { on := 12, ground := Ground.data }], guard := none }) (v := ?hv35) rfl (by kernel_rfl) (by kernel_rfl) (by kernel_rfl) (fun _ _ _ h => h) (Or.inl ⟨by rfl, ?hy35⟩) (by assumption) ?_
          case hy35 => ((intro w hSw); (try dsimp only at hSw); go_simp; (try with_reducible rfl))
          try simp only [Act.put, List.setIfInBounds_toArray, List.set_cons_zero, List.set_cons_succ]
          refine wpAnyH_take (i := 14) (oi := { dst := some 6, op := Op.assign (Operand.tmp 43), type := 4, pos := "build.go:28", after := #[{ on := 13, ground := Ground.data }, { on := 8, ground := Ground.chain }, { on := 0, ground := Ground.phase }, { on := 1, ground := Ground.phase }, { on := 2, ground := Ground.phase }, { on := 3, ground := Ground.phase }, { on := 4, ground := Ground.phase }, { on := 5, ground := Ground.phase }, { on := 6, ground := Ground.phase }, { on := 7, ground := Ground.phase }, { on := 8, ground := Ground.phase }, { on := 9, ground := Ground.phase }, { on := 10, ground := Ground.phase }, { on := 11, ground := Ground.phase }, { on := 12, ground := Ground.phase }, { on := 13, ground := Ground.phase }], guard := none }) (v := ?hv36) rfl (by kernel_rfl) (by kernel_rfl) (by kernel_rfl) (fun _ _ _ h => h) (Or.inl ⟨by rfl, ?hy36⟩) (by assumption) ?_
          case hy36 => ((intro w hSw); (try dsimp only at hSw); go_simp; (try with_reducible rfl))
          try simp only [Act.put, List.setIfInBounds_toArray, List.set_cons_zero, List.set_cons_succ]
          refine wpAnyH_done (by kernel_rfl) ?_ _
          go_wp2_with fail
          go_ret
          exact ⟨ret_bool (by rw [HG.out, EB.out, DG.out, ET.out]; rfl), H1.out⟩
    case neg =>
      have hd1 : decide (C < (n : Int)) = false := decide_eq_false (by omega)
      have hd2 : decide ((64 : Int) < (n : Int)) = false := decide_eq_false (by omega)
      clear hc
      by_cases hg : g ≤ B
      case neg =>
        have dg : decide (g ≤ B) = false := decide_eq_false hg
        have DG := Lib.hid dg
        go_wp2_with fail
        refine CL.out.mono ?_
        rintro e w2 ⟨rfl, rfl⟩
        go_wp2_with fail
        refine wp_region_held_drew (S := (fun y => y.cell? ⟨w.heap.size, 0, none⟩ = some (.int .i64 r.m) ∧ y.cell? ⟨w.heap.size, 1, none⟩ = some (.int .i64 r.c) ∧ y.cell? ⟨w.heap.size, 2, none⟩ = some (.int .i64 r.s) ∧ y.cell? ⟨w.heap.size, 3, none⟩ = some (.int .i64 r.w) ∧ y.cell? ⟨w.heap.size, 4, none⟩ = some (.int .i64 r.g) ∧ y.cell? ⟨w.heap.size + 1, 0, none⟩ = some (.int .i64 C) ∧ y.cell? ⟨w.heap.size + 1, 1, none⟩ = some (.int .i64 B) ∧ y.cell? ⟨w.heap.size + 1, 2, none⟩ = some (.int .i64 T))) (by kernel_rfl) ?_ (fun hHeld => ?_)
        · (try dsimp only); exact c0
        refine wpAnyH_take (i := 0) (oi := { dst := some 30, op := Op.move (Operand.tmp 7), type := 3, pos := "build.go:28", after := #[], guard := none }) (v := ?hv37) rfl (by kernel_rfl) (by kernel_rfl) (by kernel_rfl) (fun _ _ _ h => h) (Or.inl ⟨by rfl, ?hy37⟩) (by assumption) ?_
        case hy37 => ((intro w hSw); (try dsimp only at hSw); go_simp; (try with_reducible rfl))
        try simp only [Act.put, List.setIfInBounds_toArray, List.set_cons_zero, List.set_cons_succ]
        refine wpAnyH_take (i := 1) (oi := { dst := some 31, op := Op.fieldAddr 25 (Operand.tmp 4) 1, type := 0, pos := "build.go:28", after := #[], guard := none }) (v := ?hv38) rfl (by kernel_rfl) (by kernel_rfl) (by kernel_rfl) (fun _ _ _ h => h) (Or.inl ⟨by rfl, ?hy38⟩) (by assumption) ?_
        case hy38 => ((intro w hSw); (try dsimp only at hSw); go_simp; (try with_reducible rfl))
        try simp only [Act.put, List.setIfInBounds_toArray, List.set_cons_zero, List.set_cons_succ]
        refine wpAnyH_take (i := 2) (oi := { dst := some 32, op := Op.load 3 (Operand.tmp 31), type := 3, pos := "build.go:28", after := #[{ on := 1, ground := Ground.data }], guard := none }) (v := ?hv39) rfl (by kernel_rfl) (by kernel_rfl) (by kernel_rfl) (fun _ _ _ h => h) (Or.inl ⟨by rfl, ?hy39⟩) (by assumption) ?_
        case hy39 => ((intro w hSw); (try dsimp only at hSw); go_simp; (try with_reducible rfl))
        try simp only [Act.put, List.setIfInBounds_toArray, List.set_cons_zero, List.set_cons_succ]
        refine wpAnyH_take (i := 3) (oi := { dst := some 33, op := Op.call { callee := Callee.builtin Builtin.min, args := #[Operand.tmp 32, Operand.const (Value.int IntKind.i64 65535)], argTypes := #[3, 3] }, type := 3, pos := "build.go:28", after := #[{ on := 2, ground := Ground.data }], guard := none }) (v := ?hv40) rfl (by kernel_rfl) (by kernel_rfl) (by kernel_rfl) (fun _ _ _ h => h) (Or.inl ⟨by rfl, ?hy40⟩) (by assumption) ?_
        case hy40 => ((intro w hSw); (try dsimp only at hSw); go_simp; (try with_reducible rfl))
        try simp only [Act.put, List.setIfInBounds_toArray, List.set_cons_zero, List.set_cons_succ]
        refine wpAnyH_take (i := 4) (oi := { dst := some 34, op := Op.binOp BinOp.leq 3 (Operand.tmp 30) (Operand.tmp 33) 3, type := 4, pos := "build.go:28", after := #[{ on := 0, ground := Ground.data }, { on := 3, ground := Ground.data }], guard := none }) (v := ?hv41) rfl (by kernel_rfl) (by kernel_rfl) (by kernel_rfl) (fun _ _ _ h => h) (Or.inl ⟨by rfl, ?hy41⟩) (by assumption) ?_
        case hy41 => ((intro w hSw); (try dsimp only at hSw); go_simp; (try with_reducible rfl))
        try simp only [Act.put, List.setIfInBounds_toArray, List.set_cons_zero, List.set_cons_succ]
        refine wpAnyH_take (i := 5) (oi := { dst := some 35, op := Op.move (Operand.tmp 34), type := 4, pos := "build.go:28", after := #[{ on := 4, ground := Ground.data }], guard := none }) (v := ?hv42) rfl (by kernel_rfl) (by kernel_rfl) (by kernel_rfl) (fun _ _ _ h => h) (Or.inl ⟨by rfl, ?hy42⟩) (by assumption) ?_
        case hy42 => ((intro w hSw); (try dsimp only at hSw); go_simp; (try with_reducible rfl))
        try simp only [Act.put, List.setIfInBounds_toArray, List.set_cons_zero, List.set_cons_succ]
        refine wpAnyH_take (i := 6) (oi := { dst := some 36, op := Op.load 23 (Operand.tmp 3), type := 23, pos := "build.go:28", after := #[{ on := 5, ground := Ground.guard }], guard := some (5, true) }) (v := undef) rfl (by kernel_rfl) (by kernel_rfl) (by kernel_rfl) (fun _ _ _ h => h) (Or.inr ⟨by rfl, rfl⟩) (by assumption) ?_
        try simp only [Act.put, List.setIfInBounds_toArray, List.set_cons_zero, List.set_cons_succ]
        refine wpAnyH_take (i := 7) (oi := { dst := some 37, op := Op.move (Operand.tmp 7), type := 3, pos := "build.go:28", after := #[{ on := 5, ground := Ground.guard }], guard := some (5, true) }) (v := undef) rfl (by kernel_rfl) (by kernel_rfl) (by kernel_rfl) (fun _ _ _ h => h) (Or.inr ⟨by rfl, rfl⟩) (by assumption) ?_
        try simp only [Act.put, List.setIfInBounds_toArray, List.set_cons_zero, List.set_cons_succ]
        refine wpAnyH_take (i := 8) (oi := { dst := some 38, op := Op.call { callee := Callee.value (Operand.func 22), args := #[Operand.tmp 36, Operand.tmp 37], argTypes := #[23, 3] }, type := 2, pos := "build.go:28", after := #[{ on := 6, ground := Ground.data }, { on := 7, ground := Ground.data }, { on := 5, ground := Ground.chain }, { on := 5, ground := Ground.guard }], guard := some (5, true) }) (v := undef) rfl (by kernel_rfl) (by kernel_rfl) (by kernel_rfl) (fun _ _ _ h => h) (Or.inr ⟨by rfl, rfl⟩) (by assumption) ?_
        try simp only [Act.put, List.setIfInBounds_toArray, List.set_cons_zero, List.set_cons_succ]
        refine wpAnyH_take (i := 9) (oi := { dst := some 39, op := Op.fieldAddr 25 (Operand.tmp 4) 2, type := 0, pos := "build.go:28", after := #[{ on := 5, ground := Ground.guard }], guard := some (5, true) }) (v := undef) rfl (by kernel_rfl) (by kernel_rfl) (by kernel_rfl) (fun _ _ _ h => h) (Or.inr ⟨by rfl, rfl⟩) (by assumption) ?_
        try simp only [Act.put, List.setIfInBounds_toArray, List.set_cons_zero, List.set_cons_succ]
        refine wpAnyH_take (i := 10) (oi := { dst := some 40, op := Op.load 2 (Operand.tmp 39), type := 2, pos := "build.go:28", after := #[{ on := 9, ground := Ground.data }, { on := 5, ground := Ground.guard }], guard := some (5, true) }) (v := undef) rfl (by kernel_rfl) (by kernel_rfl) (by kernel_rfl) (fun _ _ _ h => h) (Or.inr ⟨by rfl, rfl⟩) (by assumption) ?_
        try simp only [Act.put, List.setIfInBounds_toArray, List.set_cons_zero, List.set_cons_succ]
        refine wpAnyH_take (i := 11) (oi := { dst := some 41, op := Op.call { callee := Callee.builtin Builtin.min, args := #[Operand.tmp 40, Operand.const (Value.int IntKind.i64 54840)], argTypes := #[2, 2] }, type := 2, pos := "build.go:28", after := #[{ on := 10, ground := Ground.data }, { on := 5, ground := Ground.guard }], guard := some (5, true) }) (v := undef) rfl (by kernel_rfl) (by kernel_rfl) (by kernel_rfl) (fun _ _ _ h => h) (Or.inr ⟨by rfl, rfl⟩) (by assumption) ?_
        try simp only [Act.put, List.setIfInBounds_toArray, List.set_cons_zero, List.set_cons_succ]
        refine wpAnyH_take (i := 12) (oi := { dst := some 42, op := Op.binOp BinOp.leq 2 (Operand.tmp 38) (Operand.tmp 41) 2, type := 4, pos := "build.go:28", after := #[{ on := 8, ground := Ground.data }, { on := 11, ground := Ground.data }, { on := 5, ground := Ground.guard }], guard := some (5, true) }) (v := undef) rfl (by kernel_rfl) (by kernel_rfl) (by kernel_rfl) (fun _ _ _ h => h) (Or.inr ⟨by rfl, rfl⟩) (by assumption) ?_
        try simp only [Act.put, List.setIfInBounds_toArray, List.set_cons_zero, List.set_cons_succ]
        refine wpAnyH_take (i := 13) (oi := { dst := some 43, op := Op.pick (Operand.tmp 35) (Operand.tmp 42) (Operand.const (Value.bool false)), type := 4, pos := "build.go:28", after := #[{ on := 5, ground := Ground.data }, { on := 12, ground := Ground.data }], guard := none }) (v := ?hv43) rfl (by kernel_rfl) (by kernel_rfl) (by kernel_rfl) (fun _ _ _ h => h) (Or.inl ⟨by rfl, ?hy43⟩) (by assumption) ?_
        case hy43 => ((intro w hSw); (try dsimp only at hSw); go_simp; (try with_reducible rfl))
        try simp only [Act.put, List.setIfInBounds_toArray, List.set_cons_zero, List.set_cons_succ]
        refine wpAnyH_take (i := 14) (oi := { dst := some 6, op := Op.assign (Operand.tmp 43), type := 4, pos := "build.go:28", after := #[{ on := 13, ground := Ground.data }, { on := 8, ground := Ground.chain }, { on := 0, ground := Ground.phase }, { on := 1, ground := Ground.phase }, { on := 2, ground := Ground.phase }, { on := 3, ground := Ground.phase }, { on := 4, ground := Ground.phase }, { on := 5, ground := Ground.phase }, { on := 6, ground := Ground.phase }, { on := 7, ground := Ground.phase }, { on := 8, ground := Ground.phase }, { on := 9, ground := Ground.phase }, { on := 10, ground := Ground.phase }, { on := 11, ground := Ground.phase }, { on := 12, ground := Ground.phase }, { on := 13, ground := Ground.phase }], guard := none }) (v := ?hv44) rfl (by kernel_rfl) (by kernel_rfl) (by kernel_rfl) (fun _ _ _ h => h) (Or.inl ⟨by rfl, ?hy44⟩) (by assumption) ?_
        case hy44 => ((intro w hSw); (try dsimp only at hSw); go_simp; (try with_reducible rfl))
        try simp only [Act.put, List.setIfInBounds_toArray, List.set_cons_zero, List.set_cons_succ]
        refine wpAnyH_done (by kernel_rfl) ?_ _
        go_wp2_with fail
        go_ret
        exact ⟨ret_bool (by rw [HG.out, EB.out, DG.out]; rfl), H0.out⟩
      case pos =>
        have dg : decide (g ≤ B) = true := decide_eq_true hg
        have DG := Lib.hid dg
        by_cases hT : T ≤ 54840
        case pos =>
          have hT' : (if (54840 : Int) < T then (54840 : Int) else T) = T := if_neg (by omega)
          have eT : min T 54840 = T := by omega
          have ET := Lib.hid eT
          clear eT
          go_wp2_with fail
          refine CL.out.mono ?_
          rintro e w2 ⟨rfl, rfl⟩
          go_wp2_with fail
          refine wp_region_held_drew (S := (fun y => y.cell? ⟨w.heap.size, 0, none⟩ = some (.int .i64 r.m) ∧ y.cell? ⟨w.heap.size, 1, none⟩ = some (.int .i64 r.c) ∧ y.cell? ⟨w.heap.size, 2, none⟩ = some (.int .i64 r.s) ∧ y.cell? ⟨w.heap.size, 3, none⟩ = some (.int .i64 r.w) ∧ y.cell? ⟨w.heap.size, 4, none⟩ = some (.int .i64 r.g) ∧ y.cell? ⟨w.heap.size + 1, 0, none⟩ = some (.int .i64 C) ∧ y.cell? ⟨w.heap.size + 1, 1, none⟩ = some (.int .i64 B) ∧ y.cell? ⟨w.heap.size + 1, 2, none⟩ = some (.int .i64 T))) (by kernel_rfl) ?_ (fun hHeld => ?_)
          · (try dsimp only); exact c0
          refine wpAnyH_take (i := 0) (oi := { dst := some 30, op := Op.move (Operand.tmp 7), type := 3, pos := "build.go:28", after := #[], guard := none }) (v := ?hv45) rfl (by kernel_rfl) (by kernel_rfl) (by kernel_rfl) (fun _ _ _ h => h) (Or.inl ⟨by rfl, ?hy45⟩) (by assumption) ?_
          case hy45 => ((intro w hSw); (try dsimp only at hSw); go_simp; (try with_reducible rfl))
          try simp only [Act.put, List.setIfInBounds_toArray, List.set_cons_zero, List.set_cons_succ]
          refine wpAnyH_take (i := 1) (oi := { dst := some 31, op := Op.fieldAddr 25 (Operand.tmp 4) 1, type := 0, pos := "build.go:28", after := #[], guard := none }) (v := ?hv46) rfl (by kernel_rfl) (by kernel_rfl) (by kernel_rfl) (fun _ _ _ h => h) (Or.inl ⟨by rfl, ?hy46⟩) (by assumption) ?_
          case hy46 => ((intro w hSw); (try dsimp only at hSw); go_simp; (try with_reducible rfl))
          try simp only [Act.put, List.setIfInBounds_toArray, List.set_cons_zero, List.set_cons_succ]
          refine wpAnyH_take (i := 2) (oi := { dst := some 32, op := Op.load 3 (Operand.tmp 31), type := 3, pos := "build.go:28", after := #[{ on := 1, ground := Ground.data }], guard := none }) (v := ?hv47) rfl (by kernel_rfl) (by kernel_rfl) (by kernel_rfl) (fun _ _ _ h => h) (Or.inl ⟨by rfl, ?hy47⟩) (by assumption) ?_
          case hy47 => ((intro w hSw); (try dsimp only at hSw); go_simp; (try with_reducible rfl))
          try simp only [Act.put, List.setIfInBounds_toArray, List.set_cons_zero, List.set_cons_succ]
          refine wpAnyH_take (i := 3) (oi := { dst := some 33, op := Op.call { callee := Callee.builtin Builtin.min, args := #[Operand.tmp 32, Operand.const (Value.int IntKind.i64 65535)], argTypes := #[3, 3] }, type := 3, pos := "build.go:28", after := #[{ on := 2, ground := Ground.data }], guard := none }) (v := ?hv48) rfl (by kernel_rfl) (by kernel_rfl) (by kernel_rfl) (fun _ _ _ h => h) (Or.inl ⟨by rfl, ?hy48⟩) (by assumption) ?_
          case hy48 => ((intro w hSw); (try dsimp only at hSw); go_simp; (try with_reducible rfl))
          try simp only [Act.put, List.setIfInBounds_toArray, List.set_cons_zero, List.set_cons_succ]
          refine wpAnyH_take (i := 4) (oi := { dst := some 34, op := Op.binOp BinOp.leq 3 (Operand.tmp 30) (Operand.tmp 33) 3, type := 4, pos := "build.go:28", after := #[{ on := 0, ground := Ground.data }, { on := 3, ground := Ground.data }], guard := none }) (v := ?hv49) rfl (by kernel_rfl) (by kernel_rfl) (by kernel_rfl) (fun _ _ _ h => h) (Or.inl ⟨by rfl, ?hy49⟩) (by assumption) ?_
          case hy49 => ((intro w hSw); (try dsimp only at hSw); go_simp; (try with_reducible rfl))
          try simp only [Act.put, List.setIfInBounds_toArray, List.set_cons_zero, List.set_cons_succ]
          refine wpAnyH_take (i := 5) (oi := { dst := some 35, op := Op.move (Operand.tmp 34), type := 4, pos := "build.go:28", after := #[{ on := 4, ground := Ground.data }], guard := none }) (v := ?hv50) rfl (by kernel_rfl) (by kernel_rfl) (by kernel_rfl) (fun _ _ _ h => h) (Or.inl ⟨by rfl, ?hy50⟩) (by assumption) ?_
          case hy50 => ((intro w hSw); (try dsimp only at hSw); go_simp; (try with_reducible rfl))
          try simp only [Act.put, List.setIfInBounds_toArray, List.set_cons_zero, List.set_cons_succ]
          refine wpAnyH_take (i := 6) (oi := { dst := some 36, op := Op.load 23 (Operand.tmp 3), type := 23, pos := "build.go:28", after := #[{ on := 5, ground := Ground.guard }], guard := some (5, true) }) (v := ?hv51) rfl (by kernel_rfl) (by kernel_rfl) (by kernel_rfl) (fun _ _ _ h => h) (Or.inl ⟨by rfl, ?hy51⟩) (by assumption) ?_
          case hy51 => ((intro w hSw); (try dsimp only at hSw); go_simp; (try with_reducible rfl))
          try simp only [Act.put, List.setIfInBounds_toArray, List.set_cons_zero, List.set_cons_succ]
          refine wpAnyH_take (i := 7) (oi := { dst := some 37, op := Op.move (Operand.tmp 7), type := 3, pos := "build.go:28", after := #[{ on := 5, ground := Ground.guard }], guard := some (5, true) }) (v := ?hv52) rfl (by kernel_rfl) (by kernel_rfl) (by kernel_rfl) (fun _ _ _ h => h) (Or.inl ⟨by rfl, ?hy52⟩) (by assumption) ?_
          case hy52 => ((intro w hSw); (try dsimp only at hSw); go_simp; (try with_reducible rfl))
          try simp only [Act.put, List.setIfInBounds_toArray, List.set_cons_zero, List.set_cons_succ]
          refine wpAnyH_take (i := 9) (oi := { dst := some 39, op := Op.fieldAddr 25 (Operand.tmp 4) 2, type := 0, pos := "build.go:28", after := #[{ on := 5, ground := Ground.guard }], guard := some (5, true) }) (v := ?hv53) rfl (by kernel_rfl) (by kernel_rfl) (by kernel_rfl) (fun _ _ _ h => h) (Or.inl ⟨by rfl, ?hy53⟩) (by assumption) ?_
          case hy53 => ((intro w hSw); (try dsimp only at hSw); go_simp; (try with_reducible rfl))
          try simp only [Act.put, List.setIfInBounds_toArray, List.set_cons_zero, List.set_cons_succ]
          refine wpAnyH_take (i := 10) (oi := { dst := some 40, op := Op.load 2 (Operand.tmp 39), type := 2, pos := "build.go:28", after := #[{ on := 9, ground := Ground.data }, { on := 5, ground := Ground.guard }], guard := some (5, true) }) (v := ?hv54) rfl (by kernel_rfl) (by kernel_rfl) (by kernel_rfl) (fun _ _ _ h => h) (Or.inl ⟨by rfl, ?hy54⟩) (by assumption) ?_
          case hy54 => ((intro w hSw); (try dsimp only at hSw); go_simp; (try with_reducible rfl))
          try simp only [Act.put, List.setIfInBounds_toArray, List.set_cons_zero, List.set_cons_succ]
          refine wpAnyH_take (i := 11) (oi := { dst := some 41, op := Op.call { callee := Callee.builtin Builtin.min, args := #[Operand.tmp 40, Operand.const (Value.int IntKind.i64 54840)], argTypes := #[2, 2] }, type := 2, pos := "build.go:28", after := #[{ on := 10, ground := Ground.data }, { on := 5, ground := Ground.guard }], guard := some (5, true) }) (v := ?hv55) rfl (by kernel_rfl) (by kernel_rfl) (by kernel_rfl) (fun _ _ _ h => h) (Or.inl ⟨by rfl, ?hy55⟩) (by assumption) ?_
          case hy55 => ((intro w hSw); (try dsimp only at hSw); go_simp; (try with_reducible rfl))
          try simp only [Act.put, List.setIfInBounds_toArray, List.set_cons_zero, List.set_cons_succ]
          refine wpAnyH_ready (rs := [8]) (by kernel_rfl) (by simp) ?_
          refine AllReadyH.cons (o := { dst := some 38, op := Op.call { callee := Callee.value (Operand.func 22), args := #[Operand.tmp 36, Operand.tmp 37], argTypes := #[23, 3] }, type := 2, pos := "build.go:28", after := #[{ on := 6, ground := Ground.data }, { on := 7, ground := Ground.data }, { on := 5, ground := Ground.chain }, { on := 5, ground := Ground.guard }], guard := some (5, true) }) rfl (fun K hK => ?_) AllReadyH.nil
          go_simp
          go_at_call 22; (with_reducible refine (CP.out _).mono ?_); rintro e x1 ⟨rfl, b1⟩; have c1 := rl (r := r) c0 b1 L0 M0; have H1 := Lib.hid (H0.out.trans (b1.mono H0.out.size)); clear b1
          refine hK.out _ _ ?_ (fun hHeld => ?_)
          · (try dsimp only); exact c1
          clear hK K
          try simp only [Act.put, List.setIfInBounds_toArray, List.set_cons_zero, List.set_cons_succ]
          refine wpAnyH_take (i := 12) (oi := { dst := some 42, op := Op.binOp BinOp.leq 2 (Operand.tmp 38) (Operand.tmp 41) 2, type := 4, pos := "build.go:28", after := #[{ on := 8, ground := Ground.data }, { on := 11, ground := Ground.data }, { on := 5, ground := Ground.guard }], guard := some (5, true) }) (v := ?hv56) rfl (by kernel_rfl) (by kernel_rfl) (by kernel_rfl) (fun _ _ _ h => h) (Or.inl ⟨by rfl, ?hy56⟩) (by assumption) ?_
          case hy56 => ((intro w hSw); (try dsimp only at hSw); go_simp; (try with_reducible rfl))
          try simp only [Act.put, List.setIfInBounds_toArray, List.set_cons_zero, List.set_cons_succ]
          refine wpAnyH_take (i := 13) (oi := { dst := some 43, op := Op.pick (Operand.tmp 35) (Operand.tmp 42) (Operand.const (Value.bool false)), type := 4, pos := "build.go:28", after := #[{ on := 5, ground := Ground.data }, { on := 12, ground := Ground.data }], guard := none }) (v := ?hv57) rfl (by kernel_rfl) (by kernel_rfl) (by kernel_rfl) (fun _ _ _ h => h) (Or.inl ⟨by rfl, ?hy57⟩) (by assumption) ?_
          case hy57 => ((intro w hSw); (try dsimp only at hSw); go_simp; (try with_reducible rfl))
          try simp only [Act.put, List.setIfInBounds_toArray, List.set_cons_zero, List.set_cons_succ]
          refine wpAnyH_take (i := 14) (oi := { dst := some 6, op := Op.assign (Operand.tmp 43), type := 4, pos := "build.go:28", after := #[{ on := 13, ground := Ground.data }, { on := 8, ground := Ground.chain }, { on := 0, ground := Ground.phase }, { on := 1, ground := Ground.phase }, { on := 2, ground := Ground.phase }, { on := 3, ground := Ground.phase }, { on := 4, ground := Ground.phase }, { on := 5, ground := Ground.phase }, { on := 6, ground := Ground.phase }, { on := 7, ground := Ground.phase }, { on := 8, ground := Ground.phase }, { on := 9, ground := Ground.phase }, { on := 10, ground := Ground.phase }, { on := 11, ground := Ground.phase }, { on := 12, ground := Ground.phase }, { on := 13, ground := Ground.phase }], guard := none }) (v := ?hv58) rfl (by kernel_rfl) (by kernel_rfl) (by kernel_rfl) (fun _ _ _ h => h) (Or.inl ⟨by rfl, ?hy58⟩) (by assumption) ?_
          case hy58 => ((intro w hSw); (try dsimp only at hSw); go_simp; (try with_reducible rfl))
          try simp only [Act.put, List.setIfInBounds_toArray, List.set_cons_zero, List.set_cons_succ]
          refine wpAnyH_done (by kernel_rfl) ?_ _
          go_wp2_with fail
          go_ret
          exact ⟨ret_bool (by rw [HG.out, EB.out, DG.out, ET.out]; rfl), H1.out⟩
        case neg =>
          have hT' : (if (54840 : Int) < T then (54840 : Int) else T) = 54840 := if_pos (by omega)
          have eT : min T 54840 = 54840 := by omega
          have ET := Lib.hid eT
          clear eT
          go_wp2_with fail
          refine CL.out.mono ?_
          rintro e w2 ⟨rfl, rfl⟩
          go_wp2_with fail
          refine wp_region_held_drew (S := (fun y => y.cell? ⟨w.heap.size, 0, none⟩ = some (.int .i64 r.m) ∧ y.cell? ⟨w.heap.size, 1, none⟩ = some (.int .i64 r.c) ∧ y.cell? ⟨w.heap.size, 2, none⟩ = some (.int .i64 r.s) ∧ y.cell? ⟨w.heap.size, 3, none⟩ = some (.int .i64 r.w) ∧ y.cell? ⟨w.heap.size, 4, none⟩ = some (.int .i64 r.g) ∧ y.cell? ⟨w.heap.size + 1, 0, none⟩ = some (.int .i64 C) ∧ y.cell? ⟨w.heap.size + 1, 1, none⟩ = some (.int .i64 B) ∧ y.cell? ⟨w.heap.size + 1, 2, none⟩ = some (.int .i64 T))) (by kernel_rfl) ?_ (fun hHeld => ?_)
          · (try dsimp only); exact c0
          refine wpAnyH_take (i := 0) (oi := { dst := some 30, op := Op.move (Operand.tmp 7), type := 3, pos := "build.go:28", after := #[], guard := none }) (v := ?hv59) rfl (by kernel_rfl) (by kernel_rfl) (by kernel_rfl) (fun _ _ _ h => h) (Or.inl ⟨by rfl, ?hy59⟩) (by assumption) ?_
          case hy59 => ((intro w hSw); (try dsimp only at hSw); go_simp; (try with_reducible rfl))
          try simp only [Act.put, List.setIfInBounds_toArray, List.set_cons_zero, List.set_cons_succ]
          refine wpAnyH_take (i := 1) (oi := { dst := some 31, op := Op.fieldAddr 25 (Operand.tmp 4) 1, type := 0, pos := "build.go:28", after := #[], guard := none }) (v := ?hv60) rfl (by kernel_rfl) (by kernel_rfl) (by kernel_rfl) (fun _ _ _ h => h) (Or.inl ⟨by rfl, ?hy60⟩) (by assumption) ?_
          case hy60 => ((intro w hSw); (try dsimp only at hSw); go_simp; (try with_reducible rfl))
          try simp only [Act.put, List.setIfInBounds_toArray, List.set_cons_zero, List.set_cons_succ]
          refine wpAnyH_take (i := 2) (oi := { dst := some 32, op := Op.load 3 (Operand.tmp 31), type := 3, pos := "build.go:28", after := #[{ on := 1, ground := Ground.data }], guard := none }) (v := ?hv61) rfl (by kernel_rfl) (by kernel_rfl) (by kernel_rfl) (fun _ _ _ h => h) (Or.inl ⟨by rfl, ?hy61⟩) (by assumption) ?_
          case hy61 => ((intro w hSw); (try dsimp only at hSw); go_simp; (try with_reducible rfl))
          try simp only [Act.put, List.setIfInBounds_toArray, List.set_cons_zero, List.set_cons_succ]
          refine wpAnyH_take (i := 3) (oi := { dst := some 33, op := Op.call { callee := Callee.builtin Builtin.min, args := #[Operand.tmp 32, Operand.const (Value.int IntKind.i64 65535)], argTypes := #[3, 3] }, type := 3, pos := "build.go:28", after := #[{ on := 2, ground := Ground.data }], guard := none }) (v := ?hv62) rfl (by kernel_rfl) (by kernel_rfl) (by kernel_rfl) (fun _ _ _ h => h) (Or.inl ⟨by rfl, ?hy62⟩) (by assumption) ?_
          case hy62 => ((intro w hSw); (try dsimp only at hSw); go_simp; (try with_reducible rfl))
          try simp only [Act.put, List.setIfInBounds_toArray, List.set_cons_zero, List.set_cons_succ]
          refine wpAnyH_take (i := 4) (oi := { dst := some 34, op := Op.binOp BinOp.leq 3 (Operand.tmp 30) (Operand.tmp 33) 3, type := 4, pos := "build.go:28", after := #[{ on := 0, ground := Ground.data }, { on := 3, ground := Ground.data }], guard := none }) (v := ?hv63) rfl (by kernel_rfl) (by kernel_rfl) (by kernel_rfl) (fun _ _ _ h => h) (Or.inl ⟨by rfl, ?hy63⟩) (by assumption) ?_
          case hy63 => ((intro w hSw); (try dsimp only at hSw); go_simp; (try with_reducible rfl))
          try simp only [Act.put, List.setIfInBounds_toArray, List.set_cons_zero, List.set_cons_succ]
          refine wpAnyH_take (i := 5) (oi := { dst := some 35, op := Op.move (Operand.tmp 34), type := 4, pos := "build.go:28", after := #[{ on := 4, ground := Ground.data }], guard := none }) (v := ?hv64) rfl (by kernel_rfl) (by kernel_rfl) (by kernel_rfl) (fun _ _ _ h => h) (Or.inl ⟨by rfl, ?hy64⟩) (by assumption) ?_
          case hy64 => ((intro w hSw); (try dsimp only at hSw); go_simp; (try with_reducible rfl))
          try simp only [Act.put, List.setIfInBounds_toArray, List.set_cons_zero, List.set_cons_succ]
          refine wpAnyH_take (i := 6) (oi := { dst := some 36, op := Op.load 23 (Operand.tmp 3), type := 23, pos := "build.go:28", after := #[{ on := 5, ground := Ground.guard }], guard := some (5, true) }) (v := ?hv65) rfl (by kernel_rfl) (by kernel_rfl) (by kernel_rfl) (fun _ _ _ h => h) (Or.inl ⟨by rfl, ?hy65⟩) (by assumption) ?_
          case hy65 => ((intro w hSw); (try dsimp only at hSw); go_simp; (try with_reducible rfl))
          try simp only [Act.put, List.setIfInBounds_toArray, List.set_cons_zero, List.set_cons_succ]
          refine wpAnyH_take (i := 7) (oi := { dst := some 37, op := Op.move (Operand.tmp 7), type := 3, pos := "build.go:28", after := #[{ on := 5, ground := Ground.guard }], guard := some (5, true) }) (v := ?hv66) rfl (by kernel_rfl) (by kernel_rfl) (by kernel_rfl) (fun _ _ _ h => h) (Or.inl ⟨by rfl, ?hy66⟩) (by assumption) ?_
          case hy66 => ((intro w hSw); (try dsimp only at hSw); go_simp; (try with_reducible rfl))
          try simp only [Act.put, List.setIfInBounds_toArray, List.set_cons_zero, List.set_cons_succ]
          refine wpAnyH_take (i := 9) (oi := { dst := some 39, op := Op.fieldAddr 25 (Operand.tmp 4) 2, type := 0, pos := "build.go:28", after := #[{ on := 5, ground := Ground.guard }], guard := some (5, true) }) (v := ?hv67) rfl (by kernel_rfl) (by kernel_rfl) (by kernel_rfl) (fun _ _ _ h => h) (Or.inl ⟨by rfl, ?hy67⟩) (by assumption) ?_
          case hy67 => ((intro w hSw); (try dsimp only at hSw); go_simp; (try with_reducible rfl))
          try simp only [Act.put, List.setIfInBounds_toArray, List.set_cons_zero, List.set_cons_succ]
          refine wpAnyH_take (i := 10) (oi := { dst := some 40, op := Op.load 2 (Operand.tmp 39), type := 2, pos := "build.go:28", after := #[{ on := 9, ground := Ground.data }, { on := 5, ground := Ground.guard }], guard := some (5, true) }) (v := ?hv68) rfl (by kernel_rfl) (by kernel_rfl) (by kernel_rfl) (fun _ _ _ h => h) (Or.inl ⟨by rfl, ?hy68⟩) (by assumption) ?_
          case hy68 => ((intro w hSw); (try dsimp only at hSw); go_simp; (try with_reducible rfl))
          try simp only [Act.put, List.setIfInBounds_toArray, List.set_cons_zero, List.set_cons_succ]
          refine wpAnyH_take (i := 11) (oi := { dst := some 41, op := Op.call { callee := Callee.builtin Builtin.min, args := #[Operand.tmp 40, Operand.const (Value.int IntKind.i64 54840)], argTypes := #[2, 2] }, type := 2, pos := "build.go:28", after := #[{ on := 10, ground := Ground.data }, { on := 5, ground := Ground.guard }], guard := some (5, true) }) (v := ?hv69) rfl (by kernel_rfl) (by kernel_rfl) (by kernel_rfl) (fun _ _ _ h => h) (Or.inl ⟨by rfl, ?hy69⟩) (by assumption) ?_
          case hy69 => ((intro w hSw); (try dsimp only at hSw); go_simp; (try with_reducible rfl))
          try simp only [Act.put, List.setIfInBounds_toArray, List.set_cons_zero, List.set_cons_succ]
          refine wpAnyH_ready (rs := [8]) (by kernel_rfl) (by simp) ?_
          refine AllReadyH.cons (o := { dst := some 38, op := Op.call { callee := Callee.value (Operand.func 22), args := #[Operand.tmp 36, Operand.tmp 37], argTypes := #[23, 3] }, type := 2, pos := "build.go:28", after := #[{ on := 6, ground := Ground.data }, { on := 7, ground := Ground.data }, { on := 5, ground := Ground.chain }, { on := 5, ground := Ground.guard }], guard := some (5, true) }) rfl (fun K hK => ?_) AllReadyH.nil
          go_simp
          go_at_call 22; (with_reducible refine (CP.out _).mono ?_); rintro e x1 ⟨rfl, b1⟩; have c1 := rl (r := r) c0 b1 L0 M0; have H1 := Lib.hid (H0.out.trans (b1.mono H0.out.size)); clear b1
          refine hK.out _ _ ?_ (fun hHeld => ?_)
          · (try dsimp only); exact c1
          clear hK K
          try simp only [Act.put, List.setIfInBounds_toArray, List.set_cons_zero, List.set_cons_succ]
          refine wpAnyH_take (i := 12) (oi := { dst := some 42, op := Op.binOp BinOp.leq 2 (Operand.tmp 38) (Operand.tmp 41) 2, type := 4, pos := "build.go:28", after := #[{ on := 8, ground := Ground.data }, { on := 11, ground := Ground.data }, { on := 5, ground := Ground.guard }], guard := some (5, true) }) (v := ?hv70) rfl (by kernel_rfl) (by kernel_rfl) (by kernel_rfl) (fun _ _ _ h => h) (Or.inl ⟨by rfl, ?hy70⟩) (by assumption) ?_
          case hy70 => ((intro w hSw); (try dsimp only at hSw); go_simp; (try with_reducible rfl))
          try simp only [Act.put, List.setIfInBounds_toArray, List.set_cons_zero, List.set_cons_succ]
          refine wpAnyH_take (i := 13) (oi := { dst := some 43, op := Op.pick (Operand.tmp 35) (Operand.tmp 42) (Operand.const (Value.bool false)), type := 4, pos := "build.go:28", after := #[{ on := 5, ground := Ground.data }, { on := 12, ground := Ground.data }], guard := none }) (v := ?hv71) rfl (by kernel_rfl) (by kernel_rfl) (by kernel_rfl) (fun _ _ _ h => h) (Or.inl ⟨by rfl, ?hy71⟩) (by assumption) ?_
          case hy71 => ((intro w hSw); (try dsimp only at hSw); go_simp; (try with_reducible rfl))
          try simp only [Act.put, List.setIfInBounds_toArray, List.set_cons_zero, List.set_cons_succ]
          refine wpAnyH_take (i := 14) (oi := { dst := some 6, op := Op.assign (Operand.tmp 43), type := 4, pos := "build.go:28", after := #[{ on := 13, ground := Ground.data }, { on := 8, ground := Ground.chain }, { on := 0, ground := Ground.phase }, { on := 1, ground := Ground.phase }, { on := 2, ground := Ground.phase }, { on := 3, ground := Ground.phase }, { on := 4, ground := Ground.phase }, { on := 5, ground := Ground.phase }, { on := 6, ground := Ground.phase }, { on := 7, ground := Ground.phase }, { on := 8, ground := Ground.phase }, { on := 9, ground := Ground.phase }, { on := 10, ground := Ground.phase }, { on := 11, ground := Ground.phase }, { on := 12, ground := Ground.phase }, { on := 13, ground := Ground.phase }], guard := none }) (v := ?hv72) rfl (by kernel_rfl) (by kernel_rfl) (by kernel_rfl) (fun _ _ _ h => h) (Or.inl ⟨by rfl, ?hy72⟩) (by assumption) ?_
          case hy72 => ((intro w hSw); (try dsimp only at hSw); go_simp; (try with_reducible rfl))
          try simp only [Act.put, List.setIfInBounds_toArray, List.set_cons_zero, List.set_cons_succ]
          refine wpAnyH_done (by kernel_rfl) ?_ _
          go_wp2_with fail
          go_ret
          exact ⟨ret_bool (by rw [HG.out, EB.out, DG.out, ET.out]; rfl), H1.out⟩

  case neg =>
    have hB' : (if (65535 : Int) < B then (65535 : Int) else B) = 65535 := if_pos (by omega)
    have eB : min B 65535 = 65535 := by omega
    have EB := Lib.hid eB
    clear eB
    by_cases hC : C ≤ 64
    case pos =>
      have hd1 : decide (C < (n : Int)) = false := decide_eq_false (by omega)
      have hd2 : decide ((64 : Int) < (n : Int)) = false := decide_eq_false (by omega)
      clear hc
      by_cases hg : g ≤ 65535
      case neg =>
        have dg : decide (g ≤ 65535) = false := decide_eq_false hg
        have DG := Lib.hid dg
        go_wp2_with fail
        refine CL.out.mono ?_
        rintro e w2 ⟨rfl, rfl⟩
        go_wp2_with fail
        refine wp_region_held_drew (S := (fun y => y.cell? ⟨w.heap.size, 0, none⟩ = some (.int .i64 r.m) ∧ y.cell? ⟨w.heap.size, 1, none⟩ = some (.int .i64 r.c) ∧ y.cell? ⟨w.heap.size, 2, none⟩ = some (.int .i64 r.s) ∧ y.cell? ⟨w.heap.size, 3, none⟩ = some (.int .i64 r.w) ∧ y.cell? ⟨w.heap.size, 4, none⟩ = some (.int .i64 r.g) ∧ y.cell? ⟨w.heap.size + 1, 0, none⟩ = some (.int .i64 C) ∧ y.cell? ⟨w.heap.size + 1, 1, none⟩ = some (.int .i64 B) ∧ y.cell? ⟨w.heap.size + 1, 2, none⟩ = some (.int .i64 T))) (by kernel_rfl) ?_ (fun hHeld => ?_)
        · (try dsimp only); exact c0
        refine wpAnyH_take (i := 0) (oi := { dst := some 30, op := Op.move (Operand.tmp 7), type := 3, pos := "build.go:28", after := #[], guard := none }) (v := ?hv73) rfl (by kernel_rfl) (by kernel_rfl) (by kernel_rfl) (fun _ _ _ h => h) (Or.inl ⟨by rfl, ?hy73⟩) (by assumption) ?_
        case hy73 => ((intro w hSw); (try dsimp only at hSw); go_simp; (try with_reducible rfl))
        try simp only [Act.put, List.setIfInBounds_toArray, List.set_cons_zero, List.set_cons_succ]
        refine wpAnyH_take (i := 1) (oi := { dst := some 31, op := Op.fieldAddr 25 (Operand.tmp 4) 1, type := 0, pos := "build.go:28", after := #[], guard := none }) (v := ?hv74) rfl (by kernel_rfl) (by kernel_rfl) (by kernel_rfl) (fun _ _ _ h => h) (Or.inl ⟨by rfl, ?hy74⟩) (by assumption) ?_
        case hy74 => ((intro w hSw); (try dsimp only at hSw); go_simp; (try with_reducible rfl))
        try simp only [Act.put, List.setIfInBounds_toArray, List.set_cons_zero, List.set_cons_succ]
        refine wpAnyH_take (i := 2) (oi := { dst := some 32, op := Op.load 3 (Operand.tmp 31), type := 3, pos := "build.go:28", after := #[{ on := 1, ground := Ground.data }], guard := none }) (v := ?hv75) rfl (by kernel_rfl) (by kernel_rfl) (by kernel_rfl) (fun _ _ _ h => h) (Or.inl ⟨by rfl, ?hy75⟩) (by assumption) ?_
        case hy75 => ((intro w hSw); (try dsimp only at hSw); go_simp; (try with_reducible rfl))
        try simp only [Act.put, List.setIfInBounds_toArray, List.set_cons_zero, List.set_cons_succ]
        refine wpAnyH_take (i := 3) (oi := { dst := some 33, op := Op.call { callee := Callee.builtin Builtin.min, args := #[Operand.tmp 32, Operand.const (Value.int IntKind.i64 65535)], argTypes := #[3, 3] }, type := 3, pos := "build.go:28", after := #[{ on := 2, ground := Ground.data }], guard := none }) (v := ?hv76) rfl (by kernel_rfl) (by kernel_rfl) (by kernel_rfl) (fun _ _ _ h => h) (Or.inl ⟨by rfl, ?hy76⟩) (by assumption) ?_
        case hy76 => ((intro w hSw); (try dsimp only at hSw); go_simp; (try with_reducible rfl))
        try simp only [Act.put, List.setIfInBounds_toArray, List.set_cons_zero, List.set_cons_succ]
        refine wpAnyH_take (i := 4) (oi := { dst := some 34, op := Op.binOp BinOp.leq 3 (Operand.tmp 30) (Operand.tmp 33) 3, type := 4, pos := "build.go:28", after := #[{ on := 0, ground := Ground.data }, { on := 3, ground := Ground.data }], guard := none }) (v := ?hv77) rfl (by kernel_rfl) (by kernel_rfl) (by kernel_rfl) (fun _ _ _ h => h) (Or.inl ⟨by rfl, ?hy77⟩) (by assumption) ?_
        case hy77 => ((intro w hSw); (try dsimp only at hSw); go_simp; (try with_reducible rfl))
        try simp only [Act.put, List.setIfInBounds_toArray, List.set_cons_zero, List.set_cons_succ]
        refine wpAnyH_take (i := 5) (oi := { dst := some 35, op := Op.move (Operand.tmp 34), type := 4, pos := "build.go:28", after := #[{ on := 4, ground := Ground.data }], guard := none }) (v := ?hv78) rfl (by kernel_rfl) (by kernel_rfl) (by kernel_rfl) (fun _ _ _ h => h) (Or.inl ⟨by rfl, ?hy78⟩) (by assumption) ?_
        case hy78 => ((intro w hSw); (try dsimp only at hSw); go_simp; (try with_reducible rfl))
        try simp only [Act.put, List.setIfInBounds_toArray, List.set_cons_zero, List.set_cons_succ]
        refine wpAnyH_take (i := 6) (oi := { dst := some 36, op := Op.load 23 (Operand.tmp 3), type := 23, pos := "build.go:28", after := #[{ on := 5, ground := Ground.guard }], guard := some (5, true) }) (v := undef) rfl (by kernel_rfl) (by kernel_rfl) (by kernel_rfl) (fun _ _ _ h => h) (Or.inr ⟨by rfl, rfl⟩) (by assumption) ?_
        try simp only [Act.put, List.setIfInBounds_toArray, List.set_cons_zero, List.set_cons_succ]
        refine wpAnyH_take (i := 7) (oi := { dst := some 37, op := Op.move (Operand.tmp 7), type := 3, pos := "build.go:28", after := #[{ on := 5, ground := Ground.guard }], guard := some (5, true) }) (v := undef) rfl (by kernel_rfl) (by kernel_rfl) (by kernel_rfl) (fun _ _ _ h => h) (Or.inr ⟨by rfl, rfl⟩) (by assumption) ?_
        try simp only [Act.put, List.setIfInBounds_toArray, List.set_cons_zero, List.set_cons_succ]
        refine wpAnyH_take (i := 8) (oi := { dst := some 38, op := Op.call { callee := Callee.value (Operand.func 22), args := #[Operand.tmp 36, Operand.tmp 37], argTypes := #[23, 3] }, type := 2, pos := "build.go:28", after := #[{ on := 6, ground := Ground.data }, { on := 7, ground := Ground.data }, { on := 5, ground := Ground.chain }, { on := 5, ground := Ground.guard }], guard := some (5, true) }) (v := undef) rfl (by kernel_rfl) (by kernel_rfl) (by kernel_rfl) (fun _ _ _ h => h) (Or.inr ⟨by rfl, rfl⟩) (by assumption) ?_
        try simp only [Act.put, List.setIfInBounds_toArray, List.set_cons_zero, List.set_cons_succ]
        refine wpAnyH_take (i := 9) (oi := { dst := some 39, op := Op.fieldAddr 25 (Operand.tmp 4) 2, type := 0, pos := "build.go:28", after := #[{ on := 5, ground := Ground.guard }], guard := some (5, true) }) (v := undef) rfl (by kernel_rfl) (by kernel_rfl) (by kernel_rfl) (fun _ _ _ h => h) (Or.inr ⟨by rfl, rfl⟩) (by assumption) ?_
        try simp only [Act.put, List.setIfInBounds_toArray, List.set_cons_zero, List.set_cons_succ]
        refine wpAnyH_take (i := 10) (oi := { dst := some 40, op := Op.load 2 (Operand.tmp 39), type := 2, pos := "build.go:28", after := #[{ on := 9, ground := Ground.data }, { on := 5, ground := Ground.guard }], guard := some (5, true) }) (v := undef) rfl (by kernel_rfl) (by kernel_rfl) (by kernel_rfl) (fun _ _ _ h => h) (Or.inr ⟨by rfl, rfl⟩) (by assumption) ?_
        try simp only [Act.put, List.setIfInBounds_toArray, List.set_cons_zero, List.set_cons_succ]
        refine wpAnyH_take (i := 11) (oi := { dst := some 41, op := Op.call { callee := Callee.builtin Builtin.min, args := #[Operand.tmp 40, Operand.const (Value.int IntKind.i64 54840)], argTypes := #[2, 2] }, type := 2, pos := "build.go:28", after := #[{ on := 10, ground := Ground.data }, { on := 5, ground := Ground.guard }], guard := some (5, true) }) (v := undef) rfl (by kernel_rfl) (by kernel_rfl) (by kernel_rfl) (fun _ _ _ h => h) (Or.inr ⟨by rfl, rfl⟩) (by assumption) ?_
        try simp only [Act.put, List.setIfInBounds_toArray, List.set_cons_zero, List.set_cons_succ]
        refine wpAnyH_take (i := 12) (oi := { dst := some 42, op := Op.binOp BinOp.leq 2 (Operand.tmp 38) (Operand.tmp 41) 2, type := 4, pos := "build.go:28", after := #[{ on := 8, ground := Ground.data }, { on := 11, ground := Ground.data }, { on := 5, ground := Ground.guard }], guard := some (5, true) }) (v := undef) rfl (by kernel_rfl) (by kernel_rfl) (by kernel_rfl) (fun _ _ _ h => h) (Or.inr ⟨by rfl, rfl⟩) (by assumption) ?_
        try simp only [Act.put, List.setIfInBounds_toArray, List.set_cons_zero, List.set_cons_succ]
        refine wpAnyH_take (i := 13) (oi := { dst := some 43, op := Op.pick (Operand.tmp 35) (Operand.tmp 42) (Operand.const (Value.bool false)), type := 4, pos := "build.go:28", after := #[{ on := 5, ground := Ground.data }, { on := 12, ground := Ground.data }], guard := none }) (v := ?hv79) rfl (by kernel_rfl) (by kernel_rfl) (by kernel_rfl) (fun _ _ _ h => h) (Or.inl ⟨by rfl, ?hy79⟩) (by assumption) ?_
        case hy79 => ((intro w hSw); (try dsimp only at hSw); go_simp; (try with_reducible rfl))
        try simp only [Act.put, List.setIfInBounds_toArray, List.set_cons_zero, List.set_cons_succ]
        refine wpAnyH_take (i := 14) (oi := { dst := some 6, op := Op.assign (Operand.tmp 43), type := 4, pos := "build.go:28", after := #[{ on := 13, ground := Ground.data }, { on := 8, ground := Ground.chain }, { on := 0, ground := Ground.phase }, { on := 1, ground := Ground.phase }, { on := 2, ground := Ground.phase }, { on := 3, ground := Ground.phase }, { on := 4, ground := Ground.phase }, { on := 5, ground := Ground.phase }, { on := 6, ground := Ground.phase }, { on := 7, ground := Ground.phase }, { on := 8, ground := Ground.phase }, { on := 9, ground := Ground.phase }, { on := 10, ground := Ground.phase }, { on := 11, ground := Ground.phase }, { on := 12, ground := Ground.phase }, { on := 13, ground := Ground.phase }], guard := none }) (v := ?hv80) rfl (by kernel_rfl) (by kernel_rfl) (by kernel_rfl) (fun _ _ _ h => h) (Or.inl ⟨by rfl, ?hy80⟩) (by assumption) ?_
        case hy80 => ((intro w hSw); (try dsimp only at hSw); go_simp; (try with_reducible rfl))
        try simp only [Act.put, List.setIfInBounds_toArray, List.set_cons_zero, List.set_cons_succ]
        refine wpAnyH_done (by kernel_rfl) ?_ _
        go_wp2_with fail
        go_ret
        exact ⟨ret_bool (by rw [HG.out, EB.out, DG.out]; rfl), H0.out⟩
      case pos =>
        have dg : decide (g ≤ 65535) = true := decide_eq_true hg
        have DG := Lib.hid dg
        by_cases hT : T ≤ 54840
        case pos =>
          have hT' : (if (54840 : Int) < T then (54840 : Int) else T) = T := if_neg (by omega)
          have eT : min T 54840 = T := by omega
          have ET := Lib.hid eT
          clear eT
          go_wp2_with fail
          refine CL.out.mono ?_
          rintro e w2 ⟨rfl, rfl⟩
          go_wp2_with fail
          refine wp_region_held_drew (S := (fun y => y.cell? ⟨w.heap.size, 0, none⟩ = some (.int .i64 r.m) ∧ y.cell? ⟨w.heap.size, 1, none⟩ = some (.int .i64 r.c) ∧ y.cell? ⟨w.heap.size, 2, none⟩ = some (.int .i64 r.s) ∧ y.cell? ⟨w.heap.size, 3, none⟩ = some (.int .i64 r.w) ∧ y.cell? ⟨w.heap.size, 4, none⟩ = some (.int .i64 r.g) ∧ y.cell? ⟨w.heap.size + 1, 0, none⟩ = some (.int .i64 C) ∧ y.cell? ⟨w.heap.size + 1, 1, none⟩ = some (.int .i64 B) ∧ y.cell? ⟨w.heap.size + 1, 2, none⟩ = some (.int .i64 T))) (by kernel_rfl) ?_ (fun hHeld => ?_)
          · (try dsimp only); exact c0
          refine wpAnyH_take (i := 0) (oi := { dst := some 30, op := Op.move (Operand.tmp 7), type := 3, pos := "build.go:28", after := #[], guard := none }) (v := ?hv81) rfl (by kernel_rfl) (by kernel_rfl) (by kernel_rfl) (fun _ _ _ h => h) (Or.inl ⟨by rfl, ?hy81⟩) (by assumption) ?_
          case hy81 => ((intro w hSw); (try dsimp only at hSw); go_simp; (try with_reducible rfl))
          try simp only [Act.put, List.setIfInBounds_toArray, List.set_cons_zero, List.set_cons_succ]
          refine wpAnyH_take (i := 1) (oi := { dst := some 31, op := Op.fieldAddr 25 (Operand.tmp 4) 1, type := 0, pos := "build.go:28", after := #[], guard := none }) (v := ?hv82) rfl (by kernel_rfl) (by kernel_rfl) (by kernel_rfl) (fun _ _ _ h => h) (Or.inl ⟨by rfl, ?hy82⟩) (by assumption) ?_
          case hy82 => ((intro w hSw); (try dsimp only at hSw); go_simp; (try with_reducible rfl))
          try simp only [Act.put, List.setIfInBounds_toArray, List.set_cons_zero, List.set_cons_succ]
          refine wpAnyH_take (i := 2) (oi := { dst := some 32, op := Op.load 3 (Operand.tmp 31), type := 3, pos := "build.go:28", after := #[{ on := 1, ground := Ground.data }], guard := none }) (v := ?hv83) rfl (by kernel_rfl) (by kernel_rfl) (by kernel_rfl) (fun _ _ _ h => h) (Or.inl ⟨by rfl, ?hy83⟩) (by assumption) ?_
          case hy83 => ((intro w hSw); (try dsimp only at hSw); go_simp; (try with_reducible rfl))
          try simp only [Act.put, List.setIfInBounds_toArray, List.set_cons_zero, List.set_cons_succ]
          refine wpAnyH_take (i := 3) (oi := { dst := some 33, op := Op.call { callee := Callee.builtin Builtin.min, args := #[Operand.tmp 32, Operand.const (Value.int IntKind.i64 65535)], argTypes := #[3, 3] }, type := 3, pos := "build.go:28", after := #[{ on := 2, ground := Ground.data }], guard := none }) (v := ?hv84) rfl (by kernel_rfl) (by kernel_rfl) (by kernel_rfl) (fun _ _ _ h => h) (Or.inl ⟨by rfl, ?hy84⟩) (by assumption) ?_
          case hy84 => ((intro w hSw); (try dsimp only at hSw); go_simp; (try with_reducible rfl))
          try simp only [Act.put, List.setIfInBounds_toArray, List.set_cons_zero, List.set_cons_succ]
          refine wpAnyH_take (i := 4) (oi := { dst := some 34, op := Op.binOp BinOp.leq 3 (Operand.tmp 30) (Operand.tmp 33) 3, type := 4, pos := "build.go:28", after := #[{ on := 0, ground := Ground.data }, { on := 3, ground := Ground.data }], guard := none }) (v := ?hv85) rfl (by kernel_rfl) (by kernel_rfl) (by kernel_rfl) (fun _ _ _ h => h) (Or.inl ⟨by rfl, ?hy85⟩) (by assumption) ?_
          case hy85 => ((intro w hSw); (try dsimp only at hSw); go_simp; (try with_reducible rfl))
          try simp only [Act.put, List.setIfInBounds_toArray, List.set_cons_zero, List.set_cons_succ]
          refine wpAnyH_take (i := 5) (oi := { dst := some 35, op := Op.move (Operand.tmp 34), type := 4, pos := "build.go:28", after := #[{ on := 4, ground := Ground.data }], guard := none }) (v := ?hv86) rfl (by kernel_rfl) (by kernel_rfl) (by kernel_rfl) (fun _ _ _ h => h) (Or.inl ⟨by rfl, ?hy86⟩) (by assumption) ?_
          case hy86 => ((intro w hSw); (try dsimp only at hSw); go_simp; (try with_reducible rfl))
          try simp only [Act.put, List.setIfInBounds_toArray, List.set_cons_zero, List.set_cons_succ]
          refine wpAnyH_take (i := 6) (oi := { dst := some 36, op := Op.load 23 (Operand.tmp 3), type := 23, pos := "build.go:28", after := #[{ on := 5, ground := Ground.guard }], guard := some (5, true) }) (v := ?hv87) rfl (by kernel_rfl) (by kernel_rfl) (by kernel_rfl) (fun _ _ _ h => h) (Or.inl ⟨by rfl, ?hy87⟩) (by assumption) ?_
          case hy87 => ((intro w hSw); (try dsimp only at hSw); go_simp; (try with_reducible rfl))
          try simp only [Act.put, List.setIfInBounds_toArray, List.set_cons_zero, List.set_cons_succ]
          refine wpAnyH_take (i := 7) (oi := { dst := some 37, op := Op.move (Operand.tmp 7), type := 3, pos := "build.go:28", after := #[{ on := 5, ground := Ground.guard }], guard := some (5, true) }) (v := ?hv88) rfl (by kernel_rfl) (by kernel_rfl) (by kernel_rfl) (fun _ _ _ h => h) (Or.inl ⟨by rfl, ?hy88⟩) (by assumption) ?_
          case hy88 => ((intro w hSw); (try dsimp only at hSw); go_simp; (try with_reducible rfl))
          try simp only [Act.put, List.setIfInBounds_toArray, List.set_cons_zero, List.set_cons_succ]
          refine wpAnyH_take (i := 9) (oi := { dst := some 39, op := Op.fieldAddr 25 (Operand.tmp 4) 2, type := 0, pos := "build.go:28", after := #[{ on := 5, ground := Ground.guard }], guard := some (5, true) }) (v := ?hv89) rfl (by kernel_rfl) (by kernel_rfl) (by kernel_rfl) (fun _ _ _ h => h) (Or.inl ⟨by rfl, ?hy89⟩) (by assumption) ?_
          case hy89 => ((intro w hSw); (try dsimp only at hSw); go_simp; (try with_reducible rfl))
          try simp only [Act.put, List.setIfInBounds_toArray, List.set_cons_zero, List.set_cons_succ]
          refine wpAnyH_take (i := 10) (oi := { dst := some 40, op := Op.load 2 (Operand.tmp 39), type := 2, pos := "build.go:28", after := #[{ on := 9, ground := Ground.data }, { on := 5, ground := Ground.guard }], guard := some (5, true) }) (v := ?hv90) rfl (by kernel_rfl) (by kernel_rfl) (by kernel_rfl) (fun _ _ _ h => h) (Or.inl ⟨by rfl, ?hy90⟩) (by assumption) ?_
          case hy90 => ((intro w hSw); (try dsimp only at hSw); go_simp; (try with_reducible rfl))
          try simp only [Act.put, List.setIfInBounds_toArray, List.set_cons_zero, List.set_cons_succ]
          refine wpAnyH_take (i := 11) (oi := { dst := some 41, op := Op.call { callee := Callee.builtin Builtin.min, args := #[Operand.tmp 40, Operand.const (Value.int IntKind.i64 54840)], argTypes := #[2, 2] }, type := 2, pos := "build.go:28", after := #[{ on := 10, ground := Ground.data }, { on := 5, ground := Ground.guard }], guard := some (5, true) }) (v := ?hv91) rfl (by kernel_rfl) (by kernel_rfl) (by kernel_rfl) (fun _ _ _ h => h) (Or.inl ⟨by rfl, ?hy91⟩) (by assumption) ?_
          case hy91 => ((intro w hSw); (try dsimp only at hSw); go_simp; (try with_reducible rfl))
          try simp only [Act.put, List.setIfInBounds_toArray, List.set_cons_zero, List.set_cons_succ]
          refine wpAnyH_ready (rs := [8]) (by kernel_rfl) (by simp) ?_
          refine AllReadyH.cons (o := { dst := some 38, op := Op.call { callee := Callee.value (Operand.func 22), args := #[Operand.tmp 36, Operand.tmp 37], argTypes := #[23, 3] }, type := 2, pos := "build.go:28", after := #[{ on := 6, ground := Ground.data }, { on := 7, ground := Ground.data }, { on := 5, ground := Ground.chain }, { on := 5, ground := Ground.guard }], guard := some (5, true) }) rfl (fun K hK => ?_) AllReadyH.nil
          go_simp
          go_at_call 22; (with_reducible refine (CP.out _).mono ?_); rintro e x1 ⟨rfl, b1⟩; have c1 := rl (r := r) c0 b1 L0 M0; have H1 := Lib.hid (H0.out.trans (b1.mono H0.out.size)); clear b1
          refine hK.out _ _ ?_ (fun hHeld => ?_)
          · (try dsimp only); exact c1
          clear hK K
          try simp only [Act.put, List.setIfInBounds_toArray, List.set_cons_zero, List.set_cons_succ]
          refine wpAnyH_take (i := 12) (oi := { dst := some 42, op := Op.binOp BinOp.leq 2 (Operand.tmp 38) (Operand.tmp 41) 2, type := 4, pos := "build.go:28", after := #[{ on := 8, ground := Ground.data }, { on := 11, ground := Ground.data }, { on := 5, ground := Ground.guard }], guard := some (5, true) }) (v := ?hv92) rfl (by kernel_rfl) (by kernel_rfl) (by kernel_rfl) (fun _ _ _ h => h) (Or.inl ⟨by rfl, ?hy92⟩) (by assumption) ?_
          case hy92 => ((intro w hSw); (try dsimp only at hSw); go_simp; (try with_reducible rfl))
          try simp only [Act.put, List.setIfInBounds_toArray, List.set_cons_zero, List.set_cons_succ]
          refine wpAnyH_take (i := 13) (oi := { dst := some 43, op := Op.pick (Operand.tmp 35) (Operand.tmp 42) (Operand.const (Value.bool false)), type := 4, pos := "build.go:28", after := #[{ on := 5, ground := Ground.data }, { on := 12, ground := Ground.data }], guard := none }) (v := ?hv93) rfl (by kernel_rfl) (by kernel_rfl) (by kernel_rfl) (fun _ _ _ h => h) (Or.inl ⟨by rfl, ?hy93⟩) (by assumption) ?_
          case hy93 => ((intro w hSw); (try dsimp only at hSw); go_simp; (try with_reducible rfl))
          try simp only [Act.put, List.setIfInBounds_toArray, List.set_cons_zero, List.set_cons_succ]
          refine wpAnyH_take (i := 14) (oi := { dst := some 6, op := Op.assign (Operand.tmp 43), type := 4, pos := "build.go:28", after := #[{ on := 13, ground := Ground.data }, { on := 8, ground := Ground.chain }, { on := 0, ground := Ground.phase }, { on := 1, ground := Ground.phase }, { on := 2, ground := Ground.phase }, { on := 3, ground := Ground.phase }, { on := 4, ground := Ground.phase }, { on := 5, ground := Ground.phase }, { on := 6, ground := Ground.phase }, { on := 7, ground := Ground.phase }, { on := 8, ground := Ground.phase }, { on := 9, ground := Ground.phase }, { on := 10, ground := Ground.phase }, { on := 11, ground := Ground.phase }, { on := 12, ground := Ground.phase }, { on := 13, ground := Ground.phase }], guard := none }) (v := ?hv94) rfl (by kernel_rfl) (by kernel_rfl) (by kernel_rfl) (fun _ _ _ h => h) (Or.inl ⟨by rfl, ?hy94⟩) (by assumption) ?_
          case hy94 => ((intro w hSw); (try dsimp only at hSw); go_simp; (try with_reducible rfl))
          try simp only [Act.put, List.setIfInBounds_toArray, List.set_cons_zero, List.set_cons_succ]
          refine wpAnyH_done (by kernel_rfl) ?_ _
          go_wp2_with fail
          go_ret
          exact ⟨ret_bool (by rw [HG.out, EB.out, DG.out, ET.out]; rfl), H1.out⟩
        case neg =>
          have hT' : (if (54840 : Int) < T then (54840 : Int) else T) = 54840 := if_pos (by omega)
          have eT : min T 54840 = 54840 := by omega
          have ET := Lib.hid eT
          clear eT
          go_wp2_with fail
          refine CL.out.mono ?_
          rintro e w2 ⟨rfl, rfl⟩
          go_wp2_with fail
          refine wp_region_held_drew (S := (fun y => y.cell? ⟨w.heap.size, 0, none⟩ = some (.int .i64 r.m) ∧ y.cell? ⟨w.heap.size, 1, none⟩ = some (.int .i64 r.c) ∧ y.cell? ⟨w.heap.size, 2, none⟩ = some (.int .i64 r.s) ∧ y.cell? ⟨w.heap.size, 3, none⟩ = some (.int .i64 r.w) ∧ y.cell? ⟨w.heap.size, 4, none⟩ = some (.int .i64 r.g) ∧ y.cell? ⟨w.heap.size + 1, 0, none⟩ = some (.int .i64 C) ∧ y.cell? ⟨w.heap.size + 1, 1, none⟩ = some (.int .i64 B) ∧ y.cell? ⟨w.heap.size + 1, 2, none⟩ = some (.int .i64 T))) (by kernel_rfl) ?_ (fun hHeld => ?_)
          · (try dsimp only); exact c0
          refine wpAnyH_take (i := 0) (oi := { dst := some 30, op := Op.move (Operand.tmp 7), type := 3, pos := "build.go:28", after := #[], guard := none }) (v := ?hv95) rfl (by kernel_rfl) (by kernel_rfl) (by kernel_rfl) (fun _ _ _ h => h) (Or.inl ⟨by rfl, ?hy95⟩) (by assumption) ?_
          case hy95 => ((intro w hSw); (try dsimp only at hSw); go_simp; (try with_reducible rfl))
          try simp only [Act.put, List.setIfInBounds_toArray, List.set_cons_zero, List.set_cons_succ]
          refine wpAnyH_take (i := 1) (oi := { dst := some 31, op := Op.fieldAddr 25 (Operand.tmp 4) 1, type := 0, pos := "build.go:28", after := #[], guard := none }) (v := ?hv96) rfl (by kernel_rfl) (by kernel_rfl) (by kernel_rfl) (fun _ _ _ h => h) (Or.inl ⟨by rfl, ?hy96⟩) (by assumption) ?_
          case hy96 => ((intro w hSw); (try dsimp only at hSw); go_simp; (try with_reducible rfl))
          try simp only [Act.put, List.setIfInBounds_toArray, List.set_cons_zero, List.set_cons_succ]
          refine wpAnyH_take (i := 2) (oi := { dst := some 32, op := Op.load 3 (Operand.tmp 31), type := 3, pos := "build.go:28", after := #[{ on := 1, ground := Ground.data }], guard := none }) (v := ?hv97) rfl (by kernel_rfl) (by kernel_rfl) (by kernel_rfl) (fun _ _ _ h => h) (Or.inl ⟨by rfl, ?hy97⟩) (by assumption) ?_
          case hy97 => ((intro w hSw); (try dsimp only at hSw); go_simp; (try with_reducible rfl))
          try simp only [Act.put, List.setIfInBounds_toArray, List.set_cons_zero, List.set_cons_succ]
          refine wpAnyH_take (i := 3) (oi := { dst := some 33, op := Op.call { callee := Callee.builtin Builtin.min, args := #[Operand.tmp 32, Operand.const (Value.int IntKind.i64 65535)], argTypes := #[3, 3] }, type := 3, pos := "build.go:28", after := #[{ on := 2, ground := Ground.data }], guard := none }) (v := ?hv98) rfl (by kernel_rfl) (by kernel_rfl) (by kernel_rfl) (fun _ _ _ h => h) (Or.inl ⟨by rfl, ?hy98⟩) (by assumption) ?_
          case hy98 => ((intro w hSw); (try dsimp only at hSw); go_simp; (try with_reducible rfl))
          try simp only [Act.put, List.setIfInBounds_toArray, List.set_cons_zero, List.set_cons_succ]
          refine wpAnyH_take (i := 4) (oi := { dst := some 34, op := Op.binOp BinOp.leq 3 (Operand.tmp 30) (Operand.tmp 33) 3, type := 4, pos := "build.go:28", after := #[{ on := 0, ground := Ground.data }, { on := 3, ground := Ground.data }], guard := none }) (v := ?hv99) rfl (by kernel_rfl) (by kernel_rfl) (by kernel_rfl) (fun _ _ _ h => h) (Or.inl ⟨by rfl, ?hy99⟩) (by assumption) ?_
          case hy99 => ((intro w hSw); (try dsimp only at hSw); go_simp; (try with_reducible rfl))
          try simp only [Act.put, List.setIfInBounds_toArray, List.set_cons_zero, List.set_cons_succ]
          refine wpAnyH_take (i := 5) (oi := { dst := some 35, op := Op.move (Operand.tmp 34), type := 4, pos := "build.go:28", after := #[{ on := 4, ground := Ground.data }], guard := none }) (v := ?hv100) rfl (by kernel_rfl) (by kernel_rfl) (by kernel_rfl) (fun _ _ _ h => h) (Or.inl ⟨by rfl, ?hy100⟩) (by assumption) ?_
          case hy100 => ((intro w hSw); (try dsimp only at hSw); go_simp; (try with_reducible rfl))
          try simp only [Act.put, List.setIfInBounds_toArray, List.set_cons_zero, List.set_cons_succ]
          refine wpAnyH_take (i := 6) (oi := { dst := some 36, op := Op.load 23 (Operand.tmp 3), type := 23, pos := "build.go:28", after := #[{ on := 5, ground := Ground.guard }], guard := some (5, true) }) (v := ?hv101) rfl (by kernel_rfl) (by kernel_rfl) (by kernel_rfl) (fun _ _ _ h => h) (Or.inl ⟨by rfl, ?hy101⟩) (by assumption) ?_
          case hy101 => ((intro w hSw); (try dsimp only at hSw); go_simp; (try with_reducible rfl))
          try simp only [Act.put, List.setIfInBounds_toArray, List.set_cons_zero, List.set_cons_succ]
          refine wpAnyH_take (i := 7) (oi := { dst := some 37, op := Op.move (Operand.tmp 7), type := 3, pos := "build.go:28", after := #[{ on := 5, ground := Ground.guard }], guard := some (5, true) }) (v := ?hv102) rfl (by kernel_rfl) (by kernel_rfl) (by kernel_rfl) (fun _ _ _ h => h) (Or.inl ⟨by rfl, ?hy102⟩) (by assumption) ?_
          case hy102 => ((intro w hSw); (try dsimp only at hSw); go_simp; (try with_reducible rfl))
          try simp only [Act.put, List.setIfInBounds_toArray, List.set_cons_zero, List.set_cons_succ]
          refine wpAnyH_take (i := 9) (oi := { dst := some 39, op := Op.fieldAddr 25 (Operand.tmp 4) 2, type := 0, pos := "build.go:28", after := #[{ on := 5, ground := Ground.guard }], guard := some (5, true) }) (v := ?hv103) rfl (by kernel_rfl) (by kernel_rfl) (by kernel_rfl) (fun _ _ _ h => h) (Or.inl ⟨by rfl, ?hy103⟩) (by assumption) ?_
          case hy103 => ((intro w hSw); (try dsimp only at hSw); go_simp; (try with_reducible rfl))
          try simp only [Act.put, List.setIfInBounds_toArray, List.set_cons_zero, List.set_cons_succ]
          refine wpAnyH_take (i := 10) (oi := { dst := some 40, op := Op.load 2 (Operand.tmp 39), type := 2, pos := "build.go:28", after := #[{ on := 9, ground := Ground.data }, { on := 5, ground := Ground.guard }], guard := some (5, true) }) (v := ?hv104) rfl (by kernel_rfl) (by kernel_rfl) (by kernel_rfl) (fun _ _ _ h => h) (Or.inl ⟨by rfl, ?hy104⟩) (by assumption) ?_
          case hy104 => ((intro w hSw); (try dsimp only at hSw); go_simp; (try with_reducible rfl))
          try simp only [Act.put, List.setIfInBounds_toArray, List.set_cons_zero, List.set_cons_succ]
          refine wpAnyH_take (i := 11) (oi := { dst := some 41, op := Op.call { callee := Callee.builtin Builtin.min, args := #[Operand.tmp 40, Operand.const (Value.int IntKind.i64 54840)], argTypes := #[2, 2] }, type := 2, pos := "build.go:28", after := #[{ on := 10, ground := Ground.data }, { on := 5, ground := Ground.guard }], guard := some (5, true) }) (v := ?hv105) rfl (by kernel_rfl) (by kernel_rfl) (by kernel_rfl) (fun _ _ _ h => h) (Or.inl ⟨by rfl, ?hy105⟩) (by assumption) ?_
          case hy105 => ((intro w hSw); (try dsimp only at hSw); go_simp; (try with_reducible rfl))
          try simp only [Act.put, List.setIfInBounds_toArray, List.set_cons_zero, List.set_cons_succ]
          refine wpAnyH_ready (rs := [8]) (by kernel_rfl) (by simp) ?_
          refine AllReadyH.cons (o := { dst := some 38, op := Op.call { callee := Callee.value (Operand.func 22), args := #[Operand.tmp 36, Operand.tmp 37], argTypes := #[23, 3] }, type := 2, pos := "build.go:28", after := #[{ on := 6, ground := Ground.data }, { on := 7, ground := Ground.data }, { on := 5, ground := Ground.chain }, { on := 5, ground := Ground.guard }], guard := some (5, true) }) rfl (fun K hK => ?_) AllReadyH.nil
          go_simp
          go_at_call 22; (with_reducible refine (CP.out _).mono ?_); rintro e x1 ⟨rfl, b1⟩; have c1 := rl (r := r) c0 b1 L0 M0; have H1 := Lib.hid (H0.out.trans (b1.mono H0.out.size)); clear b1
          refine hK.out _ _ ?_ (fun hHeld => ?_)
          · (try dsimp only); exact c1
          clear hK K
          try simp only [Act.put, List.setIfInBounds_toArray, List.set_cons_zero, List.set_cons_succ]
          refine wpAnyH_take (i := 12) (oi := { dst := some 42, op := Op.binOp BinOp.leq 2 (Operand.tmp 38) (Operand.tmp 41) 2, type := 4, pos := "build.go:28", after := #[{ on := 8, ground := Ground.data }, { on := 11, ground := Ground.data }, { on := 5, ground := Ground.guard }], guard := some (5, true) }) (v := ?hv106) rfl (by kernel_rfl) (by kernel_rfl) (by kernel_rfl) (fun _ _ _ h => h) (Or.inl ⟨by rfl, ?hy106⟩) (by assumption) ?_
          case hy106 => ((intro w hSw); (try dsimp only at hSw); go_simp; (try with_reducible rfl))
          try simp only [Act.put, List.setIfInBounds_toArray, List.set_cons_zero, List.set_cons_succ]
          refine wpAnyH_take (i := 13) (oi := { dst := some 43, op := Op.pick (Operand.tmp 35) (Operand.tmp 42) (Operand.const (Value.bool false)), type := 4, pos := "build.go:28", after := #[{ on := 5, ground := Ground.data }, { on := 12, ground := Ground.data }], guard := none }) (v := ?hv107) rfl (by kernel_rfl) (by kernel_rfl) (by kernel_rfl) (fun _ _ _ h => h) (Or.inl ⟨by rfl, ?hy107⟩) (by assumption) ?_
          case hy107 => ((intro w hSw); (try dsimp only at hSw); go_simp; (try with_reducible rfl))
          try simp only [Act.put, List.setIfInBounds_toArray, List.set_cons_zero, List.set_cons_succ]
          refine wpAnyH_take (i := 14) (oi := { dst := some 6, op := Op.assign (Operand.tmp 43), type := 4, pos := "build.go:28", after := #[{ on := 13, ground := Ground.data }, { on := 8, ground := Ground.chain }, { on := 0, ground := Ground.phase }, { on := 1, ground := Ground.phase }, { on := 2, ground := Ground.phase }, { on := 3, ground := Ground.phase }, { on := 4, ground := Ground.phase }, { on := 5, ground := Ground.phase }, { on := 6, ground := Ground.phase }, { on := 7, ground := Ground.phase }, { on := 8, ground := Ground.phase }, { on := 9, ground := Ground.phase }, { on := 10, ground := Ground.phase }, { on := 11, ground := Ground.phase }, { on := 12, ground := Ground.phase }, { on := 13, ground := Ground.phase }], guard := none }) (v := ?hv108) rfl (by kernel_rfl) (by kernel_rfl) (by kernel_rfl) (fun _ _ _ h => h) (Or.inl ⟨by rfl, ?hy108⟩) (by assumption) ?_
          case hy108 => ((intro w hSw); (try dsimp only at hSw); go_simp; (try with_reducible rfl))
          try simp only [Act.put, List.setIfInBounds_toArray, List.set_cons_zero, List.set_cons_succ]
          refine wpAnyH_done (by kernel_rfl) ?_ _
          go_wp2_with fail
          go_ret
          exact ⟨ret_bool (by rw [HG.out, EB.out, DG.out, ET.out]; rfl), H1.out⟩
    case neg =>
      have hd1 : decide (C < (n : Int)) = false := decide_eq_false (by omega)
      have hd2 : decide ((64 : Int) < (n : Int)) = false := decide_eq_false (by omega)
      clear hc
      by_cases hg : g ≤ 65535
      case neg =>
        have dg : decide (g ≤ 65535) = false := decide_eq_false hg
        have DG := Lib.hid dg
        go_wp2_with fail
        refine CL.out.mono ?_
        rintro e w2 ⟨rfl, rfl⟩
        go_wp2_with fail
        refine wp_region_held_drew (S := (fun y => y.cell? ⟨w.heap.size, 0, none⟩ = some (.int .i64 r.m) ∧ y.cell? ⟨w.heap.size, 1, none⟩ = some (.int .i64 r.c) ∧ y.cell? ⟨w.heap.size, 2, none⟩ = some (.int .i64 r.s) ∧ y.cell? ⟨w.heap.size, 3, none⟩ = some (.int .i64 r.w) ∧ y.cell? ⟨w.heap.size, 4, none⟩ = some (.int .i64 r.g) ∧ y.cell? ⟨w.heap.size + 1, 0, none⟩ = some (.int .i64 C) ∧ y.cell? ⟨w.heap.size + 1, 1, none⟩ = some (.int .i64 B) ∧ y.cell? ⟨w.heap.size + 1, 2, none⟩ = some (.int .i64 T))) (by kernel_rfl) ?_ (fun hHeld => ?_)
        · (try dsimp only); exact c0
        refine wpAnyH_take (i := 0) (oi := { dst := some 30, op := Op.move (Operand.tmp 7), type := 3, pos := "build.go:28", after := #[], guard := none }) (v := ?hv109) rfl (by kernel_rfl) (by kernel_rfl) (by kernel_rfl) (fun _ _ _ h => h) (Or.inl ⟨by rfl, ?hy109⟩) (by assumption) ?_
        case hy109 => ((intro w hSw); (try dsimp only at hSw); go_simp; (try with_reducible rfl))
        try simp only [Act.put, List.setIfInBounds_toArray, List.set_cons_zero, List.set_cons_succ]
        refine wpAnyH_take (i := 1) (oi := { dst := some 31, op := Op.fieldAddr 25 (Operand.tmp 4) 1, type := 0, pos := "build.go:28", after := #[], guard := none }) (v := ?hv110) rfl (by kernel_rfl) (by kernel_rfl) (by kernel_rfl) (fun _ _ _ h => h) (Or.inl ⟨by rfl, ?hy110⟩) (by assumption) ?_
        case hy110 => ((intro w hSw); (try dsimp only at hSw); go_simp; (try with_reducible rfl))
        try simp only [Act.put, List.setIfInBounds_toArray, List.set_cons_zero, List.set_cons_succ]
        refine wpAnyH_take (i := 2) (oi := { dst := some 32, op := Op.load 3 (Operand.tmp 31), type := 3, pos := "build.go:28", after := #[{ on := 1, ground := Ground.data }], guard := none }) (v := ?hv111) rfl (by kernel_rfl) (by kernel_rfl) (by kernel_rfl) (fun _ _ _ h => h) (Or.inl ⟨by rfl, ?hy111⟩) (by assumption) ?_
        case hy111 => ((intro w hSw); (try dsimp only at hSw); go_simp; (try with_reducible rfl))
        try simp only [Act.put, List.setIfInBounds_toArray, List.set_cons_zero, List.set_cons_succ]
        refine wpAnyH_take (i := 3) (oi := { dst := some 33, op := Op.call { callee := Callee.builtin Builtin.min, args := #[Operand.tmp 32, Operand.const (Value.int IntKind.i64 65535)], argTypes := #[3, 3] }, type := 3, pos := "build.go:28", after := #[{ on := 2, ground := Ground.data }], guard := none }) (v := ?hv112) rfl (by kernel_rfl) (by kernel_rfl) (by kernel_rfl) (fun _ _ _ h => h) (Or.inl ⟨by rfl, ?hy112⟩) (by assumption) ?_
        case hy112 => ((intro w hSw); (try dsimp only at hSw); go_simp; (try with_reducible rfl))
        try simp only [Act.put, List.setIfInBounds_toArray, List.set_cons_zero, List.set_cons_succ]
        refine wpAnyH_take (i := 4) (oi := { dst := some 34, op := Op.binOp BinOp.leq 3 (Operand.tmp 30) (Operand.tmp 33) 3, type := 4, pos := "build.go:28", after := #[{ on := 0, ground := Ground.data }, { on := 3, ground := Ground.data }], guard := none }) (v := ?hv113) rfl (by kernel_rfl) (by kernel_rfl) (by kernel_rfl) (fun _ _ _ h => h) (Or.inl ⟨by rfl, ?hy113⟩) (by assumption) ?_
        case hy113 => ((intro w hSw); (try dsimp only at hSw); go_simp; (try with_reducible rfl))
        try simp only [Act.put, List.setIfInBounds_toArray, List.set_cons_zero, List.set_cons_succ]
        refine wpAnyH_take (i := 5) (oi := { dst := some 35, op := Op.move (Operand.tmp 34), type := 4, pos := "build.go:28", after := #[{ on := 4, ground := Ground.data }], guard := none }) (v := ?hv114) rfl (by kernel_rfl) (by kernel_rfl) (by kernel_rfl) (fun _ _ _ h => h) (Or.inl ⟨by rfl, ?hy114⟩) (by assumption) ?_
        case hy114 => ((intro w hSw); (try dsimp only at hSw); go_simp; (try with_reducible rfl))
        try simp only [Act.put, List.setIfInBounds_toArray, List.set_cons_zero, List.set_cons_succ]
        refine wpAnyH_take (i := 6) (oi := { dst := some 36, op := Op.load 23 (Operand.tmp 3), type := 23, pos := "build.go:28", after := #[{ on := 5, ground := Ground.guard }], guard := some (5, true) }) (v := undef) rfl (by kernel_rfl) (by kernel_rfl) (by kernel_rfl) (fun _ _ _ h => h) (Or.inr ⟨by rfl, rfl⟩) (by assumption) ?_
        try simp only [Act.put, List.setIfInBounds_toArray, List.set_cons_zero, List.set_cons_succ]
        refine wpAnyH_take (i := 7) (oi := { dst := some 37, op := Op.move (Operand.tmp 7), type := 3, pos := "build.go:28", after := #[{ on := 5, ground := Ground.guard }], guard := some (5, true) }) (v := undef) rfl (by kernel_rfl) (by kernel_rfl) (by kernel_rfl) (fun _ _ _ h => h) (Or.inr ⟨by rfl, rfl⟩) (by assumption) ?_
        try simp only [Act.put, List.setIfInBounds_toArray, List.set_cons_zero, List.set_cons_succ]
        refine wpAnyH_take (i := 8) (oi := { dst := some 38, op := Op.call { callee := Callee.value (Operand.func 22), args := #[Operand.tmp 36, Operand.tmp 37], argTypes := #[23, 3] }, type := 2, pos := "build.go:28", after := #[{ on := 6, ground := Ground.data }, { on := 7, ground := Ground.data }, { on := 5, ground := Ground.chain }, { on := 5, ground := Ground.guard }], guard := some (5, true) }) (v := undef) rfl (by kernel_rfl) (by kernel_rfl) (by kernel_rfl) (fun _ _ _ h => h) (Or.inr ⟨by rfl, rfl⟩) (by assumption) ?_
        try simp only [Act.put, List.setIfInBounds_toArray, List.set_cons_zero, List.set_cons_succ]
        refine wpAnyH_take (i := 9) (oi := { dst := some 39, op := Op.fieldAddr 25 (Operand.tmp 4) 2, type := 0, pos := "build.go:28", after := #[{ on := 5, ground := Ground.guard }], guard := some (5, true) }) (v := undef) rfl (by kernel_rfl) (by kernel_rfl) (by kernel_rfl) (fun _ _ _ h => h) (Or.inr ⟨by rfl, rfl⟩) (by assumption) ?_
        try simp only [Act.put, List.setIfInBounds_toArray, List.set_cons_zero, List.set_cons_succ]
        refine wpAnyH_take (i := 10) (oi := { dst := some 40, op := Op.load 2 (Operand.tmp 39), type := 2, pos := "build.go:28", after := #[{ on := 9, ground := Ground.data }, { on := 5, ground := Ground.guard }], guard := some (5, true) }) (v := undef) rfl (by kernel_rfl) (by kernel_rfl) (by kernel_rfl) (fun _ _ _ h => h) (Or.inr ⟨by rfl, rfl⟩) (by assumption) ?_
        try simp only [Act.put, List.setIfInBounds_toArray, List.set_cons_zero, List.set_cons_succ]
        refine wpAnyH_take (i := 11) (oi := { dst := some 41, op := Op.call { callee := Callee.builtin Builtin.min, args := #[Operand.tmp 40, Operand.const (Value.int IntKind.i64 54840)], argTypes := #[2, 2] }, type := 2, pos := "build.go:28", after := #[{ on := 10, ground := Ground.data }, { on := 5, ground := Ground.guard }], guard := some (5, true) }) (v := undef) rfl (by kernel_rfl) (by kernel_rfl) (by kernel_rfl) (fun _ _ _ h => h) (Or.inr ⟨by rfl, rfl⟩) (by assumption) ?_
        try simp only [Act.put, List.setIfInBounds_toArray, List.set_cons_zero, List.set_cons_succ]
        refine wpAnyH_take (i := 12) (oi := { dst := some 42, op := Op.binOp BinOp.leq 2 (Operand.tmp 38) (Operand.tmp 41) 2, type := 4, pos := "build.go:28", after := #[{ on := 8, ground := Ground.data }, { on := 11, ground := Ground.data }, { on := 5, ground := Ground.guard }], guard := some (5, true) }) (v := undef) rfl (by kernel_rfl) (by kernel_rfl) (by kernel_rfl) (fun _ _ _ h => h) (Or.inr ⟨by rfl, rfl⟩) (by assumption) ?_
        try simp only [Act.put, List.setIfInBounds_toArray, List.set_cons_zero, List.set_cons_succ]
        refine wpAnyH_take (i := 13) (oi := { dst := some 43, op := Op.pick (Operand.tmp 35) (Operand.tmp 42) (Operand.const (Value.bool false)), type := 4, pos := "build.go:28", after := #[{ on := 5, ground := Ground.data }, { on := 12, ground := Ground.data }], guard := none }) (v := ?hv115) rfl (by kernel_rfl) (by kernel_rfl) (by kernel_rfl) (fun _ _ _ h => h) (Or.inl ⟨by rfl, ?hy115⟩) (by assumption) ?_
        case hy115 => ((intro w hSw); (try dsimp only at hSw); go_simp; (try with_reducible rfl))
        try simp only [Act.put, List.setIfInBounds_toArray, List.set_cons_zero, List.set_cons_succ]
        refine wpAnyH_take (i := 14) (oi := { dst := some 6, op := Op.assign (Operand.tmp 43), type := 4, pos := "build.go:28", after := #[{ on := 13, ground := Ground.data }, { on := 8, ground := Ground.chain }, { on := 0, ground := Ground.phase }, { on := 1, ground := Ground.phase }, { on := 2, ground := Ground.phase }, { on := 3, ground := Ground.phase }, { on := 4, ground := Ground.phase }, { on := 5, ground := Ground.phase }, { on := 6, ground := Ground.phase }, { on := 7, ground := Ground.phase }, { on := 8, ground := Ground.phase }, { on := 9, ground := Ground.phase }, { on := 10, ground := Ground.phase }, { on := 11, ground := Ground.phase }, { on := 12, ground := Ground.phase }, { on := 13, ground := Ground.phase }], guard := none }) (v := ?hv116) rfl (by kernel_rfl) (by kernel_rfl) (by kernel_rfl) (fun _ _ _ h => h) (Or.inl ⟨by rfl, ?hy116⟩) (by assumption) ?_
        case hy116 => ((intro w hSw); (try dsimp only at hSw); go_simp; (try with_reducible rfl))
        try simp only [Act.put, List.setIfInBounds_toArray, List.set_cons_zero, List.set_cons_succ]
        refine wpAnyH_done (by kernel_rfl) ?_ _
        go_wp2_with fail
        go_ret
        exact ⟨ret_bool (by rw [HG.out, EB.out, DG.out]; rfl), H0.out⟩
      case pos =>
        have dg : decide (g ≤ 65535) = true := decide_eq_true hg
        have DG := Lib.hid dg
        by_cases hT : T ≤ 54840
        case pos =>
          have hT' : (if (54840 : Int) < T then (54840 : Int) else T) = T := if_neg (by omega)
          have eT : min T 54840 = T := by omega
          have ET := Lib.hid eT
          clear eT
          go_wp2_with fail
          refine CL.out.mono ?_
          rintro e w2 ⟨rfl, rfl⟩
          go_wp2_with fail
          refine wp_region_held_drew (S := (fun y => y.cell? ⟨w.heap.size, 0, none⟩ = some (.int .i64 r.m) ∧ y.cell? ⟨w.heap.size, 1, none⟩ = some (.int .i64 r.c) ∧ y.cell? ⟨w.heap.size, 2, none⟩ = some (.int .i64 r.s) ∧ y.cell? ⟨w.heap.size, 3, none⟩ = some (.int .i64 r.w) ∧ y.cell? ⟨w.heap.size, 4, none⟩ = some (.int .i64 r.g) ∧ y.cell? ⟨w.heap.size + 1, 0, none⟩ = some (.int .i64 C) ∧ y.cell? ⟨w.heap.size + 1, 1, none⟩ = some (.int .i64 B) ∧ y.cell? ⟨w.heap.size + 1, 2, none⟩ = some (.int .i64 T))) (by kernel_rfl) ?_ (fun hHeld => ?_)
          · (try dsimp only); exact c0
          refine wpAnyH_take (i := 0) (oi := { dst := some 30, op := Op.move (Operand.tmp 7), type := 3, pos := "build.go:28", after := #[], guard := none }) (v := ?hv117) rfl (by kernel_rfl) (by kernel_rfl) (by kernel_rfl) (fun _ _ _ h => h) (Or.inl ⟨by rfl, ?hy117⟩) (by assumption) ?_
          case hy117 => ((intro w hSw); (try dsimp only at hSw); go_simp; (try with_reducible rfl))
          try simp only [Act.put, List.setIfInBounds_toArray, List.set_cons_zero, List.set_cons_succ]
          refine wpAnyH_take (i := 1) (oi := { dst := some 31, op := Op.fieldAddr 25 (Operand.tmp 4) 1, type := 0, pos := "build.go:28", after := #[], guard := none }) (v := ?hv118) rfl (by kernel_rfl) (by kernel_rfl) (by kernel_rfl) (fun _ _ _ h => h) (Or.inl ⟨by rfl, ?hy118⟩) (by assumption) ?_
          case hy118 => ((intro w hSw); (try dsimp only at hSw); go_simp; (try with_reducible rfl))
          try simp only [Act.put, List.setIfInBounds_toArray, List.set_cons_zero, List.set_cons_succ]
          refine wpAnyH_take (i := 2) (oi := { dst := some 32, op := Op.load 3 (Operand.tmp 31), type := 3, pos := "build.go:28", after := #[{ on := 1, ground := Ground.data }], guard := none }) (v := ?hv119) rfl (by kernel_rfl) (by kernel_rfl) (by kernel_rfl) (fun _ _ _ h => h) (Or.inl ⟨by rfl, ?hy119⟩) (by assumption) ?_
          case hy119 => ((intro w hSw); (try dsimp only at hSw); go_simp; (try with_reducible rfl))
          try simp only [Act.put, List.setIfInBounds_toArray, List.set_cons_zero, List.set_cons_succ]
          refine wpAnyH_take (i := 3) (oi := { dst := some 33, op := Op.call { callee := Callee.builtin Builtin.min, args := #[Operand.tmp 32, Operand.const (Value.int IntKind.i64 65535)], argTypes := #[3, 3] }, type := 3, pos := "build.go:28", after := #[{ on := 2, ground := Ground.data }], guard := none }) (v := ?hv120) rfl (by kernel_rfl) (by kernel_rfl) (by kernel_rfl) (fun _ _ _ h => h) (Or.inl ⟨by rfl, ?hy120⟩) (by assumption) ?_
          case hy120 => ((intro w hSw); (try dsimp only at hSw); go_simp; (try with_reducible rfl))
          try simp only [Act.put, List.setIfInBounds_toArray, List.set_cons_zero, List.set_cons_succ]
          refine wpAnyH_take (i := 4) (oi := { dst := some 34, op := Op.binOp BinOp.leq 3 (Operand.tmp 30) (Operand.tmp 33) 3, type := 4, pos := "build.go:28", after := #[{ on := 0, ground := Ground.data }, { on := 3, ground := Ground.data }], guard := none }) (v := ?hv121) rfl (by kernel_rfl) (by kernel_rfl) (by kernel_rfl) (fun _ _ _ h => h) (Or.inl ⟨by rfl, ?hy121⟩) (by assumption) ?_
          case hy121 => ((intro w hSw); (try dsimp only at hSw); go_simp; (try with_reducible rfl))
          try simp only [Act.put, List.setIfInBounds_toArray, List.set_cons_zero, List.set_cons_succ]
          refine wpAnyH_take (i := 5) (oi := { dst := some 35, op := Op.move (Operand.tmp 34), type := 4, pos := "build.go:28", after := #[{ on := 4, ground := Ground.data }], guard := none }) (v := ?hv122) rfl (by kernel_rfl) (by kernel_rfl) (by kernel_rfl) (fun _ _ _ h => h) (Or.inl ⟨by rfl, ?hy122⟩) (by assumption) ?_
          case hy122 => ((intro w hSw); (try dsimp only at hSw); go_simp; (try with_reducible rfl))
          try simp only [Act.put, List.setIfInBounds_toArray, List.set_cons_zero, List.set_cons_succ]
          refine wpAnyH_take (i := 6) (oi := { dst := some 36, op := Op.load 23 (Operand.tmp 3), type := 23, pos := "build.go:28", after := #[{ on := 5, ground := Ground.guard }], guard := some (5, true) }) (v := ?hv123) rfl (by kernel_rfl) (by kernel_rfl) (by kernel_rfl) (fun _ _ _ h => h) (Or.inl ⟨by rfl, ?hy123⟩) (by assumption) ?_
          case hy123 => ((intro w hSw); (try dsimp only at hSw); go_simp; (try with_reducible rfl))
          try simp only [Act.put, List.setIfInBounds_toArray, List.set_cons_zero, List.set_cons_succ]
          refine wpAnyH_take (i := 7) (oi := { dst := some 37, op := Op.move (Operand.tmp 7), type := 3, pos := "build.go:28", after := #[{ on := 5, ground := Ground.guard }], guard := some (5, true) }) (v := ?hv124) rfl (by kernel_rfl) (by kernel_rfl) (by kernel_rfl) (fun _ _ _ h => h) (Or.inl ⟨by rfl, ?hy124⟩) (by assumption) ?_
          case hy124 => ((intro w hSw); (try dsimp only at hSw); go_simp; (try with_reducible rfl))
          try simp only [Act.put, List.setIfInBounds_toArray, List.set_cons_zero, List.set_cons_succ]
          refine wpAnyH_take (i := 9) (oi := { dst := some 39, op := Op.fieldAddr 25 (Operand.tmp 4) 2, type := 0, pos := "build.go:28", after := #[{ on := 5, ground := Ground.guard }], guard := some (5, true) }) (v := ?hv125) rfl (by kernel_rfl) (by kernel_rfl) (by kernel_rfl) (fun _ _ _ h => h) (Or.inl ⟨by rfl, ?hy125⟩) (by assumption) ?_
          case hy125 => ((intro w hSw); (try dsimp only at hSw); go_simp; (try with_reducible rfl))
          try simp only [Act.put, List.setIfInBounds_toArray, List.set_cons_zero, List.set_cons_succ]
          refine wpAnyH_take (i := 10) (oi := { dst := some 40, op := Op.load 2 (Operand.tmp 39), type := 2, pos := "build.go:28", after := #[{ on := 9, ground := Ground.data }, { on := 5, ground := Ground.guard }], guard := some (5, true) }) (v := ?hv126) rfl (by kernel_rfl) (by kernel_rfl) (by kernel_rfl) (fun _ _ _ h => h) (Or.inl ⟨by rfl, ?hy126⟩) (by assumption) ?_
          case hy126 => ((intro w hSw); (try dsimp only at hSw); go_simp; (try with_reducible rfl))
          try simp only [Act.put, List.setIfInBounds_toArray, List.set_cons_zero, List.set_cons_succ]
          refine wpAnyH_take (i := 11) (oi := { dst := some 41, op := Op.call { callee := Callee.builtin Builtin.min, args := #[Operand.tmp 40, Operand.const (Value.int IntKind.i64 54840)], argTypes := #[2, 2] }, type := 2, pos := "build.go:28", after := #[{ on := 10, ground := Ground.data }, { on := 5, ground := Ground.guard }], guard := some (5, true) }) (v := ?hv127) rfl (by kernel_rfl) (by kernel_rfl) (by kernel_rfl) (fun _ _ _ h => h) (Or.inl ⟨by rfl, ?hy127⟩) (by assumption) ?_
          case hy127 => ((intro w hSw); (try dsimp only at hSw); go_simp; (try with_reducible rfl))
          try simp only [Act.put, List.setIfInBounds_toArray, List.set_cons_zero, List.set_cons_succ]
          refine wpAnyH_ready (rs := [8]) (by kernel_rfl) (by simp) ?_
          refine AllReadyH.cons (o := { dst := some 38, op := Op.call { callee := Callee.value (Operand.func 22), args := #[Operand.tmp 36, Operand.tmp 37], argTypes := #[23, 3] }, type := 2, pos := "build.go:28", after := #[{ on := 6, ground := Ground.data }, { on := 7, ground := Ground.data }, { on := 5, ground := Ground.chain }, { on := 5, ground := Ground.guard }], guard := some (5, true) }) rfl (fun K hK => ?_) AllReadyH.nil
          go_simp
          go_at_call 22; (with_reducible refine (CP.out _).mono ?_); rintro e x1 ⟨rfl, b1⟩; have c1 := rl (r := r) c0 b1 L0 M0; have H1 := Lib.hid (H0.out.trans (b1.mono H0.out.size)); clear b1
          refine hK.out _ _ ?_ (fun hHeld => ?_)
          · (try dsimp only); exact c1
          clear hK K
          try simp only [Act.put, List.setIfInBounds_toArray, List.set_cons_zero, List.set_cons_succ]
          refine wpAnyH_take (i := 12) (oi := { dst := some 42, op := Op.binOp BinOp.leq 2 (Operand.tmp 38) (Operand.tmp 41) 2, type := 4, pos := "build.go:28", after := #[{ on := 8, ground := Ground.data }, { on := 11, ground := Ground.data }, { on := 5, ground := Ground.guard }], guard := some (5, true) }) (v := ?hv128) rfl (by kernel_rfl) (by kernel_rfl) (by kernel_rfl) (fun _ _ _ h => h) (Or.inl ⟨by rfl, ?hy128⟩) (by assumption) ?_
          case hy128 => ((intro w hSw); (try dsimp only at hSw); go_simp; (try with_reducible rfl))
          try simp only [Act.put, List.setIfInBounds_toArray, List.set_cons_zero, List.set_cons_succ]
          refine wpAnyH_take (i := 13) (oi := { dst := some 43, op := Op.pick (Operand.tmp 35) (Operand.tmp 42) (Operand.const (Value.bool false)), type := 4, pos := "build.go:28", after := #[{ on := 5, ground := Ground.data }, { on := 12, ground := Ground.data }], guard := none }) (v := ?hv129) rfl (by kernel_rfl) (by kernel_rfl) (by kernel_rfl) (fun _ _ _ h => h) (Or.inl ⟨by rfl, ?hy129⟩) (by assumption) ?_
          case hy129 => ((intro w hSw); (try dsimp only at hSw); go_simp; (try with_reducible rfl))
          try simp only [Act.put, List.setIfInBounds_toArray, List.set_cons_zero, List.set_cons_succ]
          refine wpAnyH_take (i := 14) (oi := { dst := some 6, op := Op.assign (Operand.tmp 43), type := 4, pos := "build.go:28", after := #[{ on := 13, ground := Ground.data }, { on := 8, ground := Ground.chain }, { on := 0, ground := Ground.phase }, { on := 1, ground := Ground.phase }, { on := 2, ground := Ground.phase }, { on := 3, ground := Ground.phase }, { on := 4, ground := Ground.phase }, { on := 5, ground := Ground.phase }, { on := 6, ground := Ground.phase }, { on := 7, ground := Ground.phase }, { on := 8, ground := Ground.phase }, { on := 9, ground := Ground.phase }, { on := 10, ground := Ground.phase }, { on := 11, ground := Ground.phase }, { on := 12, ground := Ground.phase }, { on := 13, ground := Ground.phase }], guard := none }) (v := ?hv130) rfl (by kernel_rfl) (by kernel_rfl) (by kernel_rfl) (fun _ _ _ h => h) (Or.inl ⟨by rfl, ?hy130⟩) (by assumption) ?_
          case hy130 => ((intro w hSw); (try dsimp only at hSw); go_simp; (try with_reducible rfl))
          try simp only [Act.put, List.setIfInBounds_toArray, List.set_cons_zero, List.set_cons_succ]
          refine wpAnyH_done (by kernel_rfl) ?_ _
          go_wp2_with fail
          go_ret
          exact ⟨ret_bool (by rw [HG.out, EB.out, DG.out, ET.out]; rfl), H1.out⟩
        case neg =>
          have hT' : (if (54840 : Int) < T then (54840 : Int) else T) = 54840 := if_pos (by omega)
          have eT : min T 54840 = 54840 := by omega
          have ET := Lib.hid eT
          clear eT
          go_wp2_with fail
          refine CL.out.mono ?_
          rintro e w2 ⟨rfl, rfl⟩
          go_wp2_with fail
          refine wp_region_held_drew (S := (fun y => y.cell? ⟨w.heap.size, 0, none⟩ = some (.int .i64 r.m) ∧ y.cell? ⟨w.heap.size, 1, none⟩ = some (.int .i64 r.c) ∧ y.cell? ⟨w.heap.size, 2, none⟩ = some (.int .i64 r.s) ∧ y.cell? ⟨w.heap.size, 3, none⟩ = some (.int .i64 r.w) ∧ y.cell? ⟨w.heap.size, 4, none⟩ = some (.int .i64 r.g) ∧ y.cell? ⟨w.heap.size + 1, 0, none⟩ = some (.int .i64 C) ∧ y.cell? ⟨w.heap.size + 1, 1, none⟩ = some (.int .i64 B) ∧ y.cell? ⟨w.heap.size + 1, 2, none⟩ = some (.int .i64 T))) (by kernel_rfl) ?_ (fun hHeld => ?_)
          · (try dsimp only); exact c0
          refine wpAnyH_take (i := 0) (oi := { dst := some 30, op := Op.move (Operand.tmp 7), type := 3, pos := "build.go:28", after := #[], guard := none }) (v := ?hv131) rfl (by kernel_rfl) (by kernel_rfl) (by kernel_rfl) (fun _ _ _ h => h) (Or.inl ⟨by rfl, ?hy131⟩) (by assumption) ?_
          case hy131 => ((intro w hSw); (try dsimp only at hSw); go_simp; (try with_reducible rfl))
          try simp only [Act.put, List.setIfInBounds_toArray, List.set_cons_zero, List.set_cons_succ]
          refine wpAnyH_take (i := 1) (oi := { dst := some 31, op := Op.fieldAddr 25 (Operand.tmp 4) 1, type := 0, pos := "build.go:28", after := #[], guard := none }) (v := ?hv132) rfl (by kernel_rfl) (by kernel_rfl) (by kernel_rfl) (fun _ _ _ h => h) (Or.inl ⟨by rfl, ?hy132⟩) (by assumption) ?_
          case hy132 => ((intro w hSw); (try dsimp only at hSw); go_simp; (try with_reducible rfl))
          try simp only [Act.put, List.setIfInBounds_toArray, List.set_cons_zero, List.set_cons_succ]
          refine wpAnyH_take (i := 2) (oi := { dst := some 32, op := Op.load 3 (Operand.tmp 31), type := 3, pos := "build.go:28", after := #[{ on := 1, ground := Ground.data }], guard := none }) (v := ?hv133) rfl (by kernel_rfl) (by kernel_rfl) (by kernel_rfl) (fun _ _ _ h => h) (Or.inl ⟨by rfl, ?hy133⟩) (by assumption) ?_
          case hy133 => ((intro w hSw); (try dsimp only at hSw); go_simp; (try with_reducible rfl))
          try simp only [Act.put, List.setIfInBounds_toArray, List.set_cons_zero, List.set_cons_succ]
          refine wpAnyH_take (i := 3) (oi := { dst := some 33, op := Op.call { callee := Callee.builtin Builtin.min, args := #[Operand.tmp 32, Operand.const (Value.int IntKind.i64 65535)], argTypes := #[3, 3] }, type := 3, pos := "build.go:28", after := #[{ on := 2, ground := Ground.data }], guard := none }) (v := ?hv134) rfl (by kernel_rfl) (by kernel_rfl) (by kernel_rfl) (fun _ _ _ h => h) (Or.inl ⟨by rfl, ?hy134⟩) (by assumption) ?_
          case hy134 => ((intro w hSw); (try dsimp only at hSw); go_simp; (try with_reducible rfl))
          try simp only [Act.put, List.setIfInBounds_toArray, List.set_cons_zero, List.set_cons_succ]
          refine wpAnyH_take (i := 4) (oi := { dst := some 34, op := Op.binOp BinOp.leq 3 (Operand.tmp 30) (Operand.tmp 33) 3, type := 4, pos := "build.go:28", after := #[{ on := 0, ground := Ground.data }, { on := 3, ground := Ground.data }], guard := none }) (v := ?hv135) rfl (by kernel_rfl) (by kernel_rfl) (by kernel_rfl) (fun _ _ _ h => h) (Or.inl ⟨by rfl, ?hy135⟩) (by assumption) ?_
          case hy135 => ((intro w hSw); (try dsimp only at hSw); go_simp; (try with_reducible rfl))
          try simp only [Act.put, List.setIfInBounds_toArray, List.set_cons_zero, List.set_cons_succ]
          refine wpAnyH_take (i := 5) (oi := { dst := some 35, op := Op.move (Operand.tmp 34), type := 4, pos := "build.go:28", after := #[{ on := 4, ground := Ground.data }], guard := none }) (v := ?hv136) rfl (by kernel_rfl) (by kernel_rfl) (by kernel_rfl) (fun _ _ _ h => h) (Or.inl ⟨by rfl, ?hy136⟩) (by assumption) ?_
          case hy136 => ((intro w hSw); (try dsimp only at hSw); go_simp; (try with_reducible rfl))
          try simp only [Act.put, List.setIfInBounds_toArray, List.set_cons_zero, List.set_cons_succ]
          refine wpAnyH_take (i := 6) (oi := { dst := some 36, op := Op.load 23 (Operand.tmp 3), type := 23, pos := "build.go:28", after := #[{ on := 5, ground := Ground.guard }], guard := some (5, true) }) (v := ?hv137) rfl (by kernel_rfl) (by kernel_rfl) (by kernel_rfl) (fun _ _ _ h => h) (Or.inl ⟨by rfl, ?hy137⟩) (by assumption) ?_
          case hy137 => ((intro w hSw); (try dsimp only at hSw); go_simp; (try with_reducible rfl))
          try simp only [Act.put, List.setIfInBounds_toArray, List.set_cons_zero, List.set_cons_succ]
          refine wpAnyH_take (i := 7) (oi := { dst := some 37, op := Op.move (Operand.tmp 7), type := 3, pos := "build.go:28", after := #[{ on := 5, ground := Ground.guard }], guard := some (5, true) }) (v := ?hv138) rfl (by kernel_rfl) (by kernel_rfl) (by kernel_rfl) (fun _ _ _ h => h) (Or.inl ⟨by rfl, ?hy138⟩) (by assumption) ?_
          case hy138 => ((intro w hSw); (try dsimp only at hSw); go_simp; (try with_reducible rfl))
          try simp only [Act.put, List.setIfInBounds_toArray, List.set_cons_zero, List.set_cons_succ]
          refine wpAnyH_take (i := 9) (oi := { dst := some 39, op := Op.fieldAddr 25 (Operand.tmp 4) 2, type := 0, pos := "build.go:28", after := #[{ on := 5, ground := Ground.guard }], guard := some (5, true) }) (v := ?hv139) rfl (by kernel_rfl) (by kernel_rfl) (by kernel_rfl) (fun _ _ _ h => h) (Or.inl ⟨by rfl, ?hy139⟩) (by assumption) ?_
          case hy139 => ((intro w hSw); (try dsimp only at hSw); go_simp; (try with_reducible rfl))
          try simp only [Act.put, List.setIfInBounds_toArray, List.set_cons_zero, List.set_cons_succ]
          refine wpAnyH_take (i := 10) (oi := { dst := some 40, op := Op.load 2 (Operand.tmp 39), type := 2, pos := "build.go:28", after := #[{ on := 9, ground := Ground.data }, { on := 5, ground := Ground.guard }], guard := some (5, true) }) (v := ?hv140) rfl (by kernel_rfl) (by kernel_rfl) (by kernel_rfl) (fun _ _ _ h => h) (Or.inl ⟨by rfl, ?hy140⟩) (by assumption) ?_
          case hy140 => ((intro w hSw); (try dsimp only at hSw); go_simp; (try with_reducible rfl))
          try simp only [Act.put, List.setIfInBounds_toArray, List.set_cons_zero, List.set_cons_succ]
          refine wpAnyH_take (i := 11) (oi := { dst := some 41, op := Op.call { callee := Callee.builtin Builtin.min, args := #[Operand.tmp 40, Operand.const (Value.int IntKind.i64 54840)], argTypes := #[2, 2] }, type := 2, pos := "build.go:28", after := #[{ on := 10, ground := Ground.data }, { on := 5, ground := Ground.guard }], guard := some (5, true) }) (v := ?hv141) rfl (by kernel_rfl) (by kernel_rfl) (by kernel_rfl) (fun _ _ _ h => h) (Or.inl ⟨by rfl, ?hy141⟩) (by assumption) ?_
          case hy141 => ((intro w hSw); (try dsimp only at hSw); go_simp; (try with_reducible rfl))
          try simp only [Act.put, List.setIfInBounds_toArray, List.set_cons_zero, List.set_cons_succ]
          refine wpAnyH_ready (rs := [8]) (by kernel_rfl) (by simp) ?_
          refine AllReadyH.cons (o := { dst := some 38, op := Op.call { callee := Callee.value (Operand.func 22), args := #[Operand.tmp 36, Operand.tmp 37], argTypes := #[23, 3] }, type := 2, pos := "build.go:28", after := #[{ on := 6, ground := Ground.data }, { on := 7, ground := Ground.data }, { on := 5, ground := Ground.chain }, { on := 5, ground := Ground.guard }], guard := some (5, true) }) rfl (fun K hK => ?_) AllReadyH.nil
          go_simp
          go_at_call 22; (with_reducible refine (CP.out _).mono ?_); rintro e x1 ⟨rfl, b1⟩; have c1 := rl (r := r) c0 b1 L0 M0; have H1 := Lib.hid (H0.out.trans (b1.mono H0.out.size)); clear b1
          refine hK.out _ _ ?_ (fun hHeld => ?_)
          · (try dsimp only); exact c1
          clear hK K
          try simp only [Act.put, List.setIfInBounds_toArray, List.set_cons_zero, List.set_cons_succ]
          refine wpAnyH_take (i := 12) (oi := { dst := some 42, op := Op.binOp BinOp.leq 2 (Operand.tmp 38) (Operand.tmp 41) 2, type := 4, pos := "build.go:28", after := #[{ on := 8, ground := Ground.data }, { on := 11, ground := Ground.data }, { on := 5, ground := Ground.guard }], guard := some (5, true) }) (v := ?hv142) rfl (by kernel_rfl) (by kernel_rfl) (by kernel_rfl) (fun _ _ _ h => h) (Or.inl ⟨by rfl, ?hy142⟩) (by assumption) ?_
          case hy142 => ((intro w hSw); (try dsimp only at hSw); go_simp; (try with_reducible rfl))
          try simp only [Act.put, List.setIfInBounds_toArray, List.set_cons_zero, List.set_cons_succ]
          refine wpAnyH_take (i := 13) (oi := { dst := some 43, op := Op.pick (Operand.tmp 35) (Operand.tmp 42) (Operand.const (Value.bool false)), type := 4, pos := "build.go:28", after := #[{ on := 5, ground := Ground.data }, { on := 12, ground := Ground.data }], guard := none }) (v := ?hv143) rfl (by kernel_rfl) (by kernel_rfl) (by kernel_rfl) (fun _ _ _ h => h) (Or.inl ⟨by rfl, ?hy143⟩) (by assumption) ?_
          case hy143 => ((intro w hSw); (try dsimp only at hSw); go_simp; (try with_reducible rfl))
          try simp only [Act.put, List.setIfInBounds_toArray, List.set_cons_zero, List.set_cons_succ]
          refine wpAnyH_take (i := 14) (oi := { dst := some 6, op := Op.assign (Operand.tmp 43), type := 4, pos := "build.go:28", after := #[{ on := 13, ground := Ground.data }, { on := 8, ground := Ground.chain }, { on := 0, ground := Ground.phase }, { on := 1, ground := Ground.phase }, { on := 2, ground := Ground.phase }, { on := 3, ground := Ground.phase }, { on := 4, ground := Ground.phase }, { on := 5, ground := Ground.phase }, { on := 6, ground := Ground.phase }, { on := 7, ground := Ground.phase }, { on := 8, ground := Ground.phase }, { on := 9, ground := Ground.phase }, { on := 10, ground := Ground.phase }, { on := 11, ground := Ground.phase }, { on := 12, ground := Ground.phase }, { on := 13, ground := Ground.phase }], guard := none }) (v := ?hv144) rfl (by kernel_rfl) (by kernel_rfl) (by kernel_rfl) (fun _ _ _ h => h) (Or.inl ⟨by rfl, ?hy144⟩) (by assumption) ?_
          case hy144 => ((intro w hSw); (try dsimp only at hSw); go_simp; (try with_reducible rfl))
          try simp only [Act.put, List.setIfInBounds_toArray, List.set_cons_zero, List.set_cons_succ]
          refine wpAnyH_done (by kernel_rfl) ?_ _
          go_wp2_with fail
          go_ret
          exact ⟨ret_bool (by rw [HG.out, EB.out, DG.out, ET.out]; rfl), H1.out⟩
end Go.Proofs.Ytnndmpanopnncaa
