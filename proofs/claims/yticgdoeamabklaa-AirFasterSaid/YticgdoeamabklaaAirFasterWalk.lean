/-
  AirFaster: the walk.
-/
import Derived.Test.YticgdoeamabklaaAirFirst
namespace Go.Proofs.Yticgdoeamabklaa
open Go.ChangeShapes Go.WideShapes Go.ChangeAt Go.RowKit
set_option linter.unusedVariables false

set_option maxHeartbeats 4000000 in
theorem airFaster_walk (w : World) (mode : Int) (hmode : (Lit.int .i64 mode).wf = true) (i : Int) (hi : (Lit.int .i64 i).wf = true) (k : Int) (hk : (Lit.int .i64 k).wf = true) (nb : Int) (hnb : (Lit.int .i64 nb).wf = true) :
    Calls Try.prog 5 #[.int .i64 mode, .int .i64 i, .int .i64 k, .int .i64 nb] w fun e w' => e = .returned (.bool true) ∧ Below w.heap.size w w' := by
  obtain ⟨mode0, mode1⟩ := bounds_i64 hmode
  obtain ⟨i0, i1⟩ := bounds_i64 hi
  obtain ⟨k0, k1⟩ := bounds_i64 hk
  obtain ⟨nb0, nb1⟩ := bounds_i64 hnb
  clear hmode hi hk hnb
  obtain ⟨M, hM, eM'⟩ := number_nat mode 4 (by omega)
  have eM : mode % 4 = (M : Int) := eM'
  clear eM'
  go_enter Try.func5, Try.ntmps5
  go_wp2_with fail
  refine (afirst_any _).mono ?_
  rintro e w1 ⟨rfl, hb1⟩
  have B1 := Lib.hid hb1
  clear hb1
  go_wp2_with fail
  refine (number_any mode 4 _ (by omega) (by omega) mode0 mode1).mono ?_
  rintro e w2 ⟨rfl, rfl⟩
  rw [eM]
  clear eM mode0 mode1
  go_wp2_with fail
  refine (all_any ((M : Int) + 1) _).mono ?_
  rintro e w2 ⟨v, rfl, ho, hb2⟩
  obtain ⟨A, n, C, rfl, hr⟩ := ho.row
  have HB2 := Lib.hid (B1.out.trans (hb2.mono B1.out.size))
  obtain ⟨hp1, hp2⟩ := all_pos (m := (M : Int) + 1) (by omega) (by omega)
  have hn8 : 8 ≤ n := by rw [hr.1]; exact hp1
  have hn9 : n ≤ 1152 := by rw [hr.1]; exact hp2
  have HR := Lib.hid hr
  clear hb2 ho hr hp1 hp2 B1
  have z2 := HB2.out.size
  obtain ⟨x, hx, ex⟩ := number_nat i n (by omega)
  obtain ⟨a, ha⟩ : ∃ a, (allP ((M : Int) + 1))[x]? = some a := ⟨_, List.getElem?_eq_getElem (by rw [← HR.out.1]; exact hx)⟩
  obtain ⟨am, av⟩ := all_mem (List.mem_of_getElem? ha)
  obtain ⟨bk0, of0, hA0, bl0, e0, e1, e2, e3, e4⟩ := HR.out.at_ ha
  obtain ⟨y, hy, ey⟩ := number_nat k n (by omega)
  obtain ⟨b, hb⟩ : ∃ b, (allP ((M : Int) + 1))[y]? = some b := ⟨_, List.getElem?_eq_getElem (by rw [← HR.out.1]; exact hy)⟩
  obtain ⟨bm, bv⟩ := all_mem (List.mem_of_getElem? hb)
  obtain ⟨bk1, of1, hA1, bl1, f0, f1, f2, f3, f4⟩ := HR.out.at_ hb
  subst hA0
  obtain ⟨rfl, rfl⟩ : bk0 = bk1 ∧ of0 = of1 := by injection hA1 with h; injection h with h1 h2; exact ⟨h1, h2⟩
  clear hA1 bl1
  have HaV := Lib.hid av
  have HaM := Lib.hid am
  clear ha av am
  have HbV := Lib.hid bv
  have HbM := Lib.hid bm
  clear hb bv bm
  go_wp2_with fail
  refine (number_any i n _ (by omega) (by omega) i0 i1).mono ?_
  rintro e w3 ⟨rfl, rfl⟩
  rw [ex]
  clear ex i0 i1
  go_wp2_with fail
  refine (number_any k n _ (by omega) (by omega) k0 k1).mono ?_
  rintro e w3 ⟨rfl, rfl⟩
  rw [ey]
  clear ey k0 k1
  have HA := Lib.hid (show RtB ((w2.alloc (.cells #[.int .i64 a.m, .int .i64 a.c, .int .i64 a.s, .int .i64 a.w, .int .i64 a.g] 26)).alloc (.cells #[.int .i64 b.m, .int .i64 b.c, .int .i64 b.s, .int .i64 b.w, .int .i64 b.g] 26)) w2.heap.size a from (Blk.new w2 _ _).alloc _)
  have HB := Lib.hid (show RtB ((w2.alloc (.cells #[.int .i64 a.m, .int .i64 a.c, .int .i64 a.s, .int .i64 a.w, .int .i64 a.g] 26)).alloc (.cells #[.int .i64 b.m, .int .i64 b.c, .int .i64 b.s, .int .i64 b.w, .int .i64 b.g] 26)) (w2.heap.size + 1) b from by have := Blk.new (w2.alloc (.cells #[.int .i64 a.m, .int .i64 a.c, .int .i64 a.s, .int .i64 a.w, .int .i64 a.g] 26)) #[.int .i64 b.m, .int .i64 b.c, .int .i64 b.s, .int .i64 b.w, .int .i64 b.g] 26; rw [show (w2.alloc (.cells #[.int .i64 a.m, .int .i64 a.c, .int .i64 a.s, .int .i64 a.w, .int .i64 a.g] 26)).heap.size = w2.heap.size + 1 by simp] at this; exact this)
  have BB := Lib.hid (show Below w.heap.size w ((w2.alloc (.cells #[.int .i64 a.m, .int .i64 a.c, .int .i64 a.s, .int .i64 a.w, .int .i64 a.g] 26)).alloc (.cells #[.int .i64 b.m, .int .i64 b.c, .int .i64 b.s, .int .i64 b.w, .int .i64 b.g] 26)) from (HB2.out.alloc z2 _).alloc (by simp; omega) _)
  clear HB2
  go_wp2_with fail
  clear e0 e1 e2 e3 e4 f0 f1 f2 f3 f4
  obtain ⟨p, hp, ep'⟩ := number_nat nb 65536 (by omega)
  have ep : nb % 65536 = (p : Int) := ep'
  clear ep'
  have P1 := Lib.hid (ok_of HaV.out (show (0 : Int) ≤ (p : Int) by omega) (by omega))
  have P2 := Lib.hid (ok_of HbV.out (show (0 : Int) ≤ (p : Int) by omega) (by omega))
  refine (number_any nb 65536 _ (by omega) (by omega) nb0 nb1).mono ?_
  rintro e w3 ⟨rfl, rfl⟩
  rw [ep]
  clear ep nb0 nb1
  have zA := HA.out.lt
  have zB := HB.out.lt
  obtain ⟨e0, e1, e2, e3, e4⟩ := HA.out.cells
  obtain ⟨f0, f1, f2, f3, f4⟩ := HB.out.cells
  by_cases hs : a.s = b.s
  case neg =>
    have hs' : (a.s != b.s) = true := by simp [hs]
    go_wp2_with fail
    refine (answer_any _).mono ?_
    rintro e w4 ⟨rfl, hb⟩
    have BB4 := Lib.hid (BB.out.trans (hb.mono BB.out.size))
    go_wp2_with fail
    go_ret
    exact ⟨rfl, BB4.out⟩
  case pos =>
  have hs' : (a.s != b.s) = false := by simp [hs]
  have HS := Lib.hid hs
  clear hs
  have HPF := Lib.hid (fun h1 h2 => pp_faster (n := (p : Int)) HaV.out HbV.out (HaM.out.trans HbM.out.symm) HS.out h1 h2 (by omega) (by omega))
  obtain ⟨x0, x1⟩ := pp_bounds P1.out
  have C1 := Lib.hid (fun w => bits_any a w)
  have C2 := Lib.hid (fun w => bits_any b w)
  have C3 := Lib.hid (fun w => symbol_any a w)
  have C4 := Lib.hid (fun w => symbol_any b w)
  have C5 := Lib.hid (fun w => ppdu_any a p w (by omega) (by omega))
  have C6 := Lib.hid (fun w => ppdu_any b p w (by omega) (by omega))
  have C7 := Lib.hid (fun w => answer_any w)
  have C8 := Lib.hid (fun w => total_any a p w (by omega) (by omega))
  have C9 := Lib.hid (fun w => total_any ⟨0, 0, 0, 0, 0⟩ p w (by omega) (by omega))
  rw [tot_eq P1.out] at C8
  rw [tot_not (ok_no1 (by decide))] at C9
  simp only at C9
  go_wp2_with fail
  generalize bitsP a = n1 at *
  generalize bitsP b = n2 at *
  generalize symP a = n3 at *
  generalize symP b = n4 at *
  generalize ppP a p = X at *
  generalize ppP b p = Y at *
  obtain ⟨W, hW⟩ : ∃ W, W = ((w2.alloc (.cells #[.int .i64 a.m, .int .i64 a.c, .int .i64 a.s, .int .i64 a.w, .int .i64 a.g] 26)).alloc (.cells #[.int .i64 b.m, .int .i64 b.c, .int .i64 b.s, .int .i64 b.w, .int .i64 b.g] 26)) := ⟨_, rfl⟩
  rw [← hW] at HA HB BB e0 e1 e2 e3 e4 f0 f1 f2 f3 f4 zA zB ⊢
  clear hW
  have c0 : W.drew.cell? ⟨w2.heap.size, 0, none⟩ = some (.int .i64 a.m) ∧ W.drew.cell? ⟨w2.heap.size, 1, none⟩ = some (.int .i64 a.c) ∧ W.drew.cell? ⟨w2.heap.size, 2, none⟩ = some (.int .i64 a.s) ∧ W.drew.cell? ⟨w2.heap.size, 3, none⟩ = some (.int .i64 a.w) ∧ W.drew.cell? ⟨w2.heap.size, 4, none⟩ = some (.int .i64 a.g) ∧ W.drew.cell? ⟨w2.heap.size + 1, 0, none⟩ = some (.int .i64 b.m) ∧ W.drew.cell? ⟨w2.heap.size + 1, 1, none⟩ = some (.int .i64 b.c) ∧ W.drew.cell? ⟨w2.heap.size + 1, 2, none⟩ = some (.int .i64 b.s) ∧ W.drew.cell? ⟨w2.heap.size + 1, 3, none⟩ = some (.int .i64 b.w) ∧ W.drew.cell? ⟨w2.heap.size + 1, 4, none⟩ = some (.int .i64 b.g) := ⟨e0, e1, e2, e3, e4, f0, f1, f2, f3, f4⟩
  have L0 : w2.heap.size < W.drew.heap.size := zA
  have M0 : w2.heap.size + 1 < W.drew.heap.size := zB
  have H0 := Lib.hid (show Below w.heap.size w W.drew from BB.out.trans (Below.drew (Below.refl _ _)))
  have u1 : IntKind.i64.wrap (X + 480 - X) = 480 := by rw [IntWalk.i64_in _ (by omega)]; omega
  have u2 : IntKind.i64.wrap (480 : Int) = 480 := IntWalk.i64_in _ (by omega)
  clear e0 e1 e2 e3 e4 f0 f1 f2 f3 f4 zA zB
  by_cases h1 : n2 ≤ n1
  case neg =>
    have d1 : decide (n2 ≤ n1) = false := decide_eq_false h1
    clear h1
    refine wp_region_held_drew (S := (fun y => y.cell? ⟨w2.heap.size, 0, none⟩ = some (.int .i64 a.m) ∧ y.cell? ⟨w2.heap.size, 1, none⟩ = some (.int .i64 a.c) ∧ y.cell? ⟨w2.heap.size, 2, none⟩ = some (.int .i64 a.s) ∧ y.cell? ⟨w2.heap.size, 3, none⟩ = some (.int .i64 a.w) ∧ y.cell? ⟨w2.heap.size, 4, none⟩ = some (.int .i64 a.g) ∧ y.cell? ⟨w2.heap.size + 1, 0, none⟩ = some (.int .i64 b.m) ∧ y.cell? ⟨w2.heap.size + 1, 1, none⟩ = some (.int .i64 b.c) ∧ y.cell? ⟨w2.heap.size + 1, 2, none⟩ = some (.int .i64 b.s) ∧ y.cell? ⟨w2.heap.size + 1, 3, none⟩ = some (.int .i64 b.w) ∧ y.cell? ⟨w2.heap.size + 1, 4, none⟩ = some (.int .i64 b.g))) (by kernel_rfl) ?_ (fun hHeld => ?_)
    · (try dsimp only); exact c0
    refine wpAnyH_take (i := 0) (oi := { dst := some 49, op := Op.load 26 (Operand.tmp 11), type := 26, pos := "again.go:26", after := #[], guard := none }) (v := ?hv1) rfl (by kernel_rfl) (by kernel_rfl) (by kernel_rfl) (fun _ _ _ h => h) (Or.inl ⟨by rfl, ?hy1⟩) (by assumption) ?_
    case hy1 => ((intro w hSw); (try dsimp only at hSw); go_simp; (try with_reducible rfl))
    try simp only [Act.put, List.setIfInBounds_toArray, List.set_cons_zero, List.set_cons_succ]
    refine wpAnyH_take (i := 2) (oi := { dst := some 51, op := Op.load 26 (Operand.tmp 12), type := 26, pos := "again.go:26", after := #[], guard := none }) (v := ?hv2) rfl (by kernel_rfl) (by kernel_rfl) (by kernel_rfl) (fun _ _ _ h => h) (Or.inl ⟨by rfl, ?hy2⟩) (by assumption) ?_
    case hy2 => ((intro w hSw); (try dsimp only at hSw); go_simp; (try with_reducible rfl))
    try simp only [Act.put, List.setIfInBounds_toArray, List.set_cons_zero, List.set_cons_succ]
    refine wpAnyH_ready (rs := [1]) (by kernel_rfl) (by simp) ?_
    refine AllReadyH.cons (o := { dst := some 50, op := Op.call { callee := Callee.value (Operand.func 19), args := #[Operand.tmp 49], argTypes := #[26] }, type := 3, pos := "again.go:26", after := #[{ on := 0, ground := Ground.data }], guard := none }) rfl (fun K hK => ?_) AllReadyH.nil
    go_simp
    go_at_call 19; (with_reducible refine (C1.out _).mono ?_); rintro e x1 ⟨rfl, b1⟩; have c1 := rk2 (a := a) (b := b) c0 b1 L0 M0; have L1 := Nat.lt_of_lt_of_le L0 b1.size; have M1 := Nat.lt_of_lt_of_le M0 b1.size; have H1 := Lib.hid (H0.out.trans (b1.mono H0.out.size)); clear b1
    refine hK.out _ _ ?_ (fun hHeld => ?_)
    · (try dsimp only); exact c1
    clear hK K
    try simp only [Act.put, List.setIfInBounds_toArray, List.set_cons_zero, List.set_cons_succ]
    refine wpAnyH_ready (rs := [3]) (by kernel_rfl) (by simp) ?_
    refine AllReadyH.cons (o := { dst := some 52, op := Op.call { callee := Callee.value (Operand.func 19), args := #[Operand.tmp 51], argTypes := #[26] }, type := 3, pos := "again.go:26", after := #[{ on := 2, ground := Ground.data }, { on := 1, ground := Ground.chain }], guard := none }) rfl (fun K hK => ?_) AllReadyH.nil
    go_simp
    go_at_call 19; (with_reducible refine (C2.out _).mono ?_); rintro e x2 ⟨rfl, b2⟩; have c2 := rk2 (a := a) (b := b) c1 b2 L1 M1; have L2 := Nat.lt_of_lt_of_le L1 b2.size; have M2 := Nat.lt_of_lt_of_le M1 b2.size; have H2 := Lib.hid (H1.out.trans (b2.mono H1.out.size)); clear b2
    refine hK.out _ _ ?_ (fun hHeld => ?_)
    · (try dsimp only); exact c2
    clear hK K
    try simp only [Act.put, List.setIfInBounds_toArray, List.set_cons_zero, List.set_cons_succ]
    refine wpAnyH_take (i := 4) (oi := { dst := some 53, op := Op.binOp BinOp.geq 3 (Operand.tmp 50) (Operand.tmp 52) 3, type := 4, pos := "again.go:26", after := #[{ on := 1, ground := Ground.data }, { on := 3, ground := Ground.data }], guard := none }) (v := ?hv3) rfl (by kernel_rfl) (by kernel_rfl) (by kernel_rfl) (fun _ _ _ h => h) (Or.inl ⟨by rfl, ?hy3⟩) (by assumption) ?_
    case hy3 => ((intro w hSw); (try dsimp only at hSw); go_simp; (try with_reducible rfl))
    try simp only [Act.put, List.setIfInBounds_toArray, List.set_cons_zero, List.set_cons_succ]
    refine wpAnyH_take (i := 5) (oi := { dst := some 54, op := Op.move (Operand.tmp 53), type := 4, pos := "again.go:26", after := #[{ on := 4, ground := Ground.data }, { on := 3, ground := Ground.chain }], guard := none }) (v := ?hv4) rfl (by kernel_rfl) (by kernel_rfl) (by kernel_rfl) (fun _ _ _ h => h) (Or.inl ⟨by rfl, ?hy4⟩) (by assumption) ?_
    case hy4 => ((intro w hSw); (try dsimp only at hSw); go_simp; (try with_reducible rfl))
    try simp only [Act.put, List.setIfInBounds_toArray, List.set_cons_zero, List.set_cons_succ]
    refine wpAnyH_take (i := 6) (oi := { dst := some 55, op := Op.load 26 (Operand.tmp 11), type := 26, pos := "again.go:26", after := #[{ on := 5, ground := Ground.guard }], guard := some (5, true) }) (v := undef) rfl (by kernel_rfl) (by kernel_rfl) (by kernel_rfl) (fun _ _ _ h => h) (Or.inr ⟨by rfl, rfl⟩) (by assumption) ?_
    try simp only [Act.put, List.setIfInBounds_toArray, List.set_cons_zero, List.set_cons_succ]
    refine wpAnyH_take (i := 7) (oi := { dst := some 56, op := Op.call { callee := Callee.value (Operand.func 20), args := #[Operand.tmp 55], argTypes := #[26] }, type := 3, pos := "again.go:26", after := #[{ on := 6, ground := Ground.data }, { on := 5, ground := Ground.chain }, { on := 5, ground := Ground.guard }], guard := some (5, true) }) (v := undef) rfl (by kernel_rfl) (by kernel_rfl) (by kernel_rfl) (fun _ _ _ h => h) (Or.inr ⟨by rfl, rfl⟩) (by assumption) ?_
    try simp only [Act.put, List.setIfInBounds_toArray, List.set_cons_zero, List.set_cons_succ]
    refine wpAnyH_take (i := 8) (oi := { dst := some 57, op := Op.load 26 (Operand.tmp 12), type := 26, pos := "again.go:26", after := #[{ on := 5, ground := Ground.guard }], guard := some (5, true) }) (v := undef) rfl (by kernel_rfl) (by kernel_rfl) (by kernel_rfl) (fun _ _ _ h => h) (Or.inr ⟨by rfl, rfl⟩) (by assumption) ?_
    try simp only [Act.put, List.setIfInBounds_toArray, List.set_cons_zero, List.set_cons_succ]
    refine wpAnyH_take (i := 9) (oi := { dst := some 58, op := Op.call { callee := Callee.value (Operand.func 20), args := #[Operand.tmp 57], argTypes := #[26] }, type := 3, pos := "again.go:26", after := #[{ on := 8, ground := Ground.data }, { on := 7, ground := Ground.chain }, { on := 5, ground := Ground.guard }], guard := some (5, true) }) (v := undef) rfl (by kernel_rfl) (by kernel_rfl) (by kernel_rfl) (fun _ _ _ h => h) (Or.inr ⟨by rfl, rfl⟩) (by assumption) ?_
    try simp only [Act.put, List.setIfInBounds_toArray, List.set_cons_zero, List.set_cons_succ]
    refine wpAnyH_take (i := 10) (oi := { dst := some 59, op := Op.binOp BinOp.leq 3 (Operand.tmp 56) (Operand.tmp 58) 3, type := 4, pos := "again.go:26", after := #[{ on := 7, ground := Ground.data }, { on := 9, ground := Ground.data }, { on := 5, ground := Ground.guard }], guard := some (5, true) }) (v := undef) rfl (by kernel_rfl) (by kernel_rfl) (by kernel_rfl) (fun _ _ _ h => h) (Or.inr ⟨by rfl, rfl⟩) (by assumption) ?_
    try simp only [Act.put, List.setIfInBounds_toArray, List.set_cons_zero, List.set_cons_succ]
    refine wpAnyH_take (i := 11) (oi := { dst := some 60, op := Op.pick (Operand.tmp 54) (Operand.tmp 59) (Operand.const (Value.bool false)), type := 4, pos := "again.go:26", after := #[{ on := 5, ground := Ground.data }, { on := 10, ground := Ground.data }], guard := none }) (v := ?hv5) rfl (by kernel_rfl) (by kernel_rfl) (by kernel_rfl) (fun _ _ _ h => h) (Or.inl ⟨by rfl, ?hy5⟩) (by assumption) ?_
    case hy5 => ((intro w hSw); (try dsimp only at hSw); go_simp; (try with_reducible rfl))
    try simp only [Act.put, List.setIfInBounds_toArray, List.set_cons_zero, List.set_cons_succ]
    refine wpAnyH_take (i := 12) (oi := { dst := some 61, op := Op.move (Operand.tmp 60), type := 4, pos := "again.go:26", after := #[{ on := 11, ground := Ground.data }, { on := 9, ground := Ground.chain }], guard := none }) (v := ?hv6) rfl (by kernel_rfl) (by kernel_rfl) (by kernel_rfl) (fun _ _ _ h => h) (Or.inl ⟨by rfl, ?hy6⟩) (by assumption) ?_
    case hy6 => ((intro w hSw); (try dsimp only at hSw); go_simp; (try with_reducible rfl))
    try simp only [Act.put, List.setIfInBounds_toArray, List.set_cons_zero, List.set_cons_succ]
    refine wpAnyH_take (i := 13) (oi := { dst := some 62, op := Op.load 26 (Operand.tmp 11), type := 26, pos := "again.go:26", after := #[{ on := 12, ground := Ground.guard }], guard := some (12, true) }) (v := undef) rfl (by kernel_rfl) (by kernel_rfl) (by kernel_rfl) (fun _ _ _ h => h) (Or.inr ⟨by rfl, rfl⟩) (by assumption) ?_
    try simp only [Act.put, List.setIfInBounds_toArray, List.set_cons_zero, List.set_cons_succ]
    refine wpAnyH_take (i := 14) (oi := { dst := some 63, op := Op.move (Operand.tmp 3), type := 3, pos := "again.go:26", after := #[{ on := 12, ground := Ground.guard }], guard := some (12, true) }) (v := undef) rfl (by kernel_rfl) (by kernel_rfl) (by kernel_rfl) (fun _ _ _ h => h) (Or.inr ⟨by rfl, rfl⟩) (by assumption) ?_
    try simp only [Act.put, List.setIfInBounds_toArray, List.set_cons_zero, List.set_cons_succ]
    refine wpAnyH_take (i := 15) (oi := { dst := some 64, op := Op.call { callee := Callee.value (Operand.func 10), args := #[Operand.tmp 62, Operand.tmp 63], argTypes := #[26, 3] }, type := 2, pos := "again.go:26", after := #[{ on := 13, ground := Ground.data }, { on := 14, ground := Ground.data }, { on := 12, ground := Ground.chain }, { on := 12, ground := Ground.guard }], guard := some (12, true) }) (v := undef) rfl (by kernel_rfl) (by kernel_rfl) (by kernel_rfl) (fun _ _ _ h => h) (Or.inr ⟨by rfl, rfl⟩) (by assumption) ?_
    try simp only [Act.put, List.setIfInBounds_toArray, List.set_cons_zero, List.set_cons_succ]
    refine wpAnyH_take (i := 16) (oi := { dst := some 65, op := Op.load 26 (Operand.tmp 12), type := 26, pos := "again.go:26", after := #[{ on := 12, ground := Ground.guard }], guard := some (12, true) }) (v := undef) rfl (by kernel_rfl) (by kernel_rfl) (by kernel_rfl) (fun _ _ _ h => h) (Or.inr ⟨by rfl, rfl⟩) (by assumption) ?_
    try simp only [Act.put, List.setIfInBounds_toArray, List.set_cons_zero, List.set_cons_succ]
    refine wpAnyH_take (i := 17) (oi := { dst := some 66, op := Op.move (Operand.tmp 3), type := 3, pos := "again.go:26", after := #[{ on := 12, ground := Ground.guard }], guard := some (12, true) }) (v := undef) rfl (by kernel_rfl) (by kernel_rfl) (by kernel_rfl) (fun _ _ _ h => h) (Or.inr ⟨by rfl, rfl⟩) (by assumption) ?_
    try simp only [Act.put, List.setIfInBounds_toArray, List.set_cons_zero, List.set_cons_succ]
    refine wpAnyH_take (i := 18) (oi := { dst := some 67, op := Op.call { callee := Callee.value (Operand.func 10), args := #[Operand.tmp 65, Operand.tmp 66], argTypes := #[26, 3] }, type := 2, pos := "again.go:26", after := #[{ on := 16, ground := Ground.data }, { on := 17, ground := Ground.data }, { on := 15, ground := Ground.chain }, { on := 12, ground := Ground.guard }], guard := some (12, true) }) (v := undef) rfl (by kernel_rfl) (by kernel_rfl) (by kernel_rfl) (fun _ _ _ h => h) (Or.inr ⟨by rfl, rfl⟩) (by assumption) ?_
    try simp only [Act.put, List.setIfInBounds_toArray, List.set_cons_zero, List.set_cons_succ]
    refine wpAnyH_take (i := 19) (oi := { dst := some 68, op := Op.binOp BinOp.gtr 2 (Operand.tmp 64) (Operand.tmp 67) 2, type := 4, pos := "again.go:26", after := #[{ on := 15, ground := Ground.data }, { on := 18, ground := Ground.data }, { on := 12, ground := Ground.guard }], guard := some (12, true) }) (v := undef) rfl (by kernel_rfl) (by kernel_rfl) (by kernel_rfl) (fun _ _ _ h => h) (Or.inr ⟨by rfl, rfl⟩) (by assumption) ?_
    try simp only [Act.put, List.setIfInBounds_toArray, List.set_cons_zero, List.set_cons_succ]
    refine wpAnyH_take (i := 20) (oi := { dst := some 69, op := Op.pick (Operand.tmp 61) (Operand.tmp 68) (Operand.const (Value.bool false)), type := 4, pos := "again.go:26", after := #[{ on := 12, ground := Ground.data }, { on := 19, ground := Ground.data }], guard := none }) (v := ?hv7) rfl (by kernel_rfl) (by kernel_rfl) (by kernel_rfl) (fun _ _ _ h => h) (Or.inl ⟨by rfl, ?hy7⟩) (by assumption) ?_
    case hy7 => ((intro w hSw); (try dsimp only at hSw); go_simp; (try with_reducible rfl))
    try simp only [Act.put, List.setIfInBounds_toArray, List.set_cons_zero, List.set_cons_succ]
    refine wpAnyH_done (by kernel_rfl) ?_ _
    go_wp2_with fail
    have qc0 : x2.drew.cell? ⟨w2.heap.size, 0, none⟩ = some (.int .i64 a.m) ∧ x2.drew.cell? ⟨w2.heap.size, 1, none⟩ = some (.int .i64 a.c) ∧ x2.drew.cell? ⟨w2.heap.size, 2, none⟩ = some (.int .i64 a.s) ∧ x2.drew.cell? ⟨w2.heap.size, 3, none⟩ = some (.int .i64 a.w) ∧ x2.drew.cell? ⟨w2.heap.size, 4, none⟩ = some (.int .i64 a.g) ∧ x2.drew.cell? ⟨w2.heap.size + 1, 0, none⟩ = some (.int .i64 b.m) ∧ x2.drew.cell? ⟨w2.heap.size + 1, 1, none⟩ = some (.int .i64 b.c) ∧ x2.drew.cell? ⟨w2.heap.size + 1, 2, none⟩ = some (.int .i64 b.s) ∧ x2.drew.cell? ⟨w2.heap.size + 1, 3, none⟩ = some (.int .i64 b.w) ∧ x2.drew.cell? ⟨w2.heap.size + 1, 4, none⟩ = some (.int .i64 b.g) := c2
    have qL0 : w2.heap.size < x2.drew.heap.size := L2
    have qM0 : w2.heap.size + 1 < x2.drew.heap.size := M2
    have qH0 := Lib.hid (show Below w.heap.size w x2.drew from H2.out.trans (Below.drew (Below.refl _ _)))
    clear c0 c1 c2
    go_region_held3 (fun y => y.cell? ⟨w2.heap.size, 0, none⟩ = some (.int .i64 a.m) ∧ y.cell? ⟨w2.heap.size, 1, none⟩ = some (.int .i64 a.c) ∧ y.cell? ⟨w2.heap.size, 2, none⟩ = some (.int .i64 a.s) ∧ y.cell? ⟨w2.heap.size, 3, none⟩ = some (.int .i64 a.w) ∧ y.cell? ⟨w2.heap.size, 4, none⟩ = some (.int .i64 a.g) ∧ y.cell? ⟨w2.heap.size + 1, 0, none⟩ = some (.int .i64 b.m) ∧ y.cell? ⟨w2.heap.size + 1, 1, none⟩ = some (.int .i64 b.c) ∧ y.cell? ⟨w2.heap.size + 1, 2, none⟩ = some (.int .i64 b.s) ∧ y.cell? ⟨w2.heap.size + 1, 3, none⟩ = some (.int .i64 b.w) ∧ y.cell? ⟨w2.heap.size + 1, 4, none⟩ = some (.int .i64 b.g))
      (first | exact qc0 | exact qc1 | exact qc2 | exact qc3 | exact qc4)
      (first
        | (go_at_call 13; (with_reducible refine (C7.out _).mono ?_); rintro e qx1 ⟨rfl, b1⟩; have qc1 := rk2 (a := a) (b := b) qc0 b1 qL0 qM0; have qL1 := Nat.lt_of_lt_of_le qL0 b1.size; have qM1 := Nat.lt_of_lt_of_le qM0 b1.size; have qH1 := Lib.hid (qH0.out.trans (b1.mono qH0.out.size)); clear b1)
        | (go_at_call 15; (with_reducible refine (C8.out _).mono ?_); rintro e qx2 ⟨rfl, b2⟩; have qc2 := rk2 (a := a) (b := b) qc1 b2 qL1 qM1; have qL2 := Nat.lt_of_lt_of_le qL1 b2.size; have qM2 := Nat.lt_of_lt_of_le qM1 b2.size; have qH2 := Lib.hid (qH1.out.trans (b2.mono qH1.out.size)); clear b2)
        | (go_at_call 10; (with_reducible refine (C5.out _).mono ?_); rintro e qx3 ⟨rfl, b3⟩; have qc3 := rk2 (a := a) (b := b) qc2 b3 qL2 qM2; have qL3 := Nat.lt_of_lt_of_le qL2 b3.size; have qM3 := Nat.lt_of_lt_of_le qM2 b3.size; have qH3 := Lib.hid (qH2.out.trans (b3.mono qH2.out.size)); clear b3)
        | (go_at_call 15; (with_reducible refine (C9.out _).mono ?_); rintro e qx4 ⟨rfl, b4⟩; have qc4 := rk2 (a := a) (b := b) qc3 b4 qL3 qM3; have qL4 := Nat.lt_of_lt_of_le qL3 b4.size; have qM4 := Nat.lt_of_lt_of_le qM3 b4.size; have qH4 := Lib.hid (qH3.out.trans (b4.mono qH3.out.size)); clear b4))
    go_wp2_with fail
    go_ret
    exact ⟨rfl, qH4.out⟩
  case pos =>
  have d1 : decide (n2 ≤ n1) = true := decide_eq_true h1
  by_cases h2 : n3 ≤ n4
  case neg =>
    have d2 : decide (n3 ≤ n4) = false := decide_eq_false h2
    clear h1 h2
    refine wp_region_held_drew (S := (fun y => y.cell? ⟨w2.heap.size, 0, none⟩ = some (.int .i64 a.m) ∧ y.cell? ⟨w2.heap.size, 1, none⟩ = some (.int .i64 a.c) ∧ y.cell? ⟨w2.heap.size, 2, none⟩ = some (.int .i64 a.s) ∧ y.cell? ⟨w2.heap.size, 3, none⟩ = some (.int .i64 a.w) ∧ y.cell? ⟨w2.heap.size, 4, none⟩ = some (.int .i64 a.g) ∧ y.cell? ⟨w2.heap.size + 1, 0, none⟩ = some (.int .i64 b.m) ∧ y.cell? ⟨w2.heap.size + 1, 1, none⟩ = some (.int .i64 b.c) ∧ y.cell? ⟨w2.heap.size + 1, 2, none⟩ = some (.int .i64 b.s) ∧ y.cell? ⟨w2.heap.size + 1, 3, none⟩ = some (.int .i64 b.w) ∧ y.cell? ⟨w2.heap.size + 1, 4, none⟩ = some (.int .i64 b.g))) (by kernel_rfl) ?_ (fun hHeld => ?_)
    · (try dsimp only); exact c0
    refine wpAnyH_take (i := 0) (oi := { dst := some 49, op := Op.load 26 (Operand.tmp 11), type := 26, pos := "again.go:26", after := #[], guard := none }) (v := ?hv8) rfl (by kernel_rfl) (by kernel_rfl) (by kernel_rfl) (fun _ _ _ h => h) (Or.inl ⟨by rfl, ?hy8⟩) (by assumption) ?_
    case hy8 => ((intro w hSw); (try dsimp only at hSw); go_simp; (try with_reducible rfl))
    try simp only [Act.put, List.setIfInBounds_toArray, List.set_cons_zero, List.set_cons_succ]
    refine wpAnyH_take (i := 2) (oi := { dst := some 51, op := Op.load 26 (Operand.tmp 12), type := 26, pos := "again.go:26", after := #[], guard := none }) (v := ?hv9) rfl (by kernel_rfl) (by kernel_rfl) (by kernel_rfl) (fun _ _ _ h => h) (Or.inl ⟨by rfl, ?hy9⟩) (by assumption) ?_
    case hy9 => ((intro w hSw); (try dsimp only at hSw); go_simp; (try with_reducible rfl))
    try simp only [Act.put, List.setIfInBounds_toArray, List.set_cons_zero, List.set_cons_succ]
    refine wpAnyH_ready (rs := [1]) (by kernel_rfl) (by simp) ?_
    refine AllReadyH.cons (o := { dst := some 50, op := Op.call { callee := Callee.value (Operand.func 19), args := #[Operand.tmp 49], argTypes := #[26] }, type := 3, pos := "again.go:26", after := #[{ on := 0, ground := Ground.data }], guard := none }) rfl (fun K hK => ?_) AllReadyH.nil
    go_simp
    go_at_call 19; (with_reducible refine (C1.out _).mono ?_); rintro e x1 ⟨rfl, b1⟩; have c1 := rk2 (a := a) (b := b) c0 b1 L0 M0; have L1 := Nat.lt_of_lt_of_le L0 b1.size; have M1 := Nat.lt_of_lt_of_le M0 b1.size; have H1 := Lib.hid (H0.out.trans (b1.mono H0.out.size)); clear b1
    refine hK.out _ _ ?_ (fun hHeld => ?_)
    · (try dsimp only); exact c1
    clear hK K
    try simp only [Act.put, List.setIfInBounds_toArray, List.set_cons_zero, List.set_cons_succ]
    refine wpAnyH_ready (rs := [3]) (by kernel_rfl) (by simp) ?_
    refine AllReadyH.cons (o := { dst := some 52, op := Op.call { callee := Callee.value (Operand.func 19), args := #[Operand.tmp 51], argTypes := #[26] }, type := 3, pos := "again.go:26", after := #[{ on := 2, ground := Ground.data }, { on := 1, ground := Ground.chain }], guard := none }) rfl (fun K hK => ?_) AllReadyH.nil
    go_simp
    go_at_call 19; (with_reducible refine (C2.out _).mono ?_); rintro e x2 ⟨rfl, b2⟩; have c2 := rk2 (a := a) (b := b) c1 b2 L1 M1; have L2 := Nat.lt_of_lt_of_le L1 b2.size; have M2 := Nat.lt_of_lt_of_le M1 b2.size; have H2 := Lib.hid (H1.out.trans (b2.mono H1.out.size)); clear b2
    refine hK.out _ _ ?_ (fun hHeld => ?_)
    · (try dsimp only); exact c2
    clear hK K
    try simp only [Act.put, List.setIfInBounds_toArray, List.set_cons_zero, List.set_cons_succ]
    refine wpAnyH_take (i := 4) (oi := { dst := some 53, op := Op.binOp BinOp.geq 3 (Operand.tmp 50) (Operand.tmp 52) 3, type := 4, pos := "again.go:26", after := #[{ on := 1, ground := Ground.data }, { on := 3, ground := Ground.data }], guard := none }) (v := ?hv10) rfl (by kernel_rfl) (by kernel_rfl) (by kernel_rfl) (fun _ _ _ h => h) (Or.inl ⟨by rfl, ?hy10⟩) (by assumption) ?_
    case hy10 => ((intro w hSw); (try dsimp only at hSw); go_simp; (try with_reducible rfl))
    try simp only [Act.put, List.setIfInBounds_toArray, List.set_cons_zero, List.set_cons_succ]
    refine wpAnyH_take (i := 5) (oi := { dst := some 54, op := Op.move (Operand.tmp 53), type := 4, pos := "again.go:26", after := #[{ on := 4, ground := Ground.data }, { on := 3, ground := Ground.chain }], guard := none }) (v := ?hv11) rfl (by kernel_rfl) (by kernel_rfl) (by kernel_rfl) (fun _ _ _ h => h) (Or.inl ⟨by rfl, ?hy11⟩) (by assumption) ?_
    case hy11 => ((intro w hSw); (try dsimp only at hSw); go_simp; (try with_reducible rfl))
    try simp only [Act.put, List.setIfInBounds_toArray, List.set_cons_zero, List.set_cons_succ]
    refine wpAnyH_take (i := 6) (oi := { dst := some 55, op := Op.load 26 (Operand.tmp 11), type := 26, pos := "again.go:26", after := #[{ on := 5, ground := Ground.guard }], guard := some (5, true) }) (v := ?hv12) rfl (by kernel_rfl) (by kernel_rfl) (by kernel_rfl) (fun _ _ _ h => h) (Or.inl ⟨by rfl, ?hy12⟩) (by assumption) ?_
    case hy12 => ((intro w hSw); (try dsimp only at hSw); go_simp; (try with_reducible rfl))
    try simp only [Act.put, List.setIfInBounds_toArray, List.set_cons_zero, List.set_cons_succ]
    refine wpAnyH_take (i := 8) (oi := { dst := some 57, op := Op.load 26 (Operand.tmp 12), type := 26, pos := "again.go:26", after := #[{ on := 5, ground := Ground.guard }], guard := some (5, true) }) (v := ?hv13) rfl (by kernel_rfl) (by kernel_rfl) (by kernel_rfl) (fun _ _ _ h => h) (Or.inl ⟨by rfl, ?hy13⟩) (by assumption) ?_
    case hy13 => ((intro w hSw); (try dsimp only at hSw); go_simp; (try with_reducible rfl))
    try simp only [Act.put, List.setIfInBounds_toArray, List.set_cons_zero, List.set_cons_succ]
    refine wpAnyH_ready (rs := [7]) (by kernel_rfl) (by simp) ?_
    refine AllReadyH.cons (o := { dst := some 56, op := Op.call { callee := Callee.value (Operand.func 20), args := #[Operand.tmp 55], argTypes := #[26] }, type := 3, pos := "again.go:26", after := #[{ on := 6, ground := Ground.data }, { on := 5, ground := Ground.chain }, { on := 5, ground := Ground.guard }], guard := some (5, true) }) rfl (fun K hK => ?_) AllReadyH.nil
    go_simp
    go_at_call 20; (with_reducible refine (C3.out _).mono ?_); rintro e x3 ⟨rfl, b3⟩; have c3 := rk2 (a := a) (b := b) c2 b3 L2 M2; have L3 := Nat.lt_of_lt_of_le L2 b3.size; have M3 := Nat.lt_of_lt_of_le M2 b3.size; have H3 := Lib.hid (H2.out.trans (b3.mono H2.out.size)); clear b3
    refine hK.out _ _ ?_ (fun hHeld => ?_)
    · (try dsimp only); exact c3
    clear hK K
    try simp only [Act.put, List.setIfInBounds_toArray, List.set_cons_zero, List.set_cons_succ]
    refine wpAnyH_ready (rs := [9]) (by kernel_rfl) (by simp) ?_
    refine AllReadyH.cons (o := { dst := some 58, op := Op.call { callee := Callee.value (Operand.func 20), args := #[Operand.tmp 57], argTypes := #[26] }, type := 3, pos := "again.go:26", after := #[{ on := 8, ground := Ground.data }, { on := 7, ground := Ground.chain }, { on := 5, ground := Ground.guard }], guard := some (5, true) }) rfl (fun K hK => ?_) AllReadyH.nil
    go_simp
    go_at_call 20; (with_reducible refine (C4.out _).mono ?_); rintro e x4 ⟨rfl, b4⟩; have c4 := rk2 (a := a) (b := b) c3 b4 L3 M3; have L4 := Nat.lt_of_lt_of_le L3 b4.size; have M4 := Nat.lt_of_lt_of_le M3 b4.size; have H4 := Lib.hid (H3.out.trans (b4.mono H3.out.size)); clear b4
    refine hK.out _ _ ?_ (fun hHeld => ?_)
    · (try dsimp only); exact c4
    clear hK K
    try simp only [Act.put, List.setIfInBounds_toArray, List.set_cons_zero, List.set_cons_succ]
    refine wpAnyH_take (i := 10) (oi := { dst := some 59, op := Op.binOp BinOp.leq 3 (Operand.tmp 56) (Operand.tmp 58) 3, type := 4, pos := "again.go:26", after := #[{ on := 7, ground := Ground.data }, { on := 9, ground := Ground.data }, { on := 5, ground := Ground.guard }], guard := some (5, true) }) (v := ?hv14) rfl (by kernel_rfl) (by kernel_rfl) (by kernel_rfl) (fun _ _ _ h => h) (Or.inl ⟨by rfl, ?hy14⟩) (by assumption) ?_
    case hy14 => ((intro w hSw); (try dsimp only at hSw); go_simp; (try with_reducible rfl))
    try simp only [Act.put, List.setIfInBounds_toArray, List.set_cons_zero, List.set_cons_succ]
    refine wpAnyH_take (i := 11) (oi := { dst := some 60, op := Op.pick (Operand.tmp 54) (Operand.tmp 59) (Operand.const (Value.bool false)), type := 4, pos := "again.go:26", after := #[{ on := 5, ground := Ground.data }, { on := 10, ground := Ground.data }], guard := none }) (v := ?hv15) rfl (by kernel_rfl) (by kernel_rfl) (by kernel_rfl) (fun _ _ _ h => h) (Or.inl ⟨by rfl, ?hy15⟩) (by assumption) ?_
    case hy15 => ((intro w hSw); (try dsimp only at hSw); go_simp; (try with_reducible rfl))
    try simp only [Act.put, List.setIfInBounds_toArray, List.set_cons_zero, List.set_cons_succ]
    refine wpAnyH_take (i := 12) (oi := { dst := some 61, op := Op.move (Operand.tmp 60), type := 4, pos := "again.go:26", after := #[{ on := 11, ground := Ground.data }, { on := 9, ground := Ground.chain }], guard := none }) (v := ?hv16) rfl (by kernel_rfl) (by kernel_rfl) (by kernel_rfl) (fun _ _ _ h => h) (Or.inl ⟨by rfl, ?hy16⟩) (by assumption) ?_
    case hy16 => ((intro w hSw); (try dsimp only at hSw); go_simp; (try with_reducible rfl))
    try simp only [Act.put, List.setIfInBounds_toArray, List.set_cons_zero, List.set_cons_succ]
    refine wpAnyH_take (i := 13) (oi := { dst := some 62, op := Op.load 26 (Operand.tmp 11), type := 26, pos := "again.go:26", after := #[{ on := 12, ground := Ground.guard }], guard := some (12, true) }) (v := undef) rfl (by kernel_rfl) (by kernel_rfl) (by kernel_rfl) (fun _ _ _ h => h) (Or.inr ⟨by rfl, rfl⟩) (by assumption) ?_
    try simp only [Act.put, List.setIfInBounds_toArray, List.set_cons_zero, List.set_cons_succ]
    refine wpAnyH_take (i := 14) (oi := { dst := some 63, op := Op.move (Operand.tmp 3), type := 3, pos := "again.go:26", after := #[{ on := 12, ground := Ground.guard }], guard := some (12, true) }) (v := undef) rfl (by kernel_rfl) (by kernel_rfl) (by kernel_rfl) (fun _ _ _ h => h) (Or.inr ⟨by rfl, rfl⟩) (by assumption) ?_
    try simp only [Act.put, List.setIfInBounds_toArray, List.set_cons_zero, List.set_cons_succ]
    refine wpAnyH_take (i := 15) (oi := { dst := some 64, op := Op.call { callee := Callee.value (Operand.func 10), args := #[Operand.tmp 62, Operand.tmp 63], argTypes := #[26, 3] }, type := 2, pos := "again.go:26", after := #[{ on := 13, ground := Ground.data }, { on := 14, ground := Ground.data }, { on := 12, ground := Ground.chain }, { on := 12, ground := Ground.guard }], guard := some (12, true) }) (v := undef) rfl (by kernel_rfl) (by kernel_rfl) (by kernel_rfl) (fun _ _ _ h => h) (Or.inr ⟨by rfl, rfl⟩) (by assumption) ?_
    try simp only [Act.put, List.setIfInBounds_toArray, List.set_cons_zero, List.set_cons_succ]
    refine wpAnyH_take (i := 16) (oi := { dst := some 65, op := Op.load 26 (Operand.tmp 12), type := 26, pos := "again.go:26", after := #[{ on := 12, ground := Ground.guard }], guard := some (12, true) }) (v := undef) rfl (by kernel_rfl) (by kernel_rfl) (by kernel_rfl) (fun _ _ _ h => h) (Or.inr ⟨by rfl, rfl⟩) (by assumption) ?_
    try simp only [Act.put, List.setIfInBounds_toArray, List.set_cons_zero, List.set_cons_succ]
    refine wpAnyH_take (i := 17) (oi := { dst := some 66, op := Op.move (Operand.tmp 3), type := 3, pos := "again.go:26", after := #[{ on := 12, ground := Ground.guard }], guard := some (12, true) }) (v := undef) rfl (by kernel_rfl) (by kernel_rfl) (by kernel_rfl) (fun _ _ _ h => h) (Or.inr ⟨by rfl, rfl⟩) (by assumption) ?_
    try simp only [Act.put, List.setIfInBounds_toArray, List.set_cons_zero, List.set_cons_succ]
    refine wpAnyH_take (i := 18) (oi := { dst := some 67, op := Op.call { callee := Callee.value (Operand.func 10), args := #[Operand.tmp 65, Operand.tmp 66], argTypes := #[26, 3] }, type := 2, pos := "again.go:26", after := #[{ on := 16, ground := Ground.data }, { on := 17, ground := Ground.data }, { on := 15, ground := Ground.chain }, { on := 12, ground := Ground.guard }], guard := some (12, true) }) (v := undef) rfl (by kernel_rfl) (by kernel_rfl) (by kernel_rfl) (fun _ _ _ h => h) (Or.inr ⟨by rfl, rfl⟩) (by assumption) ?_
    try simp only [Act.put, List.setIfInBounds_toArray, List.set_cons_zero, List.set_cons_succ]
    refine wpAnyH_take (i := 19) (oi := { dst := some 68, op := Op.binOp BinOp.gtr 2 (Operand.tmp 64) (Operand.tmp 67) 2, type := 4, pos := "again.go:26", after := #[{ on := 15, ground := Ground.data }, { on := 18, ground := Ground.data }, { on := 12, ground := Ground.guard }], guard := some (12, true) }) (v := undef) rfl (by kernel_rfl) (by kernel_rfl) (by kernel_rfl) (fun _ _ _ h => h) (Or.inr ⟨by rfl, rfl⟩) (by assumption) ?_
    try simp only [Act.put, List.setIfInBounds_toArray, List.set_cons_zero, List.set_cons_succ]
    refine wpAnyH_take (i := 20) (oi := { dst := some 69, op := Op.pick (Operand.tmp 61) (Operand.tmp 68) (Operand.const (Value.bool false)), type := 4, pos := "again.go:26", after := #[{ on := 12, ground := Ground.data }, { on := 19, ground := Ground.data }], guard := none }) (v := ?hv17) rfl (by kernel_rfl) (by kernel_rfl) (by kernel_rfl) (fun _ _ _ h => h) (Or.inl ⟨by rfl, ?hy17⟩) (by assumption) ?_
    case hy17 => ((intro w hSw); (try dsimp only at hSw); go_simp; (try with_reducible rfl))
    try simp only [Act.put, List.setIfInBounds_toArray, List.set_cons_zero, List.set_cons_succ]
    refine wpAnyH_done (by kernel_rfl) ?_ _
    go_wp2_with fail
    have qc0 : x4.drew.cell? ⟨w2.heap.size, 0, none⟩ = some (.int .i64 a.m) ∧ x4.drew.cell? ⟨w2.heap.size, 1, none⟩ = some (.int .i64 a.c) ∧ x4.drew.cell? ⟨w2.heap.size, 2, none⟩ = some (.int .i64 a.s) ∧ x4.drew.cell? ⟨w2.heap.size, 3, none⟩ = some (.int .i64 a.w) ∧ x4.drew.cell? ⟨w2.heap.size, 4, none⟩ = some (.int .i64 a.g) ∧ x4.drew.cell? ⟨w2.heap.size + 1, 0, none⟩ = some (.int .i64 b.m) ∧ x4.drew.cell? ⟨w2.heap.size + 1, 1, none⟩ = some (.int .i64 b.c) ∧ x4.drew.cell? ⟨w2.heap.size + 1, 2, none⟩ = some (.int .i64 b.s) ∧ x4.drew.cell? ⟨w2.heap.size + 1, 3, none⟩ = some (.int .i64 b.w) ∧ x4.drew.cell? ⟨w2.heap.size + 1, 4, none⟩ = some (.int .i64 b.g) := c4
    have qL0 : w2.heap.size < x4.drew.heap.size := L4
    have qM0 : w2.heap.size + 1 < x4.drew.heap.size := M4
    have qH0 := Lib.hid (show Below w.heap.size w x4.drew from H4.out.trans (Below.drew (Below.refl _ _)))
    clear c0 c1 c2 c3 c4
    go_region_held3 (fun y => y.cell? ⟨w2.heap.size, 0, none⟩ = some (.int .i64 a.m) ∧ y.cell? ⟨w2.heap.size, 1, none⟩ = some (.int .i64 a.c) ∧ y.cell? ⟨w2.heap.size, 2, none⟩ = some (.int .i64 a.s) ∧ y.cell? ⟨w2.heap.size, 3, none⟩ = some (.int .i64 a.w) ∧ y.cell? ⟨w2.heap.size, 4, none⟩ = some (.int .i64 a.g) ∧ y.cell? ⟨w2.heap.size + 1, 0, none⟩ = some (.int .i64 b.m) ∧ y.cell? ⟨w2.heap.size + 1, 1, none⟩ = some (.int .i64 b.c) ∧ y.cell? ⟨w2.heap.size + 1, 2, none⟩ = some (.int .i64 b.s) ∧ y.cell? ⟨w2.heap.size + 1, 3, none⟩ = some (.int .i64 b.w) ∧ y.cell? ⟨w2.heap.size + 1, 4, none⟩ = some (.int .i64 b.g))
      (first | exact qc0 | exact qc1 | exact qc2 | exact qc3 | exact qc4)
      (first
        | (go_at_call 13; (with_reducible refine (C7.out _).mono ?_); rintro e qx1 ⟨rfl, b1⟩; have qc1 := rk2 (a := a) (b := b) qc0 b1 qL0 qM0; have qL1 := Nat.lt_of_lt_of_le qL0 b1.size; have qM1 := Nat.lt_of_lt_of_le qM0 b1.size; have qH1 := Lib.hid (qH0.out.trans (b1.mono qH0.out.size)); clear b1)
        | (go_at_call 15; (with_reducible refine (C8.out _).mono ?_); rintro e qx2 ⟨rfl, b2⟩; have qc2 := rk2 (a := a) (b := b) qc1 b2 qL1 qM1; have qL2 := Nat.lt_of_lt_of_le qL1 b2.size; have qM2 := Nat.lt_of_lt_of_le qM1 b2.size; have qH2 := Lib.hid (qH1.out.trans (b2.mono qH1.out.size)); clear b2)
        | (go_at_call 10; (with_reducible refine (C5.out _).mono ?_); rintro e qx3 ⟨rfl, b3⟩; have qc3 := rk2 (a := a) (b := b) qc2 b3 qL2 qM2; have qL3 := Nat.lt_of_lt_of_le qL2 b3.size; have qM3 := Nat.lt_of_lt_of_le qM2 b3.size; have qH3 := Lib.hid (qH2.out.trans (b3.mono qH2.out.size)); clear b3)
        | (go_at_call 15; (with_reducible refine (C9.out _).mono ?_); rintro e qx4 ⟨rfl, b4⟩; have qc4 := rk2 (a := a) (b := b) qc3 b4 qL3 qM3; have qL4 := Nat.lt_of_lt_of_le qL3 b4.size; have qM4 := Nat.lt_of_lt_of_le qM3 b4.size; have qH4 := Lib.hid (qH3.out.trans (b4.mono qH3.out.size)); clear b4))
    go_wp2_with fail
    go_ret
    exact ⟨rfl, qH4.out⟩
  case pos =>
  have d2 : decide (n3 ≤ n4) = true := decide_eq_true h2
  have hxy := HPF.out h1 h2
  have d3 : decide (Y < X) = false := decide_eq_false (by omega)
  clear h1 h2 hxy
  go_region_held3 (fun y => y.cell? ⟨w2.heap.size, 0, none⟩ = some (.int .i64 a.m) ∧ y.cell? ⟨w2.heap.size, 1, none⟩ = some (.int .i64 a.c) ∧ y.cell? ⟨w2.heap.size, 2, none⟩ = some (.int .i64 a.s) ∧ y.cell? ⟨w2.heap.size, 3, none⟩ = some (.int .i64 a.w) ∧ y.cell? ⟨w2.heap.size, 4, none⟩ = some (.int .i64 a.g) ∧ y.cell? ⟨w2.heap.size + 1, 0, none⟩ = some (.int .i64 b.m) ∧ y.cell? ⟨w2.heap.size + 1, 1, none⟩ = some (.int .i64 b.c) ∧ y.cell? ⟨w2.heap.size + 1, 2, none⟩ = some (.int .i64 b.s) ∧ y.cell? ⟨w2.heap.size + 1, 3, none⟩ = some (.int .i64 b.w) ∧ y.cell? ⟨w2.heap.size + 1, 4, none⟩ = some (.int .i64 b.g))
    (first | exact c0 | exact c1 | exact c2 | exact c3 | exact c4 | exact c5 | exact c6)
    (first
        | (go_at_call 19; (with_reducible refine (C1.out _).mono ?_); rintro e x1 ⟨rfl, b1⟩; have c1 := rk2 (a := a) (b := b) c0 b1 L0 M0; have L1 := Nat.lt_of_lt_of_le L0 b1.size; have M1 := Nat.lt_of_lt_of_le M0 b1.size; have H1 := Lib.hid (H0.out.trans (b1.mono H0.out.size)); clear b1)
        | (go_at_call 19; (with_reducible refine (C2.out _).mono ?_); rintro e x2 ⟨rfl, b2⟩; have c2 := rk2 (a := a) (b := b) c1 b2 L1 M1; have L2 := Nat.lt_of_lt_of_le L1 b2.size; have M2 := Nat.lt_of_lt_of_le M1 b2.size; have H2 := Lib.hid (H1.out.trans (b2.mono H1.out.size)); clear b2)
        | (go_at_call 20; (with_reducible refine (C3.out _).mono ?_); rintro e x3 ⟨rfl, b3⟩; have c3 := rk2 (a := a) (b := b) c2 b3 L2 M2; have L3 := Nat.lt_of_lt_of_le L2 b3.size; have M3 := Nat.lt_of_lt_of_le M2 b3.size; have H3 := Lib.hid (H2.out.trans (b3.mono H2.out.size)); clear b3)
        | (go_at_call 20; (with_reducible refine (C4.out _).mono ?_); rintro e x4 ⟨rfl, b4⟩; have c4 := rk2 (a := a) (b := b) c3 b4 L3 M3; have L4 := Nat.lt_of_lt_of_le L3 b4.size; have M4 := Nat.lt_of_lt_of_le M3 b4.size; have H4 := Lib.hid (H3.out.trans (b4.mono H3.out.size)); clear b4)
        | (go_at_call 10; (with_reducible refine (C5.out _).mono ?_); rintro e x5 ⟨rfl, b5⟩; have c5 := rk2 (a := a) (b := b) c4 b5 L4 M4; have L5 := Nat.lt_of_lt_of_le L4 b5.size; have M5 := Nat.lt_of_lt_of_le M4 b5.size; have H5 := Lib.hid (H4.out.trans (b5.mono H4.out.size)); clear b5)
        | (go_at_call 10; (with_reducible refine (C6.out _).mono ?_); rintro e x6 ⟨rfl, b6⟩; have c6 := rk2 (a := a) (b := b) c5 b6 L5 M5; have L6 := Nat.lt_of_lt_of_le L5 b6.size; have M6 := Nat.lt_of_lt_of_le M5 b6.size; have H6 := Lib.hid (H5.out.trans (b6.mono H5.out.size)); clear b6))
  go_wp2_with fail
  have qc0 : x6.drew.cell? ⟨w2.heap.size, 0, none⟩ = some (.int .i64 a.m) ∧ x6.drew.cell? ⟨w2.heap.size, 1, none⟩ = some (.int .i64 a.c) ∧ x6.drew.cell? ⟨w2.heap.size, 2, none⟩ = some (.int .i64 a.s) ∧ x6.drew.cell? ⟨w2.heap.size, 3, none⟩ = some (.int .i64 a.w) ∧ x6.drew.cell? ⟨w2.heap.size, 4, none⟩ = some (.int .i64 a.g) ∧ x6.drew.cell? ⟨w2.heap.size + 1, 0, none⟩ = some (.int .i64 b.m) ∧ x6.drew.cell? ⟨w2.heap.size + 1, 1, none⟩ = some (.int .i64 b.c) ∧ x6.drew.cell? ⟨w2.heap.size + 1, 2, none⟩ = some (.int .i64 b.s) ∧ x6.drew.cell? ⟨w2.heap.size + 1, 3, none⟩ = some (.int .i64 b.w) ∧ x6.drew.cell? ⟨w2.heap.size + 1, 4, none⟩ = some (.int .i64 b.g) := c6
  have qL0 : w2.heap.size < x6.drew.heap.size := L6
  have qM0 : w2.heap.size + 1 < x6.drew.heap.size := M6
  have qH0 := Lib.hid (show Below w.heap.size w x6.drew from H6.out.trans (Below.drew (Below.refl _ _)))
  clear c0 c1 c2 c3 c4 c5 c6
  go_region_held3 (fun y => y.cell? ⟨w2.heap.size, 0, none⟩ = some (.int .i64 a.m) ∧ y.cell? ⟨w2.heap.size, 1, none⟩ = some (.int .i64 a.c) ∧ y.cell? ⟨w2.heap.size, 2, none⟩ = some (.int .i64 a.s) ∧ y.cell? ⟨w2.heap.size, 3, none⟩ = some (.int .i64 a.w) ∧ y.cell? ⟨w2.heap.size, 4, none⟩ = some (.int .i64 a.g) ∧ y.cell? ⟨w2.heap.size + 1, 0, none⟩ = some (.int .i64 b.m) ∧ y.cell? ⟨w2.heap.size + 1, 1, none⟩ = some (.int .i64 b.c) ∧ y.cell? ⟨w2.heap.size + 1, 2, none⟩ = some (.int .i64 b.s) ∧ y.cell? ⟨w2.heap.size + 1, 3, none⟩ = some (.int .i64 b.w) ∧ y.cell? ⟨w2.heap.size + 1, 4, none⟩ = some (.int .i64 b.g))
    (first | exact qc0 | exact qc1 | exact qc2 | exact qc3 | exact qc4)
    (first
        | (go_at_call 13; (with_reducible refine (C7.out _).mono ?_); rintro e qx1 ⟨rfl, b1⟩; have qc1 := rk2 (a := a) (b := b) qc0 b1 qL0 qM0; have qL1 := Nat.lt_of_lt_of_le qL0 b1.size; have qM1 := Nat.lt_of_lt_of_le qM0 b1.size; have qH1 := Lib.hid (qH0.out.trans (b1.mono qH0.out.size)); clear b1)
        | (go_at_call 15; (with_reducible refine (C8.out _).mono ?_); rintro e qx2 ⟨rfl, b2⟩; have qc2 := rk2 (a := a) (b := b) qc1 b2 qL1 qM1; have qL2 := Nat.lt_of_lt_of_le qL1 b2.size; have qM2 := Nat.lt_of_lt_of_le qM1 b2.size; have qH2 := Lib.hid (qH1.out.trans (b2.mono qH1.out.size)); clear b2)
        | (go_at_call 10; (with_reducible refine (C5.out _).mono ?_); rintro e qx3 ⟨rfl, b3⟩; have qc3 := rk2 (a := a) (b := b) qc2 b3 qL2 qM2; have qL3 := Nat.lt_of_lt_of_le qL2 b3.size; have qM3 := Nat.lt_of_lt_of_le qM2 b3.size; have qH3 := Lib.hid (qH2.out.trans (b3.mono qH2.out.size)); clear b3)
        | (go_at_call 15; (with_reducible refine (C9.out _).mono ?_); rintro e qx4 ⟨rfl, b4⟩; have qc4 := rk2 (a := a) (b := b) qc3 b4 qL3 qM3; have qL4 := Nat.lt_of_lt_of_le qL3 b4.size; have qM4 := Nat.lt_of_lt_of_le qM3 b4.size; have qH4 := Lib.hid (qH3.out.trans (b4.mono qH3.out.size)); clear b4))
  go_wp2_with fail
  go_ret
  exact ⟨rfl, qH4.out⟩
end Go.Proofs.Yticgdoeamabklaa
