/-
  RateGuard: the walk.
-/
import Derived.Test.YtdmgnocpempfnaaRateGrowsWalk
namespace Go.Proofs.Ytdmgnocpempfnaa
open Go.ChangeShapes Go.WideShapes Go.ChangeAt Go.RowKit
set_option linter.unusedVariables false

/-- a rate that may not be -/
def badP (r : RT) (b : Nat) : RT := if b = 0 then { r with m := 9 } else if b = 1 then { r with c := 12 } else if b = 2 then { r with s := 9 } else if b = 3 then { r with w := 25 } else { r with g := 3 }
theorem bad_valid {r : RT} (h : validP r = true) (b : Nat) : validP (badP r b) = false := by
  rcases hb : validP (badP r b)
  · rfl
  · exfalso
    obtain ⟨g0, g1, s0, s1, c0, c1, hm⟩ := valid_gi hb
    have hw := valid_w hb
    by_cases b0 : b = 0
    · rw [show badP r b = { r with m := 9 } by unfold badP; rw [if_pos b0]] at hm; simp only at hm; omega
    by_cases b1 : b = 1
    · rw [show badP r b = { r with c := 12 } by unfold badP; rw [if_neg b0, if_pos b1]] at c1; simp only at c1; omega
    by_cases b2 : b = 2
    · rw [show badP r b = { r with s := 9 } by unfold badP; rw [if_neg b0, if_neg b1, if_pos b2]] at s1; simp only at s1; omega
    by_cases b3 : b = 3
    · rw [show badP r b = { r with w := 25 } by unfold badP; rw [if_neg b0, if_neg b1, if_neg b2, if_pos b3]] at hw; simp only at hw; omega
    · rw [show badP r b = { r with g := 3 } by unfold badP; rw [if_neg b0, if_neg b1, if_neg b2, if_neg b3]] at g1; simp only at g1; omega
theorem bits_bad {t : RT} (h : validP t = false) : bitsP t = 0 := by rw [bitsP, h]; rfl
theorem sym_bad {t : RT} (h : validP t = false) : symP t = 0 := by rw [symP, h]; rfl
theorem pre_bad {t : RT} (h : validP t = false) : preP t = 0 := by rw [preP, h]; rfl

set_option maxHeartbeats 8000000 in
theorem rateGuard_walk (w : World) (mode : Int) (hmode : (Lit.int .i64 mode).wf = true) (i : Int) (hi : (Lit.int .i64 i).wf = true) (bad : Int) (hbad : (Lit.int .i64 bad).wf = true) :
    Calls Try.prog 4 #[.int .i64 mode, .int .i64 i, .int .i64 bad] w fun e w' => e = .returned (.bool true) ∧ Below w.heap.size w w' := by
  obtain ⟨m0, m1⟩ := bounds_i64 hmode
  obtain ⟨i0, i1⟩ := bounds_i64 hi
  obtain ⟨k0, k1⟩ := bounds_i64 hbad
  obtain ⟨M, hM, eM'⟩ := number_nat mode 3 (by omega)
  obtain ⟨y, hy, ey'⟩ := number_nat bad 5 (by omega)
  have eM : mode % 3 = (M : Int) := eM'
  have ey : bad % 5 = (y : Int) := ey'
  clear hmode hi hbad eM' ey'
  go_enter Try.func4, Try.ntmps4
  go_wp2_with fail
  refine (rfirst_any _).mono ?_
  rintro e w1 ⟨rfl, hb1⟩
  have z1 := hb1.size
  have B1 := Lib.hid hb1
  clear hb1
  go_wp2_with fail
  refine (number_any mode 3 _ (by omega) (by omega) m0 m1).mono ?_
  rintro e w2 ⟨rfl, rfl⟩
  rw [eM]
  clear eM m0 m1
  go_wp2_with fail
  refine (all_any ((M : Int) + 2) _).mono ?_
  rintro e w2 ⟨v, rfl, ho, hb2⟩
  obtain ⟨A, n, C, rfl, hr⟩ := ho.row
  have HB2 := Lib.hid (B1.out.trans (hb2.mono z1))
  obtain ⟨hp1, hp2⟩ := all_pos (m := (M : Int) + 2) (by omega) (by omega)
  have hn8 : 8 ≤ n := by rw [hr.1]; exact hp1
  have hn9 : n ≤ 1152 := by rw [hr.1]; exact hp2
  have HR := Lib.hid hr
  clear hb2 ho hr hp1 hp2 B1 z1
  have z2 := HB2.out.size
  obtain ⟨x, hx, ex⟩ := number_nat i n (by omega)
  obtain ⟨r, hr⟩ : ∃ r, (allP ((M : Int) + 2))[x]? = some r := ⟨_, List.getElem?_eq_getElem (by rw [← HR.out.1]; exact hx)⟩
  obtain ⟨-, rv⟩ := all_mem (List.mem_of_getElem? hr)
  obtain ⟨b1, o1, rfl, l1, e0, e1, e2, e3, e4⟩ := HR.out.at_ hr
  have HRV := Lib.hid rv
  obtain ⟨g0, g1, -⟩ := valid_gi rv
  clear hr rv
  go_wp2_with fail
  refine (number_any i n _ (by omega) (by omega) i0 i1).mono ?_
  rintro e w3 ⟨rfl, rfl⟩
  rw [ex]
  clear ex i0 i1
  have HA := Lib.hid (show RtB ((w2.alloc (.cells #[.int .i64 r.m, .int .i64 r.c, .int .i64 r.s, .int .i64 r.w, .int .i64 r.g] 27)).alloc (.cells #[.int .i64 r.m, .int .i64 r.c, .int .i64 r.s, .int .i64 r.w, .int .i64 (r.g + 1)] 27)) w2.heap.size r from (Blk.new w2 _ _).alloc _)
  have HB := Lib.hid (show RtB ((w2.alloc (.cells #[.int .i64 r.m, .int .i64 r.c, .int .i64 r.s, .int .i64 r.w, .int .i64 r.g] 27)).alloc (.cells #[.int .i64 r.m, .int .i64 r.c, .int .i64 r.s, .int .i64 r.w, .int .i64 (r.g + 1)] 27)) (w2.heap.size + 1) { r with g := r.g + 1 } from by have := Blk.new (w2.alloc (.cells #[.int .i64 r.m, .int .i64 r.c, .int .i64 r.s, .int .i64 r.w, .int .i64 r.g] 27)) #[.int .i64 r.m, .int .i64 r.c, .int .i64 r.s, .int .i64 r.w, .int .i64 (r.g + 1)] 27; rw [show (w2.alloc (.cells #[.int .i64 r.m, .int .i64 r.c, .int .i64 r.s, .int .i64 r.w, .int .i64 r.g] 27)).heap.size = w2.heap.size + 1 by simp] at this; exact this)
  have BB := Lib.hid (show Below w.heap.size w ((w2.alloc (.cells #[.int .i64 r.m, .int .i64 r.c, .int .i64 r.s, .int .i64 r.w, .int .i64 r.g] 27)).alloc (.cells #[.int .i64 r.m, .int .i64 r.c, .int .i64 r.s, .int .i64 r.w, .int .i64 (r.g + 1)] 27)) from (HB2.out.alloc z2 _).alloc (by simp; omega) _)
  clear HB2
  go_wp2_with fail
  clear e0 e1 e2 e3 e4
  obtain ⟨W, hW⟩ : ∃ W, W = ((w2.alloc (.cells #[.int .i64 r.m, .int .i64 r.c, .int .i64 r.s, .int .i64 r.w, .int .i64 r.g] 27)).alloc (.cells #[.int .i64 r.m, .int .i64 r.c, .int .i64 r.s, .int .i64 r.w, .int .i64 (r.g + 1)] 27)) := ⟨_, rfl⟩
  rw [← hW] at HA HB BB ⊢
  clear hW
  obtain ⟨e0, e1, e2, e3, e4⟩ := HA.out.cells
  obtain ⟨f0, f1, f2, f3, f4⟩ := HB.out.cells
  simp only at f0 f1 f2 f3 f4
  have la := HA.out
  have lb := HB.out
  have za := Blk.lt la
  have zb := Blk.lt lb
  clear la lb
  have c0 : W.drew.cell? ⟨w2.heap.size, 0, none⟩ = some (.int .i64 r.m) ∧ W.drew.cell? ⟨w2.heap.size, 1, none⟩ = some (.int .i64 r.c) ∧ W.drew.cell? ⟨w2.heap.size, 2, none⟩ = some (.int .i64 r.s) ∧ W.drew.cell? ⟨w2.heap.size, 3, none⟩ = some (.int .i64 r.w) ∧ W.drew.cell? ⟨w2.heap.size, 4, none⟩ = some (.int .i64 r.g) ∧ W.drew.cell? ⟨w2.heap.size + 1, 0, none⟩ = some (.int .i64 r.m) ∧ W.drew.cell? ⟨w2.heap.size + 1, 1, none⟩ = some (.int .i64 r.c) ∧ W.drew.cell? ⟨w2.heap.size + 1, 2, none⟩ = some (.int .i64 r.s) ∧ W.drew.cell? ⟨w2.heap.size + 1, 3, none⟩ = some (.int .i64 r.w) ∧ W.drew.cell? ⟨w2.heap.size + 1, 4, none⟩ = some (.int .i64 (r.g + 1)) := ⟨e0, e1, e2, e3, e4, f0, f1, f2, f3, f4⟩
  have L0 : w2.heap.size < W.drew.heap.size := za
  have M0 : w2.heap.size + 1 < W.drew.heap.size := zb
  have H0 := Lib.hid (show Below w.heap.size w W.drew from BB.out.trans (Below.drew (Below.refl _ _)))
  have CV := Lib.hid (fun w => valid_any { r with g := r.g + 1 } w)
  simp only at CV
  rcases hsv : validP { r with g := r.g + 1 }
  case false =>
    rw [hsv] at CV
    clear hsv
    refine wp_region_held_drew (S := (fun y => y.cell? ⟨w2.heap.size, 0, none⟩ = some (.int .i64 r.m) ∧ y.cell? ⟨w2.heap.size, 1, none⟩ = some (.int .i64 r.c) ∧ y.cell? ⟨w2.heap.size, 2, none⟩ = some (.int .i64 r.s) ∧ y.cell? ⟨w2.heap.size, 3, none⟩ = some (.int .i64 r.w) ∧ y.cell? ⟨w2.heap.size, 4, none⟩ = some (.int .i64 r.g) ∧ y.cell? ⟨w2.heap.size + 1, 0, none⟩ = some (.int .i64 r.m) ∧ y.cell? ⟨w2.heap.size + 1, 1, none⟩ = some (.int .i64 r.c) ∧ y.cell? ⟨w2.heap.size + 1, 2, none⟩ = some (.int .i64 r.s) ∧ y.cell? ⟨w2.heap.size + 1, 3, none⟩ = some (.int .i64 r.w) ∧ y.cell? ⟨w2.heap.size + 1, 4, none⟩ = some (.int .i64 (r.g + 1)))) (by kernel_rfl) ?_ (fun hHeld => ?_)
    · (try dsimp only); exact c0
    refine wpAnyH_take (i := 0) (oi := { dst := some 34, op := Op.load 27 (Operand.tmp 10), type := 27, pos := "again.go:22", after := #[], guard := none }) (v := ?hv1) rfl (by kernel_rfl) (by kernel_rfl) (by kernel_rfl) (fun _ _ _ h => h) (Or.inl ⟨by rfl, ?hy1⟩) (by assumption) ?_
    case hy1 => ((intro w hSw); (try dsimp only at hSw); go_simp; (try with_reducible rfl))
    try simp only [Act.put, List.setIfInBounds_toArray, List.set_cons_zero, List.set_cons_succ]
    refine wpAnyH_ready (rs := [1]) (by kernel_rfl) (by simp) ?_
    refine AllReadyH.cons (o := { dst := some 35, op := Op.call { callee := Callee.value (Operand.func 9), args := #[Operand.tmp 34], argTypes := #[27] }, type := 4, pos := "again.go:22", after := #[{ on := 0, ground := Ground.data }], guard := none }) rfl (fun K hK => ?_) AllReadyH.nil
    go_simp
    go_at_call 9; (with_reducible refine (CV.out _).mono ?_); rintro e x1 ⟨rfl, b1⟩; have c1 := rk2 (a := r) (b := { r with g := r.g + 1 }) c0 b1 L0 M0; have H1 := Lib.hid (H0.out.trans (b1.mono H0.out.size)); have A1 := Lib.hid (HA.out.below ((Below.drew (Below.refl _ W)).trans b1) (Nat.le_refl _)); clear b1
    refine hK.out _ _ ?_ (fun hHeld => ?_)
    · (try dsimp only); exact c1
    clear hK K
    try simp only [Act.put, List.setIfInBounds_toArray, List.set_cons_zero, List.set_cons_succ]
    refine wpAnyH_take (i := 2) (oi := { dst := some 36, op := Op.move (Operand.tmp 35), type := 4, pos := "again.go:22", after := #[{ on := 1, ground := Ground.data }, { on := 1, ground := Ground.chain }], guard := none }) (v := ?hv2) rfl (by kernel_rfl) (by kernel_rfl) (by kernel_rfl) (fun _ _ _ h => h) (Or.inl ⟨by rfl, ?hy2⟩) (by assumption) ?_
    case hy2 => ((intro w hSw); (try dsimp only at hSw); go_simp; (try with_reducible rfl))
    try simp only [Act.put, List.setIfInBounds_toArray, List.set_cons_zero, List.set_cons_succ]
    refine wpAnyH_take (i := 3) (oi := { dst := some 37, op := Op.load 27 (Operand.tmp 10), type := 27, pos := "again.go:22", after := #[{ on := 2, ground := Ground.guard }], guard := some (2, true) }) (v := undef) rfl (by kernel_rfl) (by kernel_rfl) (by kernel_rfl) (fun _ _ _ h => h) (Or.inr ⟨by rfl, rfl⟩) (by assumption) ?_
    try simp only [Act.put, List.setIfInBounds_toArray, List.set_cons_zero, List.set_cons_succ]
    refine wpAnyH_take (i := 4) (oi := { dst := some 38, op := Op.call { callee := Callee.value (Operand.func 12), args := #[Operand.tmp 37], argTypes := #[27] }, type := 3, pos := "again.go:22", after := #[{ on := 3, ground := Ground.data }, { on := 2, ground := Ground.chain }, { on := 2, ground := Ground.guard }], guard := some (2, true) }) (v := undef) rfl (by kernel_rfl) (by kernel_rfl) (by kernel_rfl) (fun _ _ _ h => h) (Or.inr ⟨by rfl, rfl⟩) (by assumption) ?_
    try simp only [Act.put, List.setIfInBounds_toArray, List.set_cons_zero, List.set_cons_succ]
    refine wpAnyH_take (i := 5) (oi := { dst := some 39, op := Op.load 27 (Operand.tmp 9), type := 27, pos := "again.go:22", after := #[{ on := 2, ground := Ground.guard }], guard := some (2, true) }) (v := undef) rfl (by kernel_rfl) (by kernel_rfl) (by kernel_rfl) (fun _ _ _ h => h) (Or.inr ⟨by rfl, rfl⟩) (by assumption) ?_
    try simp only [Act.put, List.setIfInBounds_toArray, List.set_cons_zero, List.set_cons_succ]
    refine wpAnyH_take (i := 6) (oi := { dst := some 40, op := Op.call { callee := Callee.value (Operand.func 12), args := #[Operand.tmp 39], argTypes := #[27] }, type := 3, pos := "again.go:22", after := #[{ on := 5, ground := Ground.data }, { on := 4, ground := Ground.chain }, { on := 2, ground := Ground.guard }], guard := some (2, true) }) (v := undef) rfl (by kernel_rfl) (by kernel_rfl) (by kernel_rfl) (fun _ _ _ h => h) (Or.inr ⟨by rfl, rfl⟩) (by assumption) ?_
    try simp only [Act.put, List.setIfInBounds_toArray, List.set_cons_zero, List.set_cons_succ]
    refine wpAnyH_take (i := 7) (oi := { dst := some 41, op := Op.binOp BinOp.geq 3 (Operand.tmp 38) (Operand.tmp 40) 3, type := 4, pos := "again.go:22", after := #[{ on := 4, ground := Ground.data }, { on := 6, ground := Ground.data }, { on := 2, ground := Ground.guard }], guard := some (2, true) }) (v := undef) rfl (by kernel_rfl) (by kernel_rfl) (by kernel_rfl) (fun _ _ _ h => h) (Or.inr ⟨by rfl, rfl⟩) (by assumption) ?_
    try simp only [Act.put, List.setIfInBounds_toArray, List.set_cons_zero, List.set_cons_succ]
    refine wpAnyH_take (i := 8) (oi := { dst := some 42, op := Op.move (Operand.tmp 41), type := 4, pos := "again.go:22", after := #[{ on := 7, ground := Ground.data }, { on := 6, ground := Ground.chain }, { on := 2, ground := Ground.guard }], guard := some (2, true) }) (v := undef) rfl (by kernel_rfl) (by kernel_rfl) (by kernel_rfl) (fun _ _ _ h => h) (Or.inr ⟨by rfl, rfl⟩) (by assumption) ?_
    try simp only [Act.put, List.setIfInBounds_toArray, List.set_cons_zero, List.set_cons_succ]
    refine wpAnyH_take (i := 9) (oi := { dst := some 43, op := Op.load 27 (Operand.tmp 10), type := 27, pos := "again.go:22", after := #[{ on := 8, ground := Ground.guard }], guard := some (8, false) }) (v := undef) rfl (by kernel_rfl) (by kernel_rfl) (by kernel_rfl) (fun _ _ _ h => h) (Or.inr ⟨by rfl, rfl⟩) (by assumption) ?_
    try simp only [Act.put, List.setIfInBounds_toArray, List.set_cons_zero, List.set_cons_succ]
    refine wpAnyH_take (i := 10) (oi := { dst := some 44, op := Op.call { callee := Callee.value (Operand.func 13), args := #[Operand.tmp 43], argTypes := #[27] }, type := 3, pos := "again.go:22", after := #[{ on := 9, ground := Ground.data }, { on := 8, ground := Ground.chain }, { on := 8, ground := Ground.guard }], guard := some (8, false) }) (v := undef) rfl (by kernel_rfl) (by kernel_rfl) (by kernel_rfl) (fun _ _ _ h => h) (Or.inr ⟨by rfl, rfl⟩) (by assumption) ?_
    try simp only [Act.put, List.setIfInBounds_toArray, List.set_cons_zero, List.set_cons_succ]
    refine wpAnyH_take (i := 11) (oi := { dst := some 45, op := Op.load 27 (Operand.tmp 9), type := 27, pos := "again.go:22", after := #[{ on := 8, ground := Ground.guard }], guard := some (8, false) }) (v := undef) rfl (by kernel_rfl) (by kernel_rfl) (by kernel_rfl) (fun _ _ _ h => h) (Or.inr ⟨by rfl, rfl⟩) (by assumption) ?_
    try simp only [Act.put, List.setIfInBounds_toArray, List.set_cons_zero, List.set_cons_succ]
    refine wpAnyH_take (i := 12) (oi := { dst := some 46, op := Op.call { callee := Callee.value (Operand.func 13), args := #[Operand.tmp 45], argTypes := #[27] }, type := 3, pos := "again.go:22", after := #[{ on := 11, ground := Ground.data }, { on := 10, ground := Ground.chain }, { on := 8, ground := Ground.guard }], guard := some (8, false) }) (v := undef) rfl (by kernel_rfl) (by kernel_rfl) (by kernel_rfl) (fun _ _ _ h => h) (Or.inr ⟨by rfl, rfl⟩) (by assumption) ?_
    try simp only [Act.put, List.setIfInBounds_toArray, List.set_cons_zero, List.set_cons_succ]
    refine wpAnyH_take (i := 13) (oi := { dst := some 47, op := Op.binOp BinOp.neq 3 (Operand.tmp 44) (Operand.tmp 46) 3, type := 4, pos := "again.go:22", after := #[{ on := 10, ground := Ground.data }, { on := 12, ground := Ground.data }, { on := 8, ground := Ground.guard }], guard := some (8, false) }) (v := undef) rfl (by kernel_rfl) (by kernel_rfl) (by kernel_rfl) (fun _ _ _ h => h) (Or.inr ⟨by rfl, rfl⟩) (by assumption) ?_
    try simp only [Act.put, List.setIfInBounds_toArray, List.set_cons_zero, List.set_cons_succ]
    refine wpAnyH_take (i := 14) (oi := { dst := some 48, op := Op.pick (Operand.tmp 42) (Operand.const (Value.bool true)) (Operand.tmp 47), type := 4, pos := "again.go:22", after := #[{ on := 8, ground := Ground.data }, { on := 13, ground := Ground.data }, { on := 2, ground := Ground.guard }], guard := some (2, true) }) (v := undef) rfl (by kernel_rfl) (by kernel_rfl) (by kernel_rfl) (fun _ _ _ h => h) (Or.inr ⟨by rfl, rfl⟩) (by assumption) ?_
    try simp only [Act.put, List.setIfInBounds_toArray, List.set_cons_zero, List.set_cons_succ]
    refine wpAnyH_take (i := 15) (oi := { dst := some 49, op := Op.move (Operand.tmp 48), type := 4, pos := "again.go:22", after := #[{ on := 14, ground := Ground.data }, { on := 12, ground := Ground.chain }, { on := 2, ground := Ground.guard }], guard := some (2, true) }) (v := undef) rfl (by kernel_rfl) (by kernel_rfl) (by kernel_rfl) (fun _ _ _ h => h) (Or.inr ⟨by rfl, rfl⟩) (by assumption) ?_
    try simp only [Act.put, List.setIfInBounds_toArray, List.set_cons_zero, List.set_cons_succ]
    refine wpAnyH_take (i := 16) (oi := { dst := some 50, op := Op.load 27 (Operand.tmp 10), type := 27, pos := "again.go:22", after := #[{ on := 15, ground := Ground.guard }], guard := some (15, false) }) (v := undef) rfl (by kernel_rfl) (by kernel_rfl) (by kernel_rfl) (fun _ _ _ h => h) (Or.inr ⟨by rfl, rfl⟩) (by assumption) ?_
    try simp only [Act.put, List.setIfInBounds_toArray, List.set_cons_zero, List.set_cons_succ]
    refine wpAnyH_take (i := 17) (oi := { dst := some 51, op := Op.call { callee := Callee.value (Operand.func 14), args := #[Operand.tmp 50], argTypes := #[27] }, type := 3, pos := "again.go:22", after := #[{ on := 16, ground := Ground.data }, { on := 15, ground := Ground.chain }, { on := 15, ground := Ground.guard }], guard := some (15, false) }) (v := undef) rfl (by kernel_rfl) (by kernel_rfl) (by kernel_rfl) (fun _ _ _ h => h) (Or.inr ⟨by rfl, rfl⟩) (by assumption) ?_
    try simp only [Act.put, List.setIfInBounds_toArray, List.set_cons_zero, List.set_cons_succ]
    refine wpAnyH_take (i := 18) (oi := { dst := some 52, op := Op.load 27 (Operand.tmp 9), type := 27, pos := "again.go:22", after := #[{ on := 15, ground := Ground.guard }], guard := some (15, false) }) (v := undef) rfl (by kernel_rfl) (by kernel_rfl) (by kernel_rfl) (fun _ _ _ h => h) (Or.inr ⟨by rfl, rfl⟩) (by assumption) ?_
    try simp only [Act.put, List.setIfInBounds_toArray, List.set_cons_zero, List.set_cons_succ]
    refine wpAnyH_take (i := 19) (oi := { dst := some 53, op := Op.call { callee := Callee.value (Operand.func 14), args := #[Operand.tmp 52], argTypes := #[27] }, type := 3, pos := "again.go:22", after := #[{ on := 18, ground := Ground.data }, { on := 17, ground := Ground.chain }, { on := 15, ground := Ground.guard }], guard := some (15, false) }) (v := undef) rfl (by kernel_rfl) (by kernel_rfl) (by kernel_rfl) (fun _ _ _ h => h) (Or.inr ⟨by rfl, rfl⟩) (by assumption) ?_
    try simp only [Act.put, List.setIfInBounds_toArray, List.set_cons_zero, List.set_cons_succ]
    refine wpAnyH_take (i := 20) (oi := { dst := some 54, op := Op.binOp BinOp.neq 3 (Operand.tmp 51) (Operand.tmp 53) 3, type := 4, pos := "again.go:22", after := #[{ on := 17, ground := Ground.data }, { on := 19, ground := Ground.data }, { on := 15, ground := Ground.guard }], guard := some (15, false) }) (v := undef) rfl (by kernel_rfl) (by kernel_rfl) (by kernel_rfl) (fun _ _ _ h => h) (Or.inr ⟨by rfl, rfl⟩) (by assumption) ?_
    try simp only [Act.put, List.setIfInBounds_toArray, List.set_cons_zero, List.set_cons_succ]
    refine wpAnyH_take (i := 21) (oi := { dst := some 55, op := Op.pick (Operand.tmp 49) (Operand.const (Value.bool true)) (Operand.tmp 54), type := 4, pos := "again.go:22", after := #[{ on := 15, ground := Ground.data }, { on := 20, ground := Ground.data }, { on := 2, ground := Ground.guard }], guard := some (2, true) }) (v := undef) rfl (by kernel_rfl) (by kernel_rfl) (by kernel_rfl) (fun _ _ _ h => h) (Or.inr ⟨by rfl, rfl⟩) (by assumption) ?_
    try simp only [Act.put, List.setIfInBounds_toArray, List.set_cons_zero, List.set_cons_succ]
    refine wpAnyH_take (i := 22) (oi := { dst := some 56, op := Op.pick (Operand.tmp 36) (Operand.tmp 55) (Operand.const (Value.bool false)), type := 4, pos := "again.go:22", after := #[{ on := 2, ground := Ground.data }, { on := 21, ground := Ground.data }], guard := none }) (v := ?hv3) rfl (by kernel_rfl) (by kernel_rfl) (by kernel_rfl) (fun _ _ _ h => h) (Or.inl ⟨by rfl, ?hy3⟩) (by assumption) ?_
    case hy3 => ((intro w hSw); (try dsimp only at hSw); go_simp; (try with_reducible rfl))
    try simp only [Act.put, List.setIfInBounds_toArray, List.set_cons_zero, List.set_cons_succ]
    refine wpAnyH_done (by kernel_rfl) ?_ _
    clear c0 c1 e0 e1 e2 e3 e4 f0 f1 f2 f3 f4 L0 M0 za zb H0 HA HB BB CV
    have la := A1.out
    have za := Blk.lt la
    obtain ⟨e0, e1, e2, e3, e4⟩ := la.cells
    clear la
    have zH := H1.out.size
    go_wp2_with fail
    refine (number_any bad 5 _ (by omega) (by omega) k0 k1).mono ?_
    rintro e w3 ⟨rfl, rfl⟩
    rw [ey]
    clear ey k0 k1
    rcases (show y = 0 ∨ y = 1 ∨ y = 2 ∨ y = 3 ∨ y = 4 by omega) with rfl | rfl | rfl | rfl | rfl
    · have hbv : validP ⟨9, r.c, r.s, r.w, r.g⟩ = false := bad_valid HRV.out 0
      have D1 := Lib.hid (fun w => valid_any ⟨9, r.c, r.s, r.w, r.g⟩ w)
      have D2 := Lib.hid (fun w => bits_any ⟨9, r.c, r.s, r.w, r.g⟩ w)
      have D3 := Lib.hid (fun w => symbol_any ⟨9, r.c, r.s, r.w, r.g⟩ w)
      have D4 := Lib.hid (fun w => preamble_any ⟨9, r.c, r.s, r.w, r.g⟩ w)
      simp only at D1 D2 D3 D4
      rw [hbv] at D1
      rw [bits_bad hbv] at D2
      rw [sym_bad hbv] at D3
      rw [pre_bad hbv] at D4
      clear hbv
      have TB := Lib.hid (show RtB (x1.alloc (.cells #[.int .i64 9, .int .i64 r.c, .int .i64 r.s, .int .i64 r.w, .int .i64 r.g] 27)) x1.heap.size ⟨9, r.c, r.s, r.w, r.g⟩ from Blk.new x1 _ _)
      have I0 := Lib.hid (H1.out.alloc zH (.cells #[.int .i64 9, .int .i64 r.c, .int .i64 r.s, .int .i64 r.w, .int .i64 r.g] 27))
      go_wp2_with fail
      refine (D1.out _).mono ?_
      rintro e y1 ⟨rfl, bb⟩
      have I1 := Lib.hid (I0.out.trans (bb.mono I0.out.size))
      have T1 := Lib.hid (TB.out.below bb (Nat.le_refl _))
      clear bb
      obtain ⟨t0, t1, t2, t3, t4⟩ := T1.out.cells
      simp only at t0 t1 t2 t3 t4
      go_wp2_with fail
      clear t0 t1 t2 t3 t4
      refine (D2.out _).mono ?_
      rintro e y2 ⟨rfl, bb⟩
      have I2 := Lib.hid (I1.out.trans (bb.mono I1.out.size))
      have T2 := Lib.hid (T1.out.below bb (Nat.le_refl _))
      clear bb
      obtain ⟨t0, t1, t2, t3, t4⟩ := T2.out.cells
      simp only at t0 t1 t2 t3 t4
      go_wp2_with fail
      clear t0 t1 t2 t3 t4
      refine (D3.out _).mono ?_
      rintro e y3 ⟨rfl, bb⟩
      have I3 := Lib.hid (I2.out.trans (bb.mono I2.out.size))
      have T3 := Lib.hid (T2.out.below bb (Nat.le_refl _))
      clear bb
      obtain ⟨t0, t1, t2, t3, t4⟩ := T3.out.cells
      simp only at t0 t1 t2 t3 t4
      go_wp2_with fail
      clear t0 t1 t2 t3 t4
      refine (D4.out _).mono ?_
      rintro e y4 ⟨rfl, bb⟩
      have I4 := Lib.hid (I3.out.trans (bb.mono I3.out.size))
      have T4 := Lib.hid (T3.out.below bb (Nat.le_refl _))
      clear bb
      obtain ⟨t0, t1, t2, t3, t4⟩ := T4.out.cells
      simp only at t0 t1 t2 t3 t4
      go_wp2_with fail
      clear t0 t1 t2 t3 t4
      refine (valid_any ⟨0, 0, 0, 0, 0⟩ _).mono ?_
      rintro e y5 ⟨rfl, bb⟩
      rw [show validP ⟨0, 0, 0, 0, 0⟩ = false by decide]
      have I5 := Lib.hid (I4.out.trans (bb.mono I4.out.size))
      clear bb
      go_wp2_with fail
      refine (all_any 5 _).mono ?_
      rintro e y6 ⟨v6, rfl, o6, bb⟩
      obtain ⟨A6, n6, C6, rfl, r6⟩ := o6.row
      obtain rfl : n6 = 0 := r6.1
      have I6 := Lib.hid (I5.out.trans (bb.mono I5.out.size))
      clear bb o6 r6
      go_wp2_with fail
      go_ret
      exact ⟨rfl, I6.out⟩
    · have hbv : validP ⟨r.m, 12, r.s, r.w, r.g⟩ = false := bad_valid HRV.out 1
      have D1 := Lib.hid (fun w => valid_any ⟨r.m, 12, r.s, r.w, r.g⟩ w)
      have D2 := Lib.hid (fun w => bits_any ⟨r.m, 12, r.s, r.w, r.g⟩ w)
      have D3 := Lib.hid (fun w => symbol_any ⟨r.m, 12, r.s, r.w, r.g⟩ w)
      have D4 := Lib.hid (fun w => preamble_any ⟨r.m, 12, r.s, r.w, r.g⟩ w)
      simp only at D1 D2 D3 D4
      rw [hbv] at D1
      rw [bits_bad hbv] at D2
      rw [sym_bad hbv] at D3
      rw [pre_bad hbv] at D4
      clear hbv
      have TB := Lib.hid (show RtB (x1.alloc (.cells #[.int .i64 r.m, .int .i64 12, .int .i64 r.s, .int .i64 r.w, .int .i64 r.g] 27)) x1.heap.size ⟨r.m, 12, r.s, r.w, r.g⟩ from Blk.new x1 _ _)
      have I0 := Lib.hid (H1.out.alloc zH (.cells #[.int .i64 r.m, .int .i64 12, .int .i64 r.s, .int .i64 r.w, .int .i64 r.g] 27))
      go_wp2_with fail
      refine (D1.out _).mono ?_
      rintro e y1 ⟨rfl, bb⟩
      have I1 := Lib.hid (I0.out.trans (bb.mono I0.out.size))
      have T1 := Lib.hid (TB.out.below bb (Nat.le_refl _))
      clear bb
      obtain ⟨t0, t1, t2, t3, t4⟩ := T1.out.cells
      simp only at t0 t1 t2 t3 t4
      go_wp2_with fail
      clear t0 t1 t2 t3 t4
      refine (D2.out _).mono ?_
      rintro e y2 ⟨rfl, bb⟩
      have I2 := Lib.hid (I1.out.trans (bb.mono I1.out.size))
      have T2 := Lib.hid (T1.out.below bb (Nat.le_refl _))
      clear bb
      obtain ⟨t0, t1, t2, t3, t4⟩ := T2.out.cells
      simp only at t0 t1 t2 t3 t4
      go_wp2_with fail
      clear t0 t1 t2 t3 t4
      refine (D3.out _).mono ?_
      rintro e y3 ⟨rfl, bb⟩
      have I3 := Lib.hid (I2.out.trans (bb.mono I2.out.size))
      have T3 := Lib.hid (T2.out.below bb (Nat.le_refl _))
      clear bb
      obtain ⟨t0, t1, t2, t3, t4⟩ := T3.out.cells
      simp only at t0 t1 t2 t3 t4
      go_wp2_with fail
      clear t0 t1 t2 t3 t4
      refine (D4.out _).mono ?_
      rintro e y4 ⟨rfl, bb⟩
      have I4 := Lib.hid (I3.out.trans (bb.mono I3.out.size))
      have T4 := Lib.hid (T3.out.below bb (Nat.le_refl _))
      clear bb
      obtain ⟨t0, t1, t2, t3, t4⟩ := T4.out.cells
      simp only at t0 t1 t2 t3 t4
      go_wp2_with fail
      clear t0 t1 t2 t3 t4
      refine (valid_any ⟨0, 0, 0, 0, 0⟩ _).mono ?_
      rintro e y5 ⟨rfl, bb⟩
      rw [show validP ⟨0, 0, 0, 0, 0⟩ = false by decide]
      have I5 := Lib.hid (I4.out.trans (bb.mono I4.out.size))
      clear bb
      go_wp2_with fail
      refine (all_any 5 _).mono ?_
      rintro e y6 ⟨v6, rfl, o6, bb⟩
      obtain ⟨A6, n6, C6, rfl, r6⟩ := o6.row
      obtain rfl : n6 = 0 := r6.1
      have I6 := Lib.hid (I5.out.trans (bb.mono I5.out.size))
      clear bb o6 r6
      go_wp2_with fail
      go_ret
      exact ⟨rfl, I6.out⟩
    · have hbv : validP ⟨r.m, r.c, 9, r.w, r.g⟩ = false := bad_valid HRV.out 2
      have D1 := Lib.hid (fun w => valid_any ⟨r.m, r.c, 9, r.w, r.g⟩ w)
      have D2 := Lib.hid (fun w => bits_any ⟨r.m, r.c, 9, r.w, r.g⟩ w)
      have D3 := Lib.hid (fun w => symbol_any ⟨r.m, r.c, 9, r.w, r.g⟩ w)
      have D4 := Lib.hid (fun w => preamble_any ⟨r.m, r.c, 9, r.w, r.g⟩ w)
      simp only at D1 D2 D3 D4
      rw [hbv] at D1
      rw [bits_bad hbv] at D2
      rw [sym_bad hbv] at D3
      rw [pre_bad hbv] at D4
      clear hbv
      have TB := Lib.hid (show RtB (x1.alloc (.cells #[.int .i64 r.m, .int .i64 r.c, .int .i64 9, .int .i64 r.w, .int .i64 r.g] 27)) x1.heap.size ⟨r.m, r.c, 9, r.w, r.g⟩ from Blk.new x1 _ _)
      have I0 := Lib.hid (H1.out.alloc zH (.cells #[.int .i64 r.m, .int .i64 r.c, .int .i64 9, .int .i64 r.w, .int .i64 r.g] 27))
      go_wp2_with fail
      refine (D1.out _).mono ?_
      rintro e y1 ⟨rfl, bb⟩
      have I1 := Lib.hid (I0.out.trans (bb.mono I0.out.size))
      have T1 := Lib.hid (TB.out.below bb (Nat.le_refl _))
      clear bb
      obtain ⟨t0, t1, t2, t3, t4⟩ := T1.out.cells
      simp only at t0 t1 t2 t3 t4
      go_wp2_with fail
      clear t0 t1 t2 t3 t4
      refine (D2.out _).mono ?_
      rintro e y2 ⟨rfl, bb⟩
      have I2 := Lib.hid (I1.out.trans (bb.mono I1.out.size))
      have T2 := Lib.hid (T1.out.below bb (Nat.le_refl _))
      clear bb
      obtain ⟨t0, t1, t2, t3, t4⟩ := T2.out.cells
      simp only at t0 t1 t2 t3 t4
      go_wp2_with fail
      clear t0 t1 t2 t3 t4
      refine (D3.out _).mono ?_
      rintro e y3 ⟨rfl, bb⟩
      have I3 := Lib.hid (I2.out.trans (bb.mono I2.out.size))
      have T3 := Lib.hid (T2.out.below bb (Nat.le_refl _))
      clear bb
      obtain ⟨t0, t1, t2, t3, t4⟩ := T3.out.cells
      simp only at t0 t1 t2 t3 t4
      go_wp2_with fail
      clear t0 t1 t2 t3 t4
      refine (D4.out _).mono ?_
      rintro e y4 ⟨rfl, bb⟩
      have I4 := Lib.hid (I3.out.trans (bb.mono I3.out.size))
      have T4 := Lib.hid (T3.out.below bb (Nat.le_refl _))
      clear bb
      obtain ⟨t0, t1, t2, t3, t4⟩ := T4.out.cells
      simp only at t0 t1 t2 t3 t4
      go_wp2_with fail
      clear t0 t1 t2 t3 t4
      refine (valid_any ⟨0, 0, 0, 0, 0⟩ _).mono ?_
      rintro e y5 ⟨rfl, bb⟩
      rw [show validP ⟨0, 0, 0, 0, 0⟩ = false by decide]
      have I5 := Lib.hid (I4.out.trans (bb.mono I4.out.size))
      clear bb
      go_wp2_with fail
      refine (all_any 5 _).mono ?_
      rintro e y6 ⟨v6, rfl, o6, bb⟩
      obtain ⟨A6, n6, C6, rfl, r6⟩ := o6.row
      obtain rfl : n6 = 0 := r6.1
      have I6 := Lib.hid (I5.out.trans (bb.mono I5.out.size))
      clear bb o6 r6
      go_wp2_with fail
      go_ret
      exact ⟨rfl, I6.out⟩
    · have hbv : validP ⟨r.m, r.c, r.s, 25, r.g⟩ = false := bad_valid HRV.out 3
      have D1 := Lib.hid (fun w => valid_any ⟨r.m, r.c, r.s, 25, r.g⟩ w)
      have D2 := Lib.hid (fun w => bits_any ⟨r.m, r.c, r.s, 25, r.g⟩ w)
      have D3 := Lib.hid (fun w => symbol_any ⟨r.m, r.c, r.s, 25, r.g⟩ w)
      have D4 := Lib.hid (fun w => preamble_any ⟨r.m, r.c, r.s, 25, r.g⟩ w)
      simp only at D1 D2 D3 D4
      rw [hbv] at D1
      rw [bits_bad hbv] at D2
      rw [sym_bad hbv] at D3
      rw [pre_bad hbv] at D4
      clear hbv
      have TB := Lib.hid (show RtB (x1.alloc (.cells #[.int .i64 r.m, .int .i64 r.c, .int .i64 r.s, .int .i64 25, .int .i64 r.g] 27)) x1.heap.size ⟨r.m, r.c, r.s, 25, r.g⟩ from Blk.new x1 _ _)
      have I0 := Lib.hid (H1.out.alloc zH (.cells #[.int .i64 r.m, .int .i64 r.c, .int .i64 r.s, .int .i64 25, .int .i64 r.g] 27))
      go_wp2_with fail
      refine (D1.out _).mono ?_
      rintro e y1 ⟨rfl, bb⟩
      have I1 := Lib.hid (I0.out.trans (bb.mono I0.out.size))
      have T1 := Lib.hid (TB.out.below bb (Nat.le_refl _))
      clear bb
      obtain ⟨t0, t1, t2, t3, t4⟩ := T1.out.cells
      simp only at t0 t1 t2 t3 t4
      go_wp2_with fail
      clear t0 t1 t2 t3 t4
      refine (D2.out _).mono ?_
      rintro e y2 ⟨rfl, bb⟩
      have I2 := Lib.hid (I1.out.trans (bb.mono I1.out.size))
      have T2 := Lib.hid (T1.out.below bb (Nat.le_refl _))
      clear bb
      obtain ⟨t0, t1, t2, t3, t4⟩ := T2.out.cells
      simp only at t0 t1 t2 t3 t4
      go_wp2_with fail
      clear t0 t1 t2 t3 t4
      refine (D3.out _).mono ?_
      rintro e y3 ⟨rfl, bb⟩
      have I3 := Lib.hid (I2.out.trans (bb.mono I2.out.size))
      have T3 := Lib.hid (T2.out.below bb (Nat.le_refl _))
      clear bb
      obtain ⟨t0, t1, t2, t3, t4⟩ := T3.out.cells
      simp only at t0 t1 t2 t3 t4
      go_wp2_with fail
      clear t0 t1 t2 t3 t4
      refine (D4.out _).mono ?_
      rintro e y4 ⟨rfl, bb⟩
      have I4 := Lib.hid (I3.out.trans (bb.mono I3.out.size))
      have T4 := Lib.hid (T3.out.below bb (Nat.le_refl _))
      clear bb
      obtain ⟨t0, t1, t2, t3, t4⟩ := T4.out.cells
      simp only at t0 t1 t2 t3 t4
      go_wp2_with fail
      clear t0 t1 t2 t3 t4
      refine (valid_any ⟨0, 0, 0, 0, 0⟩ _).mono ?_
      rintro e y5 ⟨rfl, bb⟩
      rw [show validP ⟨0, 0, 0, 0, 0⟩ = false by decide]
      have I5 := Lib.hid (I4.out.trans (bb.mono I4.out.size))
      clear bb
      go_wp2_with fail
      refine (all_any 5 _).mono ?_
      rintro e y6 ⟨v6, rfl, o6, bb⟩
      obtain ⟨A6, n6, C6, rfl, r6⟩ := o6.row
      obtain rfl : n6 = 0 := r6.1
      have I6 := Lib.hid (I5.out.trans (bb.mono I5.out.size))
      clear bb o6 r6
      go_wp2_with fail
      go_ret
      exact ⟨rfl, I6.out⟩
    · have hbv : validP ⟨r.m, r.c, r.s, r.w, 3⟩ = false := bad_valid HRV.out 4
      have D1 := Lib.hid (fun w => valid_any ⟨r.m, r.c, r.s, r.w, 3⟩ w)
      have D2 := Lib.hid (fun w => bits_any ⟨r.m, r.c, r.s, r.w, 3⟩ w)
      have D3 := Lib.hid (fun w => symbol_any ⟨r.m, r.c, r.s, r.w, 3⟩ w)
      have D4 := Lib.hid (fun w => preamble_any ⟨r.m, r.c, r.s, r.w, 3⟩ w)
      simp only at D1 D2 D3 D4
      rw [hbv] at D1
      rw [bits_bad hbv] at D2
      rw [sym_bad hbv] at D3
      rw [pre_bad hbv] at D4
      clear hbv
      have TB := Lib.hid (show RtB (x1.alloc (.cells #[.int .i64 r.m, .int .i64 r.c, .int .i64 r.s, .int .i64 r.w, .int .i64 3] 27)) x1.heap.size ⟨r.m, r.c, r.s, r.w, 3⟩ from Blk.new x1 _ _)
      have I0 := Lib.hid (H1.out.alloc zH (.cells #[.int .i64 r.m, .int .i64 r.c, .int .i64 r.s, .int .i64 r.w, .int .i64 3] 27))
      go_wp2_with fail
      refine (D1.out _).mono ?_
      rintro e y1 ⟨rfl, bb⟩
      have I1 := Lib.hid (I0.out.trans (bb.mono I0.out.size))
      have T1 := Lib.hid (TB.out.below bb (Nat.le_refl _))
      clear bb
      obtain ⟨t0, t1, t2, t3, t4⟩ := T1.out.cells
      simp only at t0 t1 t2 t3 t4
      go_wp2_with fail
      clear t0 t1 t2 t3 t4
      refine (D2.out _).mono ?_
      rintro e y2 ⟨rfl, bb⟩
      have I2 := Lib.hid (I1.out.trans (bb.mono I1.out.size))
      have T2 := Lib.hid (T1.out.below bb (Nat.le_refl _))
      clear bb
      obtain ⟨t0, t1, t2, t3, t4⟩ := T2.out.cells
      simp only at t0 t1 t2 t3 t4
      go_wp2_with fail
      clear t0 t1 t2 t3 t4
      refine (D3.out _).mono ?_
      rintro e y3 ⟨rfl, bb⟩
      have I3 := Lib.hid (I2.out.trans (bb.mono I2.out.size))
      have T3 := Lib.hid (T2.out.below bb (Nat.le_refl _))
      clear bb
      obtain ⟨t0, t1, t2, t3, t4⟩ := T3.out.cells
      simp only at t0 t1 t2 t3 t4
      go_wp2_with fail
      clear t0 t1 t2 t3 t4
      refine (D4.out _).mono ?_
      rintro e y4 ⟨rfl, bb⟩
      have I4 := Lib.hid (I3.out.trans (bb.mono I3.out.size))
      have T4 := Lib.hid (T3.out.below bb (Nat.le_refl _))
      clear bb
      obtain ⟨t0, t1, t2, t3, t4⟩ := T4.out.cells
      simp only at t0 t1 t2 t3 t4
      go_wp2_with fail
      clear t0 t1 t2 t3 t4
      refine (valid_any ⟨0, 0, 0, 0, 0⟩ _).mono ?_
      rintro e y5 ⟨rfl, bb⟩
      rw [show validP ⟨0, 0, 0, 0, 0⟩ = false by decide]
      have I5 := Lib.hid (I4.out.trans (bb.mono I4.out.size))
      clear bb
      go_wp2_with fail
      refine (all_any 5 _).mono ?_
      rintro e y6 ⟨v6, rfl, o6, bb⟩
      obtain ⟨A6, n6, C6, rfl, r6⟩ := o6.row
      obtain rfl : n6 = 0 := r6.1
      have I6 := Lib.hid (I5.out.trans (bb.mono I5.out.size))
      clear bb o6 r6
      go_wp2_with fail
      go_ret
      exact ⟨rfl, I6.out⟩
  case true =>
    rw [hsv] at CV
    have hg := sym_gi HRV.out hsv
    have hb := bits_gi (r.g + 1) HRV.out hsv
    have hp := pre_gi (r.g + 1) HRV.out hsv
    have E1 := Lib.hid (fun w => symbol_any { r with g := r.g + 1 } w)
    have E2 := Lib.hid (fun w => symbol_any r w)
    have E3 := Lib.hid (fun w => bits_any { r with g := r.g + 1 } w)
    have E4 := Lib.hid (fun w => bits_any r w)
    have E5 := Lib.hid (fun w => preamble_any { r with g := r.g + 1 } w)
    have E6 := Lib.hid (fun w => preamble_any r w)
    rw [hb] at E3
    rw [hp] at E5
    simp only at E1 E3 E5
    generalize symP { r with g := r.g + 1 } = n1 at *
    generalize symP r = n2 at *
    generalize bitsP r = n3 at *
    generalize preP r = n4 at *
    clear hsv hb hp
    have d1 : decide (n2 ≤ n1) = false := decide_eq_false (by omega)
    have d2 : (n3 != n3) = false := by simp
    have d3 : (n4 != n4) = false := by simp
    have d4 : (n3 == n3) = true := by simp
    have d5 : (n4 == n4) = true := by simp
    clear hg
    have A0 := Lib.hid (show RtB W.drew w2.heap.size r from HA.out)
    go_region_held3 (fun y => y.cell? ⟨w2.heap.size, 0, none⟩ = some (.int .i64 r.m) ∧ y.cell? ⟨w2.heap.size, 1, none⟩ = some (.int .i64 r.c) ∧ y.cell? ⟨w2.heap.size, 2, none⟩ = some (.int .i64 r.s) ∧ y.cell? ⟨w2.heap.size, 3, none⟩ = some (.int .i64 r.w) ∧ y.cell? ⟨w2.heap.size, 4, none⟩ = some (.int .i64 r.g) ∧ y.cell? ⟨w2.heap.size + 1, 0, none⟩ = some (.int .i64 r.m) ∧ y.cell? ⟨w2.heap.size + 1, 1, none⟩ = some (.int .i64 r.c) ∧ y.cell? ⟨w2.heap.size + 1, 2, none⟩ = some (.int .i64 r.s) ∧ y.cell? ⟨w2.heap.size + 1, 3, none⟩ = some (.int .i64 r.w) ∧ y.cell? ⟨w2.heap.size + 1, 4, none⟩ = some (.int .i64 (r.g + 1)))
      (first | exact c0 | exact c1 | exact c2 | exact c3 | exact c4 | exact c5 | exact c6 | exact c7)
      (first
        | (go_at_call 9; (with_reducible refine (CV.out _).mono ?_); rintro e x1 ⟨rfl, b1⟩; have c1 := rk2 (a := r) (b := { r with g := r.g + 1 }) c0 b1 L0 M0; have L1 := Nat.lt_of_lt_of_le L0 b1.size; have M1 := Nat.lt_of_lt_of_le M0 b1.size; have H1 := Lib.hid (H0.out.trans (b1.mono H0.out.size)); have A1 := Lib.hid (A0.out.below b1 (Nat.le_refl _)); clear b1)
        | (go_at_call 12; (with_reducible refine (E1.out _).mono ?_); rintro e x2 ⟨rfl, b2⟩; have c2 := rk2 (a := r) (b := { r with g := r.g + 1 }) c1 b2 L1 M1; have L2 := Nat.lt_of_lt_of_le L1 b2.size; have M2 := Nat.lt_of_lt_of_le M1 b2.size; have H2 := Lib.hid (H1.out.trans (b2.mono H1.out.size)); have A2 := Lib.hid (A1.out.below b2 (Nat.le_refl _)); clear b2)
        | (go_at_call 12; (with_reducible refine (E2.out _).mono ?_); rintro e x3 ⟨rfl, b3⟩; have c3 := rk2 (a := r) (b := { r with g := r.g + 1 }) c2 b3 L2 M2; have L3 := Nat.lt_of_lt_of_le L2 b3.size; have M3 := Nat.lt_of_lt_of_le M2 b3.size; have H3 := Lib.hid (H2.out.trans (b3.mono H2.out.size)); have A3 := Lib.hid (A2.out.below b3 (Nat.le_refl _)); clear b3)
        | (go_at_call 13; (with_reducible refine (E3.out _).mono ?_); rintro e x4 ⟨rfl, b4⟩; have c4 := rk2 (a := r) (b := { r with g := r.g + 1 }) c3 b4 L3 M3; have L4 := Nat.lt_of_lt_of_le L3 b4.size; have M4 := Nat.lt_of_lt_of_le M3 b4.size; have H4 := Lib.hid (H3.out.trans (b4.mono H3.out.size)); have A4 := Lib.hid (A3.out.below b4 (Nat.le_refl _)); clear b4)
        | (go_at_call 13; (with_reducible refine (E4.out _).mono ?_); rintro e x5 ⟨rfl, b5⟩; have c5 := rk2 (a := r) (b := { r with g := r.g + 1 }) c4 b5 L4 M4; have L5 := Nat.lt_of_lt_of_le L4 b5.size; have M5 := Nat.lt_of_lt_of_le M4 b5.size; have H5 := Lib.hid (H4.out.trans (b5.mono H4.out.size)); have A5 := Lib.hid (A4.out.below b5 (Nat.le_refl _)); clear b5)
        | (go_at_call 14; (with_reducible refine (E5.out _).mono ?_); rintro e x6 ⟨rfl, b6⟩; have c6 := rk2 (a := r) (b := { r with g := r.g + 1 }) c5 b6 L5 M5; have L6 := Nat.lt_of_lt_of_le L5 b6.size; have M6 := Nat.lt_of_lt_of_le M5 b6.size; have H6 := Lib.hid (H5.out.trans (b6.mono H5.out.size)); have A6 := Lib.hid (A5.out.below b6 (Nat.le_refl _)); clear b6)
        | (go_at_call 14; (with_reducible refine (E6.out _).mono ?_); rintro e x7 ⟨rfl, b7⟩; have c7 := rk2 (a := r) (b := { r with g := r.g + 1 }) c6 b7 L6 M6; have L7 := Nat.lt_of_lt_of_le L6 b7.size; have M7 := Nat.lt_of_lt_of_le M6 b7.size; have H7 := Lib.hid (H6.out.trans (b7.mono H6.out.size)); have A7 := Lib.hid (A6.out.below b7 (Nat.le_refl _)); clear b7))
    clear c0 c1 c2 c3 c4 c5 c6 c7 e0 e1 e2 e3 e4 f0 f1 f2 f3 f4 HA HB BB CV
    have la := A7.out
    have za := Blk.lt la
    obtain ⟨e0, e1, e2, e3, e4⟩ := la.cells
    clear la
    have zH := H7.out.size
    go_wp2_with fail
    refine (number_any bad 5 _ (by omega) (by omega) k0 k1).mono ?_
    rintro e w3 ⟨rfl, rfl⟩
    rw [ey]
    clear ey k0 k1
    rcases (show y = 0 ∨ y = 1 ∨ y = 2 ∨ y = 3 ∨ y = 4 by omega) with rfl | rfl | rfl | rfl | rfl
    · have hbv : validP ⟨9, r.c, r.s, r.w, r.g⟩ = false := bad_valid HRV.out 0
      have D1 := Lib.hid (fun w => valid_any ⟨9, r.c, r.s, r.w, r.g⟩ w)
      have D2 := Lib.hid (fun w => bits_any ⟨9, r.c, r.s, r.w, r.g⟩ w)
      have D3 := Lib.hid (fun w => symbol_any ⟨9, r.c, r.s, r.w, r.g⟩ w)
      have D4 := Lib.hid (fun w => preamble_any ⟨9, r.c, r.s, r.w, r.g⟩ w)
      simp only at D1 D2 D3 D4
      rw [hbv] at D1
      rw [bits_bad hbv] at D2
      rw [sym_bad hbv] at D3
      rw [pre_bad hbv] at D4
      clear hbv
      have TB := Lib.hid (show RtB (x7.alloc (.cells #[.int .i64 9, .int .i64 r.c, .int .i64 r.s, .int .i64 r.w, .int .i64 r.g] 27)) x7.heap.size ⟨9, r.c, r.s, r.w, r.g⟩ from Blk.new x7 _ _)
      have I0 := Lib.hid (H7.out.alloc zH (.cells #[.int .i64 9, .int .i64 r.c, .int .i64 r.s, .int .i64 r.w, .int .i64 r.g] 27))
      go_wp2_with fail
      refine (D1.out _).mono ?_
      rintro e y1 ⟨rfl, bb⟩
      have I1 := Lib.hid (I0.out.trans (bb.mono I0.out.size))
      have T1 := Lib.hid (TB.out.below bb (Nat.le_refl _))
      clear bb
      obtain ⟨t0, t1, t2, t3, t4⟩ := T1.out.cells
      simp only at t0 t1 t2 t3 t4
      go_wp2_with fail
      clear t0 t1 t2 t3 t4
      refine (D2.out _).mono ?_
      rintro e y2 ⟨rfl, bb⟩
      have I2 := Lib.hid (I1.out.trans (bb.mono I1.out.size))
      have T2 := Lib.hid (T1.out.below bb (Nat.le_refl _))
      clear bb
      obtain ⟨t0, t1, t2, t3, t4⟩ := T2.out.cells
      simp only at t0 t1 t2 t3 t4
      go_wp2_with fail
      clear t0 t1 t2 t3 t4
      refine (D3.out _).mono ?_
      rintro e y3 ⟨rfl, bb⟩
      have I3 := Lib.hid (I2.out.trans (bb.mono I2.out.size))
      have T3 := Lib.hid (T2.out.below bb (Nat.le_refl _))
      clear bb
      obtain ⟨t0, t1, t2, t3, t4⟩ := T3.out.cells
      simp only at t0 t1 t2 t3 t4
      go_wp2_with fail
      clear t0 t1 t2 t3 t4
      refine (D4.out _).mono ?_
      rintro e y4 ⟨rfl, bb⟩
      have I4 := Lib.hid (I3.out.trans (bb.mono I3.out.size))
      have T4 := Lib.hid (T3.out.below bb (Nat.le_refl _))
      clear bb
      obtain ⟨t0, t1, t2, t3, t4⟩ := T4.out.cells
      simp only at t0 t1 t2 t3 t4
      go_wp2_with fail
      clear t0 t1 t2 t3 t4
      refine (valid_any ⟨0, 0, 0, 0, 0⟩ _).mono ?_
      rintro e y5 ⟨rfl, bb⟩
      rw [show validP ⟨0, 0, 0, 0, 0⟩ = false by decide]
      have I5 := Lib.hid (I4.out.trans (bb.mono I4.out.size))
      clear bb
      go_wp2_with fail
      refine (all_any 5 _).mono ?_
      rintro e y6 ⟨v6, rfl, o6, bb⟩
      obtain ⟨A6, n6, C6, rfl, r6⟩ := o6.row
      obtain rfl : n6 = 0 := r6.1
      have I6 := Lib.hid (I5.out.trans (bb.mono I5.out.size))
      clear bb o6 r6
      go_wp2_with fail
      go_ret
      exact ⟨rfl, I6.out⟩
    · have hbv : validP ⟨r.m, 12, r.s, r.w, r.g⟩ = false := bad_valid HRV.out 1
      have D1 := Lib.hid (fun w => valid_any ⟨r.m, 12, r.s, r.w, r.g⟩ w)
      have D2 := Lib.hid (fun w => bits_any ⟨r.m, 12, r.s, r.w, r.g⟩ w)
      have D3 := Lib.hid (fun w => symbol_any ⟨r.m, 12, r.s, r.w, r.g⟩ w)
      have D4 := Lib.hid (fun w => preamble_any ⟨r.m, 12, r.s, r.w, r.g⟩ w)
      simp only at D1 D2 D3 D4
      rw [hbv] at D1
      rw [bits_bad hbv] at D2
      rw [sym_bad hbv] at D3
      rw [pre_bad hbv] at D4
      clear hbv
      have TB := Lib.hid (show RtB (x7.alloc (.cells #[.int .i64 r.m, .int .i64 12, .int .i64 r.s, .int .i64 r.w, .int .i64 r.g] 27)) x7.heap.size ⟨r.m, 12, r.s, r.w, r.g⟩ from Blk.new x7 _ _)
      have I0 := Lib.hid (H7.out.alloc zH (.cells #[.int .i64 r.m, .int .i64 12, .int .i64 r.s, .int .i64 r.w, .int .i64 r.g] 27))
      go_wp2_with fail
      refine (D1.out _).mono ?_
      rintro e y1 ⟨rfl, bb⟩
      have I1 := Lib.hid (I0.out.trans (bb.mono I0.out.size))
      have T1 := Lib.hid (TB.out.below bb (Nat.le_refl _))
      clear bb
      obtain ⟨t0, t1, t2, t3, t4⟩ := T1.out.cells
      simp only at t0 t1 t2 t3 t4
      go_wp2_with fail
      clear t0 t1 t2 t3 t4
      refine (D2.out _).mono ?_
      rintro e y2 ⟨rfl, bb⟩
      have I2 := Lib.hid (I1.out.trans (bb.mono I1.out.size))
      have T2 := Lib.hid (T1.out.below bb (Nat.le_refl _))
      clear bb
      obtain ⟨t0, t1, t2, t3, t4⟩ := T2.out.cells
      simp only at t0 t1 t2 t3 t4
      go_wp2_with fail
      clear t0 t1 t2 t3 t4
      refine (D3.out _).mono ?_
      rintro e y3 ⟨rfl, bb⟩
      have I3 := Lib.hid (I2.out.trans (bb.mono I2.out.size))
      have T3 := Lib.hid (T2.out.below bb (Nat.le_refl _))
      clear bb
      obtain ⟨t0, t1, t2, t3, t4⟩ := T3.out.cells
      simp only at t0 t1 t2 t3 t4
      go_wp2_with fail
      clear t0 t1 t2 t3 t4
      refine (D4.out _).mono ?_
      rintro e y4 ⟨rfl, bb⟩
      have I4 := Lib.hid (I3.out.trans (bb.mono I3.out.size))
      have T4 := Lib.hid (T3.out.below bb (Nat.le_refl _))
      clear bb
      obtain ⟨t0, t1, t2, t3, t4⟩ := T4.out.cells
      simp only at t0 t1 t2 t3 t4
      go_wp2_with fail
      clear t0 t1 t2 t3 t4
      refine (valid_any ⟨0, 0, 0, 0, 0⟩ _).mono ?_
      rintro e y5 ⟨rfl, bb⟩
      rw [show validP ⟨0, 0, 0, 0, 0⟩ = false by decide]
      have I5 := Lib.hid (I4.out.trans (bb.mono I4.out.size))
      clear bb
      go_wp2_with fail
      refine (all_any 5 _).mono ?_
      rintro e y6 ⟨v6, rfl, o6, bb⟩
      obtain ⟨A6, n6, C6, rfl, r6⟩ := o6.row
      obtain rfl : n6 = 0 := r6.1
      have I6 := Lib.hid (I5.out.trans (bb.mono I5.out.size))
      clear bb o6 r6
      go_wp2_with fail
      go_ret
      exact ⟨rfl, I6.out⟩
    · have hbv : validP ⟨r.m, r.c, 9, r.w, r.g⟩ = false := bad_valid HRV.out 2
      have D1 := Lib.hid (fun w => valid_any ⟨r.m, r.c, 9, r.w, r.g⟩ w)
      have D2 := Lib.hid (fun w => bits_any ⟨r.m, r.c, 9, r.w, r.g⟩ w)
      have D3 := Lib.hid (fun w => symbol_any ⟨r.m, r.c, 9, r.w, r.g⟩ w)
      have D4 := Lib.hid (fun w => preamble_any ⟨r.m, r.c, 9, r.w, r.g⟩ w)
      simp only at D1 D2 D3 D4
      rw [hbv] at D1
      rw [bits_bad hbv] at D2
      rw [sym_bad hbv] at D3
      rw [pre_bad hbv] at D4
      clear hbv
      have TB := Lib.hid (show RtB (x7.alloc (.cells #[.int .i64 r.m, .int .i64 r.c, .int .i64 9, .int .i64 r.w, .int .i64 r.g] 27)) x7.heap.size ⟨r.m, r.c, 9, r.w, r.g⟩ from Blk.new x7 _ _)
      have I0 := Lib.hid (H7.out.alloc zH (.cells #[.int .i64 r.m, .int .i64 r.c, .int .i64 9, .int .i64 r.w, .int .i64 r.g] 27))
      go_wp2_with fail
      refine (D1.out _).mono ?_
      rintro e y1 ⟨rfl, bb⟩
      have I1 := Lib.hid (I0.out.trans (bb.mono I0.out.size))
      have T1 := Lib.hid (TB.out.below bb (Nat.le_refl _))
      clear bb
      obtain ⟨t0, t1, t2, t3, t4⟩ := T1.out.cells
      simp only at t0 t1 t2 t3 t4
      go_wp2_with fail
      clear t0 t1 t2 t3 t4
      refine (D2.out _).mono ?_
      rintro e y2 ⟨rfl, bb⟩
      have I2 := Lib.hid (I1.out.trans (bb.mono I1.out.size))
      have T2 := Lib.hid (T1.out.below bb (Nat.le_refl _))
      clear bb
      obtain ⟨t0, t1, t2, t3, t4⟩ := T2.out.cells
      simp only at t0 t1 t2 t3 t4
      go_wp2_with fail
      clear t0 t1 t2 t3 t4
      refine (D3.out _).mono ?_
      rintro e y3 ⟨rfl, bb⟩
      have I3 := Lib.hid (I2.out.trans (bb.mono I2.out.size))
      have T3 := Lib.hid (T2.out.below bb (Nat.le_refl _))
      clear bb
      obtain ⟨t0, t1, t2, t3, t4⟩ := T3.out.cells
      simp only at t0 t1 t2 t3 t4
      go_wp2_with fail
      clear t0 t1 t2 t3 t4
      refine (D4.out _).mono ?_
      rintro e y4 ⟨rfl, bb⟩
      have I4 := Lib.hid (I3.out.trans (bb.mono I3.out.size))
      have T4 := Lib.hid (T3.out.below bb (Nat.le_refl _))
      clear bb
      obtain ⟨t0, t1, t2, t3, t4⟩ := T4.out.cells
      simp only at t0 t1 t2 t3 t4
      go_wp2_with fail
      clear t0 t1 t2 t3 t4
      refine (valid_any ⟨0, 0, 0, 0, 0⟩ _).mono ?_
      rintro e y5 ⟨rfl, bb⟩
      rw [show validP ⟨0, 0, 0, 0, 0⟩ = false by decide]
      have I5 := Lib.hid (I4.out.trans (bb.mono I4.out.size))
      clear bb
      go_wp2_with fail
      refine (all_any 5 _).mono ?_
      rintro e y6 ⟨v6, rfl, o6, bb⟩
      obtain ⟨A6, n6, C6, rfl, r6⟩ := o6.row
      obtain rfl : n6 = 0 := r6.1
      have I6 := Lib.hid (I5.out.trans (bb.mono I5.out.size))
      clear bb o6 r6
      go_wp2_with fail
      go_ret
      exact ⟨rfl, I6.out⟩
    · have hbv : validP ⟨r.m, r.c, r.s, 25, r.g⟩ = false := bad_valid HRV.out 3
      have D1 := Lib.hid (fun w => valid_any ⟨r.m, r.c, r.s, 25, r.g⟩ w)
      have D2 := Lib.hid (fun w => bits_any ⟨r.m, r.c, r.s, 25, r.g⟩ w)
      have D3 := Lib.hid (fun w => symbol_any ⟨r.m, r.c, r.s, 25, r.g⟩ w)
      have D4 := Lib.hid (fun w => preamble_any ⟨r.m, r.c, r.s, 25, r.g⟩ w)
      simp only at D1 D2 D3 D4
      rw [hbv] at D1
      rw [bits_bad hbv] at D2
      rw [sym_bad hbv] at D3
      rw [pre_bad hbv] at D4
      clear hbv
      have TB := Lib.hid (show RtB (x7.alloc (.cells #[.int .i64 r.m, .int .i64 r.c, .int .i64 r.s, .int .i64 25, .int .i64 r.g] 27)) x7.heap.size ⟨r.m, r.c, r.s, 25, r.g⟩ from Blk.new x7 _ _)
      have I0 := Lib.hid (H7.out.alloc zH (.cells #[.int .i64 r.m, .int .i64 r.c, .int .i64 r.s, .int .i64 25, .int .i64 r.g] 27))
      go_wp2_with fail
      refine (D1.out _).mono ?_
      rintro e y1 ⟨rfl, bb⟩
      have I1 := Lib.hid (I0.out.trans (bb.mono I0.out.size))
      have T1 := Lib.hid (TB.out.below bb (Nat.le_refl _))
      clear bb
      obtain ⟨t0, t1, t2, t3, t4⟩ := T1.out.cells
      simp only at t0 t1 t2 t3 t4
      go_wp2_with fail
      clear t0 t1 t2 t3 t4
      refine (D2.out _).mono ?_
      rintro e y2 ⟨rfl, bb⟩
      have I2 := Lib.hid (I1.out.trans (bb.mono I1.out.size))
      have T2 := Lib.hid (T1.out.below bb (Nat.le_refl _))
      clear bb
      obtain ⟨t0, t1, t2, t3, t4⟩ := T2.out.cells
      simp only at t0 t1 t2 t3 t4
      go_wp2_with fail
      clear t0 t1 t2 t3 t4
      refine (D3.out _).mono ?_
      rintro e y3 ⟨rfl, bb⟩
      have I3 := Lib.hid (I2.out.trans (bb.mono I2.out.size))
      have T3 := Lib.hid (T2.out.below bb (Nat.le_refl _))
      clear bb
      obtain ⟨t0, t1, t2, t3, t4⟩ := T3.out.cells
      simp only at t0 t1 t2 t3 t4
      go_wp2_with fail
      clear t0 t1 t2 t3 t4
      refine (D4.out _).mono ?_
      rintro e y4 ⟨rfl, bb⟩
      have I4 := Lib.hid (I3.out.trans (bb.mono I3.out.size))
      have T4 := Lib.hid (T3.out.below bb (Nat.le_refl _))
      clear bb
      obtain ⟨t0, t1, t2, t3, t4⟩ := T4.out.cells
      simp only at t0 t1 t2 t3 t4
      go_wp2_with fail
      clear t0 t1 t2 t3 t4
      refine (valid_any ⟨0, 0, 0, 0, 0⟩ _).mono ?_
      rintro e y5 ⟨rfl, bb⟩
      rw [show validP ⟨0, 0, 0, 0, 0⟩ = false by decide]
      have I5 := Lib.hid (I4.out.trans (bb.mono I4.out.size))
      clear bb
      go_wp2_with fail
      refine (all_any 5 _).mono ?_
      rintro e y6 ⟨v6, rfl, o6, bb⟩
      obtain ⟨A6, n6, C6, rfl, r6⟩ := o6.row
      obtain rfl : n6 = 0 := r6.1
      have I6 := Lib.hid (I5.out.trans (bb.mono I5.out.size))
      clear bb o6 r6
      go_wp2_with fail
      go_ret
      exact ⟨rfl, I6.out⟩
    · have hbv : validP ⟨r.m, r.c, r.s, r.w, 3⟩ = false := bad_valid HRV.out 4
      have D1 := Lib.hid (fun w => valid_any ⟨r.m, r.c, r.s, r.w, 3⟩ w)
      have D2 := Lib.hid (fun w => bits_any ⟨r.m, r.c, r.s, r.w, 3⟩ w)
      have D3 := Lib.hid (fun w => symbol_any ⟨r.m, r.c, r.s, r.w, 3⟩ w)
      have D4 := Lib.hid (fun w => preamble_any ⟨r.m, r.c, r.s, r.w, 3⟩ w)
      simp only at D1 D2 D3 D4
      rw [hbv] at D1
      rw [bits_bad hbv] at D2
      rw [sym_bad hbv] at D3
      rw [pre_bad hbv] at D4
      clear hbv
      have TB := Lib.hid (show RtB (x7.alloc (.cells #[.int .i64 r.m, .int .i64 r.c, .int .i64 r.s, .int .i64 r.w, .int .i64 3] 27)) x7.heap.size ⟨r.m, r.c, r.s, r.w, 3⟩ from Blk.new x7 _ _)
      have I0 := Lib.hid (H7.out.alloc zH (.cells #[.int .i64 r.m, .int .i64 r.c, .int .i64 r.s, .int .i64 r.w, .int .i64 3] 27))
      go_wp2_with fail
      refine (D1.out _).mono ?_
      rintro e y1 ⟨rfl, bb⟩
      have I1 := Lib.hid (I0.out.trans (bb.mono I0.out.size))
      have T1 := Lib.hid (TB.out.below bb (Nat.le_refl _))
      clear bb
      obtain ⟨t0, t1, t2, t3, t4⟩ := T1.out.cells
      simp only at t0 t1 t2 t3 t4
      go_wp2_with fail
      clear t0 t1 t2 t3 t4
      refine (D2.out _).mono ?_
      rintro e y2 ⟨rfl, bb⟩
      have I2 := Lib.hid (I1.out.trans (bb.mono I1.out.size))
      have T2 := Lib.hid (T1.out.below bb (Nat.le_refl _))
      clear bb
      obtain ⟨t0, t1, t2, t3, t4⟩ := T2.out.cells
      simp only at t0 t1 t2 t3 t4
      go_wp2_with fail
      clear t0 t1 t2 t3 t4
      refine (D3.out _).mono ?_
      rintro e y3 ⟨rfl, bb⟩
      have I3 := Lib.hid (I2.out.trans (bb.mono I2.out.size))
      have T3 := Lib.hid (T2.out.below bb (Nat.le_refl _))
      clear bb
      obtain ⟨t0, t1, t2, t3, t4⟩ := T3.out.cells
      simp only at t0 t1 t2 t3 t4
      go_wp2_with fail
      clear t0 t1 t2 t3 t4
      refine (D4.out _).mono ?_
      rintro e y4 ⟨rfl, bb⟩
      have I4 := Lib.hid (I3.out.trans (bb.mono I3.out.size))
      have T4 := Lib.hid (T3.out.below bb (Nat.le_refl _))
      clear bb
      obtain ⟨t0, t1, t2, t3, t4⟩ := T4.out.cells
      simp only at t0 t1 t2 t3 t4
      go_wp2_with fail
      clear t0 t1 t2 t3 t4
      refine (valid_any ⟨0, 0, 0, 0, 0⟩ _).mono ?_
      rintro e y5 ⟨rfl, bb⟩
      rw [show validP ⟨0, 0, 0, 0, 0⟩ = false by decide]
      have I5 := Lib.hid (I4.out.trans (bb.mono I4.out.size))
      clear bb
      go_wp2_with fail
      refine (all_any 5 _).mono ?_
      rintro e y6 ⟨v6, rfl, o6, bb⟩
      obtain ⟨A6, n6, C6, rfl, r6⟩ := o6.row
      obtain rfl : n6 = 0 := r6.1
      have I6 := Lib.hid (I5.out.trans (bb.mono I5.out.size))
      clear bb o6 r6
      go_wp2_with fail
      go_ret
      exact ⟨rfl, I6.out⟩
end Go.Proofs.Ytdmgnocpempfnaa
