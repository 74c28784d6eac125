/-
  AirGrows: the walk.
-/
import Derived.Test.YticgdoeamabklaaAirFirst
namespace Go.Proofs.Yticgdoeamabklaa
open Go.ChangeShapes Go.WideShapes Go.ChangeAt Go.RowKit
set_option linter.unusedVariables false

set_option maxHeartbeats 4000000 in
theorem airGrows_walk (w : World) (mode : Int) (hmode : (Lit.int .i64 mode).wf = true) (i : Int) (hi : (Lit.int .i64 i).wf = true) (a : Int) (ha : (Lit.int .i64 a).wf = true) (b : Int) (hb : (Lit.int .i64 b).wf = true) :
    Calls Try.prog 6 #[.int .i64 mode, .int .i64 i, .int .i64 a, .int .i64 b] w fun e w' => e = .returned (.bool true) ∧ Below w.heap.size w w' := by
  obtain ⟨mode0, mode1⟩ := bounds_i64 hmode
  obtain ⟨i0, i1⟩ := bounds_i64 hi
  obtain ⟨a0, a1⟩ := bounds_i64 ha
  obtain ⟨b0, b1⟩ := bounds_i64 hb
  clear hmode hi ha hb
  obtain ⟨M, hM, eM'⟩ := number_nat mode 4 (by omega)
  have eM : mode % 4 = (M : Int) := eM'
  clear eM'
  go_enter Try.func6, Try.ntmps6
  go_wp2_with fail
  refine (afirst_any _).mono ?_
  rintro e w1 ⟨rfl, hb1⟩
  have B1 := Lib.hid hb1
  clear hb1
  go_wp2_with fail
  refine (number_any mode 4 _ (by omega) (by omega) mode0 mode1).mono ?_
  rintro e w2 ⟨rfl, rfl⟩
  rw [eM]
  clear eM mode0 mode1
  go_wp2_with fail
  refine (all_any ((M : Int) + 1) _).mono ?_
  rintro e w2 ⟨v, rfl, ho, hb2⟩
  obtain ⟨A, n, C, rfl, hr⟩ := ho.row
  have HB2 := Lib.hid (B1.out.trans (hb2.mono B1.out.size))
  obtain ⟨hp1, hp2⟩ := all_pos (m := (M : Int) + 1) (by omega) (by omega)
  have hn8 : 8 ≤ n := by rw [hr.1]; exact hp1
  have hn9 : n ≤ 1152 := by rw [hr.1]; exact hp2
  have HR := Lib.hid hr
  clear hb2 ho hr hp1 hp2 B1
  have z2 := HB2.out.size
  obtain ⟨x, hx, ex⟩ := number_nat i n (by omega)
  obtain ⟨r, hr⟩ : ∃ r, (allP ((M : Int) + 1))[x]? = some r := ⟨_, List.getElem?_eq_getElem (by rw [← HR.out.1]; exact hx)⟩
  obtain ⟨rm, rv⟩ := all_mem (List.mem_of_getElem? hr)
  obtain ⟨bk0, of0, hA0, l0, e0, e1, e2, e3, e4⟩ := HR.out.at_ hr
  subst hA0
  have HrV := Lib.hid rv
  have HrM := Lib.hid rm
  clear hr rv rm
  go_wp2_with fail
  refine (number_any i n _ (by omega) (by omega) i0 i1).mono ?_
  rintro e w3 ⟨rfl, rfl⟩
  rw [ex]
  clear ex i0 i1
  have HA := Lib.hid (RtB.new w2 r)
  have BB := Lib.hid (show Below w.heap.size w (w2.alloc (.cells #[.int .i64 r.m, .int .i64 r.c, .int .i64 r.s, .int .i64 r.w, .int .i64 r.g] 26)) from HB2.out.alloc z2 _)
  clear HB2
  go_wp2_with fail
  clear e0 e1 e2 e3 e4
  obtain ⟨p, hp, ep'⟩ := number_nat a 65536 (by omega)
  have ep : a % 65536 = (p : Int) := ep'
  clear ep'
  obtain ⟨q, hq, eq'⟩ := number_nat b 65536 (by omega)
  have eq : b % 65536 = (q : Int) := eq'
  clear eq'
  have P1 := Lib.hid (ok_of HrV.out (show (0 : Int) ≤ (p : Int) by omega) (by omega))
  have P2 := Lib.hid (ok_of HrV.out (show (0 : Int) ≤ (q : Int) by omega) (by omega))
  have P3 := Lib.hid (ok_of HrV.out (show (0 : Int) ≤ (p : Int) + (q : Int) by omega) (by omega))
  obtain ⟨x0, x1⟩ := pp_bounds P1.out
  obtain ⟨y0, y1⟩ := pp_bounds P2.out
  obtain ⟨z0, z1⟩ := pp_bounds P3.out
  have L1 := pp_mono P1.out P3.out (show (p : Int) ≤ (p : Int) + (q : Int) by omega)
  have L2 := pp_mono P2.out P3.out (show (q : Int) ≤ (p : Int) + (q : Int) by omega)
  have L3 := pp_add P1.out P2.out P3.out
  have L4 := Lib.hid (fun h : (p : Int) ≤ (q : Int) => pp_mono P1.out P2.out h)
  have C1 := Lib.hid (fun w => ppdu_any r p w (by omega) (by omega))
  have C2 := Lib.hid (fun w => ppdu_any r q w (by omega) (by omega))
  have C3 := Lib.hid (fun w => ppdu_any r ((p : Int) + (q : Int)) w (by omega) (by omega))
  have C4 := Lib.hid (fun w => total_any r p w (by omega) (by omega))
  rw [tot_eq P1.out] at C4
  generalize ppP r p = X at *
  generalize ppP r q = Y at *
  generalize ppP r ((p : Int) + (q : Int)) = Z at *
  refine (number_any a 65536 _ (by omega) (by omega) a0 a1).mono ?_
  rintro e w3 ⟨rfl, rfl⟩
  rw [ep]
  clear ep a0 a1
  go_wp2_with fail
  refine (number_any b 65536 _ (by omega) (by omega) b0 b1).mono ?_
  rintro e w3 ⟨rfl, rfl⟩
  rw [eq]
  clear eq b0 b1
  obtain ⟨e0, e1, e2, e3, e4⟩ := HA.out.cells
  go_wp2_with fail
  refine (C1.out _).mono ?_
  rintro e w4 ⟨rfl, hb⟩
  have HA4 := Lib.hid (HA.out.below hb (Nat.le_refl _))
  have BB4 := Lib.hid (BB.out.trans (hb.mono BB.out.size))
  clear hb HA BB
  obtain ⟨e0, e1, e2, e3, e4⟩ := HA4.out.cells
  go_wp2_with fail
  refine (C2.out _).mono ?_
  rintro e w5 ⟨rfl, hb⟩
  have HA5 := Lib.hid (HA4.out.below hb (Nat.le_refl _))
  have BB5 := Lib.hid (BB4.out.trans (hb.mono BB4.out.size))
  clear hb HA4 BB4
  obtain ⟨e0, e1, e2, e3, e4⟩ := HA5.out.cells
  go_wp2_with fail
  refine (C3.out _).mono ?_
  rintro e w6 ⟨rfl, hb⟩
  have HA6 := Lib.hid (HA5.out.below hb (Nat.le_refl _))
  have BB6 := Lib.hid (BB5.out.trans (hb.mono BB5.out.size))
  clear hb HA5 BB5
  obtain ⟨e0, e1, e2, e3, e4⟩ := HA6.out.cells
  have d1 : decide (0 < X) = true := decide_eq_true x0
  by_cases hpq : (q : Int) < (p : Int)
  case pos =>
    go_wp2_with fail
    refine (C4.out _).mono ?_
    rintro e w7 ⟨rfl, hb⟩
    have HA7 := Lib.hid (HA6.out.below hb (Nat.le_refl _))
    have BB7 := Lib.hid (BB6.out.trans (hb.mono BB6.out.size))
    clear hb HA6 BB6
    obtain ⟨e0, e1, e2, e3, e4⟩ := HA7.out.cells
    go_wp2_with fail
    refine (answer_any _).mono ?_
    rintro e w8 ⟨rfl, hb⟩
    have HA8 := Lib.hid (HA7.out.below hb (Nat.le_refl _))
    have BB8 := Lib.hid (BB7.out.trans (hb.mono BB7.out.size))
    clear hb HA7 BB7
    obtain ⟨e0, e1, e2, e3, e4⟩ := HA8.out.cells
    go_wp2_with fail
    go_ret
    exact ⟨rfl, BB8.out⟩
  case neg =>
    have L5 := L4.out (by omega)
    go_wp2_with fail
    refine (C4.out _).mono ?_
    rintro e w7 ⟨rfl, hb⟩
    have HA7 := Lib.hid (HA6.out.below hb (Nat.le_refl _))
    have BB7 := Lib.hid (BB6.out.trans (hb.mono BB6.out.size))
    clear hb HA6 BB6
    obtain ⟨e0, e1, e2, e3, e4⟩ := HA7.out.cells
    go_wp2_with fail
    refine (answer_any _).mono ?_
    rintro e w8 ⟨rfl, hb⟩
    have HA8 := Lib.hid (HA7.out.below hb (Nat.le_refl _))
    have BB8 := Lib.hid (BB7.out.trans (hb.mono BB7.out.size))
    clear hb HA7 BB7
    obtain ⟨e0, e1, e2, e3, e4⟩ := HA8.out.cells
    go_wp2_with fail
    go_ret
    exact ⟨rfl, BB8.out⟩
end Go.Proofs.Yticgdoeamabklaa
