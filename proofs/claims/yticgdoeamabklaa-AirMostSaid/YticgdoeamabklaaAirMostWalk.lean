/-
  AirMost: the walk.
-/
import Derived.Test.YticgdoeamabklaaAirFirst
namespace Go.Proofs.Yticgdoeamabklaa
open Go.ChangeShapes Go.WideShapes Go.ChangeAt Go.RowKit
set_option linter.unusedVariables false

set_option maxHeartbeats 4000000 in
theorem airMost_walk (w : World) (mode : Int) (hmode : (Lit.int .i64 mode).wf = true) (i : Int) (hi : (Lit.int .i64 i).wf = true) (t : Int) (ht : (Lit.int .i64 t).wf = true) (l : Int) (hl : (Lit.int .i64 l).wf = true) :
    Calls Try.prog 7 #[.int .i64 mode, .int .i64 i, .int .i64 t, .int .i64 l] w fun e w' => e = .returned (.bool true) ∧ Below w.heap.size w w' := by
  obtain ⟨mode0, mode1⟩ := bounds_i64 hmode
  obtain ⟨i0, i1⟩ := bounds_i64 hi
  obtain ⟨t0, t1⟩ := bounds_i64 ht
  obtain ⟨l0, l1⟩ := bounds_i64 hl
  clear hmode hi ht hl
  obtain ⟨M, hM, eM'⟩ := number_nat mode 4 (by omega)
  have eM : mode % 4 = (M : Int) := eM'
  clear eM'
  go_enter Try.func7, Try.ntmps7
  go_wp2_with fail
  refine (afirst_any _).mono ?_
  rintro e w1 ⟨rfl, hb1⟩
  have B1 := Lib.hid hb1
  clear hb1
  go_wp2_with fail
  refine (number_any mode 4 _ (by omega) (by omega) mode0 mode1).mono ?_
  rintro e w2 ⟨rfl, rfl⟩
  rw [eM]
  clear eM mode0 mode1
  go_wp2_with fail
  refine (all_any ((M : Int) + 1) _).mono ?_
  rintro e w2 ⟨v, rfl, ho, hb2⟩
  obtain ⟨A, n, C, rfl, hr⟩ := ho.row
  have HB2 := Lib.hid (B1.out.trans (hb2.mono B1.out.size))
  obtain ⟨hp1, hp2⟩ := all_pos (m := (M : Int) + 1) (by omega) (by omega)
  have hn8 : 8 ≤ n := by rw [hr.1]; exact hp1
  have hn9 : n ≤ 1152 := by rw [hr.1]; exact hp2
  have HR := Lib.hid hr
  clear hb2 ho hr hp1 hp2 B1
  have z2 := HB2.out.size
  obtain ⟨x, hx, ex⟩ := number_nat i n (by omega)
  obtain ⟨r, hr⟩ : ∃ r, (allP ((M : Int) + 1))[x]? = some r := ⟨_, List.getElem?_eq_getElem (by rw [← HR.out.1]; exact hx)⟩
  obtain ⟨rm, rv⟩ := all_mem (List.mem_of_getElem? hr)
  obtain ⟨bk0, of0, hA0, bl0, e0, e1, e2, e3, e4⟩ := HR.out.at_ hr
  subst hA0
  have HrV := Lib.hid rv
  have HrM := Lib.hid rm
  clear hr rv rm
  go_wp2_with fail
  refine (number_any i n _ (by omega) (by omega) i0 i1).mono ?_
  rintro e w3 ⟨rfl, rfl⟩
  rw [ex]
  clear ex i0 i1
  have HA := Lib.hid (RtB.new w2 r)
  have BB := Lib.hid (show Below w.heap.size w (w2.alloc (.cells #[.int .i64 r.m, .int .i64 r.c, .int .i64 r.s, .int .i64 r.w, .int .i64 r.g] 26)) from HB2.out.alloc z2 _)
  clear HB2
  by_cases q1 : t < 0
  case pos =>
    go_wp2_with fail
    go_ret
    exact ⟨rfl, BB.out⟩
  case neg =>
  have q1' : decide (t < 0) = false := decide_eq_false q1
  by_cases q2 : 1099511627776 < t
  case pos =>
    have q2' : decide (1099511627776 < t) = true := decide_eq_true q2
    go_wp2_with fail
    go_ret
    exact ⟨rfl, BB.out⟩
  case neg =>
  by_cases q3 : l < 0
  case pos =>
    have q2' : decide (1099511627776 < t) = false := decide_eq_false q2
    have q3' : decide (l < 0) = true := decide_eq_true q3
    go_wp2_with fail
    go_ret
    exact ⟨rfl, BB.out⟩
  case neg =>
  by_cases q4 : 1099511627776 < l
  case pos =>
    have q2' : decide (1099511627776 < t) = false := decide_eq_false q2
    have q3' : decide (l < 0) = false := decide_eq_false q3
    have q4' : decide (1099511627776 < l) = true := decide_eq_true q4
    go_wp2_with fail
    go_ret
    exact ⟨rfl, BB.out⟩
  case neg =>
  have C1 := Lib.hid (fun w => most_any r t w t0 t1)
  have C2 := Lib.hid (fun w => most_any r (t - l) w (by omega) (by omega))
  have q2' : decide (1099511627776 < t) = false := decide_eq_false q2
  have q3' : decide (l < 0) = false := decide_eq_false q3
  have q4' : decide (1099511627776 < l) = false := decide_eq_false q4
  have hmm := most_mono (r := r) (show t - l ≤ t by omega)
  have HV0 := Lib.hid (ok_of HrV.out (show (0 : Int) ≤ 0 by omega) (show (0 : Int) ≤ 1048576 by omega))
  rcases hc : canP r t
  case false =>
    have hc2 : canP r (t - l) = false := by
      rcases h : canP r (t - l)
      · rfl
      · rw [can_mono (show t - l ≤ t by omega) h] at hc; cases hc
    have hx := can_no hc HrV.out
    rw [most_not hc] at C1
    rw [most_not hc2] at C2
    have C3 := Lib.hid (fun w => ppdu_any r 0 w (by omega) (by omega))
    clear hc hc2 hmm
    generalize ppP r 0 = X at *
    go_wp2_with fail
    refine (C1.out _).mono ?_
    rintro e w4 ⟨rfl, hb⟩
    have HA4 := Lib.hid (HA.out.below hb (Nat.le_refl _))
    have BB4 := Lib.hid (BB.out.trans (hb.mono BB.out.size))
    clear hb HA BB
    obtain ⟨e0, e1, e2, e3, e4⟩ := HA4.out.cells
    go_wp2_with fail
    refine (C2.out _).mono ?_
    rintro e w5 ⟨rfl, hb⟩
    have HA5 := Lib.hid (HA4.out.below hb (Nat.le_refl _))
    have BB5 := Lib.hid (BB4.out.trans (hb.mono BB4.out.size))
    clear hb HA4 BB4
    obtain ⟨e0, e1, e2, e3, e4⟩ := HA5.out.cells
    go_wp2_with fail
    refine (C3.out _).mono ?_
    rintro e w6 ⟨rfl, hb⟩
    have HA6 := Lib.hid (HA5.out.below hb (Nat.le_refl _))
    have BB6 := Lib.hid (BB5.out.trans (hb.mono BB5.out.size))
    clear hb HA5 BB5
    obtain ⟨e0, e1, e2, e3, e4⟩ := HA6.out.cells
    go_wp2_with fail
    go_ret
    exact ⟨rfl, BB6.out⟩
  case true =>
    have HC := Lib.hid hc
    obtain ⟨m0, m1⟩ := most_range hc
    have HI := Lib.hid (fun (n : Int) (h0 : 0 ≤ n) (h1 : n ≤ 1048576) => most_iff HC.out h0 h1)
    clear hc
    generalize mostP r t = N at *
    generalize mostP r (t - l) = K at *
    have hx := (HI.out N m0 m1).2 (Int.le_refl _)
    have C3 := Lib.hid (fun w => ppdu_any r N w (by omega) (by omega))
    have C4 := Lib.hid (fun w => ppdu_any r (N + 1) w (by omega) (by omega))
    generalize hX : ppP r N = X at *
    clear hX
    have d1 : decide (K ≤ N) = true := decide_eq_true hmm
    have d2 : decide (X ≤ t) = true := decide_eq_true hx
    go_wp2_with fail
    refine (C1.out _).mono ?_
    rintro e w4 ⟨rfl, hb⟩
    have HA4 := Lib.hid (HA.out.below hb (Nat.le_refl _))
    have BB4 := Lib.hid (BB.out.trans (hb.mono BB.out.size))
    clear hb HA BB
    obtain ⟨e0, e1, e2, e3, e4⟩ := HA4.out.cells
    go_wp2_with fail
    refine (C2.out _).mono ?_
    rintro e w5 ⟨rfl, hb⟩
    have HA5 := Lib.hid (HA4.out.below hb (Nat.le_refl _))
    have BB5 := Lib.hid (BB4.out.trans (hb.mono BB4.out.size))
    clear hb HA4 BB4
    obtain ⟨e0, e1, e2, e3, e4⟩ := HA5.out.cells
    go_wp2_with fail
    refine (C3.out _).mono ?_
    rintro e w6 ⟨rfl, hb⟩
    have HA6 := Lib.hid (HA5.out.below hb (Nat.le_refl _))
    have BB6 := Lib.hid (BB5.out.trans (hb.mono BB5.out.size))
    clear hb HA5 BB5
    obtain ⟨e0, e1, e2, e3, e4⟩ := HA6.out.cells
    by_cases hN : N = 1048576
    case pos =>
      have d3 : (N == 1048576) = true := by simp [hN]
      go_wp2_with fail
      go_ret
      exact ⟨rfl, BB6.out⟩
    case neg =>
      have d3 : (N == 1048576) = false := by simp [hN]
      have hy : t < ppP r (N + 1) := by
        rcases (show t < ppP r (N + 1) ∨ ppP r (N + 1) ≤ t by omega) with h | h
        · exact h
        · have := (HI.out (N + 1) (by omega) (by omega)).1 h; omega
      generalize ppP r (N + 1) = Y at *
      have d4 : decide (t < Y) = true := decide_eq_true hy
      go_wp2_with fail
      refine (C4.out _).mono ?_
      rintro e w7 ⟨rfl, hb⟩
      have HA7 := Lib.hid (HA6.out.below hb (Nat.le_refl _))
      have BB7 := Lib.hid (BB6.out.trans (hb.mono BB6.out.size))
      clear hb HA6 BB6
      obtain ⟨e0, e1, e2, e3, e4⟩ := HA7.out.cells
      go_wp2_with fail
      go_ret
      exact ⟨rfl, BB7.out⟩
end Go.Proofs.Yticgdoeamabklaa
