/-
  air.Answer, Total, Most.
-/
import Derived.Test.YticgdoeamabklaaAir
namespace Go.Proofs.Yticgdoeamabklaa
open Go.ChangeShapes Go.WideShapes Go.ChangeAt Go.RowKit
set_option linter.unusedVariables false

set_option maxHeartbeats 800000 in
theorem answer_any (w : World) : Calls Try.prog 13 #[] w fun e w' => e = .returned (.int .i64 480) ∧ Below w.heap.size w w' := by
  go_enter Try.func13, Try.ntmps13
  go_wp2_with fail
  refine (ppdu_any ⟨1, 4, 1, 20, 0⟩ 32 _ (by omega) (by omega)).mono ?_
  rintro e w1 ⟨rfl, hb⟩
  rw [show ppP ⟨1, 4, 1, 20, 0⟩ 32 = 320 by decide +kernel]
  go_wp2_with fail
  go_ret
  exact ⟨rfl, hb⟩

set_option maxHeartbeats 1600000 in
theorem total_any (r : RT) (n : Int) (w : World) (n0 : -9223372036854775808 ≤ n) (n1 : n ≤ 9223372036854775807) :
    Calls Try.prog 15 #[.agg #[.int .i64 r.m, .int .i64 r.c, .int .i64 r.s, .int .i64 r.w, .int .i64 r.g], .int .i64 n] w fun e w' => e = .returned (.int .i64 (totP r n)) ∧ Below w.heap.size w w' := by
  have HB := Lib.hid (RtB.new w r)
  have B1 := Lib.hid (show Below w.heap.size w (w.alloc (.cells #[.int .i64 r.m, .int .i64 r.c, .int .i64 r.s, .int .i64 r.w, .int .i64 r.g] 26)) from (Below.refl _ _).alloc (Nat.le_refl _) _)
  have D := Lib.hid (fun w => ppdu_any r n w n0 n1)
  go_enter Try.func15, Try.ntmps15
  go_wp2_with fail
  rcases hv : okP r n
  case false =>
    have HN := Lib.hid (tot_not hv)
    rw [pp_not hv] at D
    clear hv
    refine (D.out _).mono ?_
    rintro e w1 ⟨rfl, hb1⟩
    have HB1 := Lib.hid (HB.out.below hb1 (Nat.le_refl _))
    have B2 := Lib.hid (B1.out.trans (hb1.mono B1.out.size))
    clear hb1
    obtain ⟨e0, e1, e2, e3, e4⟩ := HB1.out.cells
    have za := HB1.out.lt
    go_wp2_with fail
    go_ret
    exact ⟨ret_i64 HN.out.symm, B2.out⟩
  case true =>
    have HN := Lib.hid (tot_eq hv)
    obtain ⟨x0, x1⟩ := pp_bounds hv
    clear hv
    generalize ppP r n = X at *
    have hx : ¬ X = 0 := by omega
    have hx' : (X == 0) = false := by simp; omega
    refine (D.out _).mono ?_
    rintro e w1 ⟨rfl, hb1⟩
    have HB1 := Lib.hid (HB.out.below hb1 (Nat.le_refl _))
    have B2 := Lib.hid (B1.out.trans (hb1.mono B1.out.size))
    clear hb1
    obtain ⟨e0, e1, e2, e3, e4⟩ := HB1.out.cells
    have za := HB1.out.lt
    go_wp2_with fail
    refine (D.out _).mono ?_
    rintro e w2 ⟨rfl, hb2⟩
    have HB2 := Lib.hid (HB1.out.below hb2 (Nat.le_refl _))
    have B3 := Lib.hid (B2.out.trans (hb2.mono B2.out.size))
    clear hb2
    obtain ⟨e0, e1, e2, e3, e4⟩ := HB2.out.cells
    have za := HB2.out.lt
    go_wp2_with fail
    refine (answer_any _).mono ?_
    rintro e w3 ⟨rfl, hb3⟩
    have HB3 := Lib.hid (HB2.out.below hb3 (Nat.le_refl _))
    have B4 := Lib.hid (B3.out.trans (hb3.mono B3.out.size))
    clear hb3
    obtain ⟨e0, e1, e2, e3, e4⟩ := HB3.out.cells
    have za := HB3.out.lt
    go_wp2_with fail
    go_ret
    exact ⟨ret_i64 HN.out.symm, B4.out⟩

set_option maxHeartbeats 3200000 in
theorem most_any (r : RT) (t : Int) (w : World) (n0 : -9223372036854775808 ≤ t) (n1 : t ≤ 9223372036854775807) :
    Calls Try.prog 11 #[.agg #[.int .i64 r.m, .int .i64 r.c, .int .i64 r.s, .int .i64 r.w, .int .i64 r.g], .int .i64 t] w fun e w' => e = .returned (.int .i64 (mostP r t)) ∧ Below w.heap.size w w' := by
  have HB := Lib.hid (RtB.new w r)
  have B1 := Lib.hid (show Below w.heap.size w (w.alloc (.cells #[.int .i64 r.m, .int .i64 r.c, .int .i64 r.s, .int .i64 r.w, .int .i64 r.g] 26)) from (Below.refl _ _).alloc (Nat.le_refl _) _)
  have D := Lib.hid (fun n w => ppdu_any r n w)
  have D0 := Lib.hid (fun w => valid_any r w)
  have D1 := Lib.hid (fun w => bits_any r w)
  have D2 := Lib.hid (fun w => symbol_any r w)
  have D3 := Lib.hid (fun w => preamble_any r w)
  go_enter Try.func11, Try.ntmps11
  go_wp2_with fail
  rcases hv : validP r
  case false =>
    have HN := Lib.hid (show mostP r t = -1 from most_not (by simp [canP, hv]))
    rw [hv] at D0
    refine (D0.out _).mono ?_
    rintro e w1 ⟨rfl, hb1⟩
    have HB1 := Lib.hid (HB.out.below hb1 (Nat.le_refl _))
    have B2 := Lib.hid (B1.out.trans (hb1.mono B1.out.size))
    clear hb1
    obtain ⟨e0, e1, e2, e3, e4⟩ := HB1.out.cells
    have za := HB1.out.lt
    go_wp2_with fail
    go_ret
    exact ⟨ret_i64 HN.out.symm, B2.out⟩
  case true =>
  have HV := Lib.hid hv
  rw [hv] at D0
  clear hv
  refine (D0.out _).mono ?_
  rintro e w1 ⟨rfl, hb1⟩
  have HB1 := Lib.hid (HB.out.below hb1 (Nat.le_refl _))
  have B2 := Lib.hid (B1.out.trans (hb1.mono B1.out.size))
  clear hb1
  obtain ⟨e0, e1, e2, e3, e4⟩ := HB1.out.cells
  have za := HB1.out.lt
  have hok := ok_of HV.out (show (0 : Int) ≤ 0 by omega) (show (0 : Int) ≤ 1048576 by omega)
  obtain ⟨x0, x1⟩ := pp_bounds hok
  clear hok
  have D00 := Lib.hid (fun w => D.out 0 w (by omega) (by omega))
  go_wp2_with fail
  clear e0 e1 e2 e3 e4 za
  refine (D00.out _).mono ?_
  rintro e w2 ⟨rfl, hb2⟩
  have HB2 := Lib.hid (HB1.out.below hb2 (Nat.le_refl _))
  have B3 := Lib.hid (B2.out.trans (hb2.mono B2.out.size))
  clear hb2
  obtain ⟨e0, e1, e2, e3, e4⟩ := HB2.out.cells
  have za := HB2.out.lt
  rcases hc : canP r t
  case false =>
    have HN := Lib.hid (most_not hc)
    have hx := can_no hc HV.out
    clear hc
    generalize ppP r 0 = X at *
    have hx' : decide (t < X) = true := decide_eq_true hx
    go_wp2_with fail
    go_ret
    exact ⟨ret_i64 HN.out.symm, B3.out⟩
  case true =>
  have HC := Lib.hid hc
  obtain ⟨_, hx⟩ := can_yes hc
  clear hc
  have HM := Lib.hid (show mostP r t = if 8388608 ≤ nP r t then 1048576 else min ((nP r t * bitsP r - 22) / 8) 1048576 by rw [mostP, if_pos HC.out])
  have HNP := Lib.hid (show nP r t = (t - preP r) / symP r from rfl)
  obtain ⟨f1, f2, _⟩ := n_facts HC.out
  obtain ⟨b0, b1⟩ := bits_bounds HV.out
  obtain ⟨s0, s1⟩ := sym_bounds HV.out
  obtain ⟨p0, p1⟩ := pre_bounds HV.out
  have hpp : preP r ≤ ppP r 0 := by
    rw [ppP, if_pos (ok_of HV.out (by omega) (by omega))]
    have k1 := syms_pos (b := bitsP r) (n := 0) (by omega) (by omega)
    have k2 : 0 ≤ symsP (bitsP r) 0 * symP r := Int.mul_nonneg (by omega) (by omega)
    omega
  generalize nP r t = N at *
  generalize bitsP r = b at *
  generalize symP r = s at *
  generalize preP r = p at *
  generalize ppP r 0 = X at *
  have hx' : decide (t < X) = false := decide_eq_false (by omega)
  have k1 : IntKind.i64.wrap (t - p) = t - p := IntWalk.i64_in _ (by omega)
  have k2 : (t - p).tdiv s = N := by rw [Int.tdiv_eq_ediv_of_nonneg (by omega), ← HNP.out]
  have k5 : N ≤ 9223372036854775807 := by rw [HNP.out]; exact Int.le_trans (Int.ediv_le_self _ (by omega)) (by omega)
  have k3 : IntKind.i64.wrap N = N := IntWalk.i64_in _ (by omega)
  have k4 : (s == 0) = false := by simp; omega
  have k6 : ¬ s = -1 := by omega
  have k7 : ¬ s = 0 := by omega
  have c0 : w2.drew.cell? ⟨w.heap.size, 0, none⟩ = some (.int .i64 r.m) ∧ w2.drew.cell? ⟨w.heap.size, 1, none⟩ = some (.int .i64 r.c) ∧ w2.drew.cell? ⟨w.heap.size, 2, none⟩ = some (.int .i64 r.s) ∧ w2.drew.cell? ⟨w.heap.size, 3, none⟩ = some (.int .i64 r.w) ∧ w2.drew.cell? ⟨w.heap.size, 4, none⟩ = some (.int .i64 r.g) := ⟨e0, e1, e2, e3, e4⟩
  have L0 : w.heap.size < w2.drew.heap.size := za
  have H0 := Lib.hid (show Below w.heap.size w w2.drew from B3.out.trans (Below.drew (Below.refl _ _)))
  go_wp2_with fail
  go_region_held3 (fun y => y.cell? ⟨w.heap.size, 0, none⟩ = some (.int .i64 r.m) ∧ y.cell? ⟨w.heap.size, 1, none⟩ = some (.int .i64 r.c) ∧ y.cell? ⟨w.heap.size, 2, none⟩ = some (.int .i64 r.s) ∧ y.cell? ⟨w.heap.size, 3, none⟩ = some (.int .i64 r.w) ∧ y.cell? ⟨w.heap.size, 4, none⟩ = some (.int .i64 r.g))
    (first | exact c0 | exact c1 | exact c2)
    (first
      | (go_at_call 22; (with_reducible refine (D3.out _).mono ?_); rintro e x1 ⟨rfl, b1_⟩; have c1 := rk (r := r) c0 b1_ L0; have L1 := Nat.lt_of_lt_of_le L0 b1_.size; have H1 := Lib.hid (H0.out.trans (b1_.mono H0.out.size)); clear b1_)
      | (go_at_call 20; (with_reducible refine (D2.out _).mono ?_); rintro e x2 ⟨rfl, b2_⟩; have c2 := rk (r := r) c1 b2_ L1; have L2 := Nat.lt_of_lt_of_le L1 b2_.size; have H2 := Lib.hid (H1.out.trans (b2_.mono H1.out.size)); clear b2_))
  clear k1 k2 k4 k6 k7 c0 c1 L0 L1 e0 e1 e2 e3 e4 za
  obtain ⟨e0, e1, e2, e3, e4⟩ := c2
  by_cases hN : 8388608 ≤ N
  case pos =>
    go_wp2_with fail
    go_ret
    exact ⟨ret_i64 (by rw [HM.out, if_pos hN]), H2.out⟩
  case neg =>
  obtain ⟨m0, m1⟩ := mul_nn (a := N) (b := b) (by omega) (show N ≤ 8388608 by omega) (by omega) b1
  have HD := Lib.hid (show mostP r t = min ((N * b - 22) / 8) 1048576 by rw [HM.out, if_neg hN])
  go_wp2_with fail
  refine (D1.out _).mono ?_
  rintro e w5 ⟨rfl, hb5⟩
  have B6 := Lib.hid (H2.out.trans (hb5.mono H2.out.size))
  clear hb5 e0 e1 e2 e3 e4
  have j1 : IntKind.i64.wrap (N * b) = N * b := IntWalk.i64_in _ (by omega)
  by_cases hm : (N * b - 22) / 8 ≤ 1048576
  case pos =>
    go_wp2_with fail
    go_ret
    exact ⟨ret_i64 (by rw [HD.out]; omega), B6.out⟩
  case neg =>
    go_wp2_with fail
    go_ret
    exact ⟨ret_i64 (by rw [HD.out]; omega), B6.out⟩

end Go.Proofs.Yticgdoeamabklaa
