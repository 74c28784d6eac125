/-
  The document's Ppdu.
-/
import Derived.Test.YtoagmehgiaamlaaDoorAirPlain
import Derived.Test.YtoagmehgiaamlaaDoorRtB
import Derived.Test.YtoagmehgiaamlaaDoorRefRateMore
import Derived.Test.YtoagmehgiaamlaaDoorRefRateSym
namespace Go.Proofs.YtoagmehgiaamlaaDoor
open Go.ChangeShapes Go.WideShapes Go.ChangeAt Go.RowKit
set_option linter.unusedVariables false

set_option maxHeartbeats 3200000 in
theorem rppdu_any (r : RT) (n : Int) (w : World) (i0 : -9223372036854775808 ≤ r.s) (i1 : r.s ≤ 9223372036854775807) (n0 : -9223372036854775808 ≤ n) (n1 : n ≤ 9223372036854775807) :
    Calls Tryd.prog 38 #[.agg #[.int .i64 r.m, .int .i64 r.c, .int .i64 r.s, .int .i64 r.w, .int .i64 r.g], .int .i64 n] w fun e w' => e = .returned (.int .i64 (ppP r n)) ∧ Below w.heap.size w w' := by
  have HB := Lib.hid (RtB.new w r)
  have B1 := Lib.hid (show Below w.heap.size w (w.alloc (.cells #[.int .i64 r.m, .int .i64 r.c, .int .i64 r.s, .int .i64 r.w, .int .i64 r.g] 28)) from (Below.refl _ _).alloc (Nat.le_refl _) _)
  have D0 := Lib.hid (fun w => rvalid_any r w i0 i1)
  have D1 := Lib.hid (fun w => rbits_any r w i0 i1)
  have D2 := Lib.hid (fun w => rsymbol_any r w i0 i1)
  have D3 := Lib.hid (fun w => rpreamble_any r w i0 i1)
  clear i0 i1
  go_enter Tryd.func38, Tryd.ntmps38
  go_wp2_with fail
  refine (D0.out _).mono ?_
  rintro e w1 ⟨rfl, hb1⟩
  have HB1 := Lib.hid (HB.out.below hb1 (Nat.le_refl _))
  have B2 := Lib.hid (B1.out.trans (hb1.mono B1.out.size))
  clear hb1 HB B1
  rcases hv : validP r
  case false =>
    have HN := Lib.hid (pp_not (r := r) (n := n) (ok_no1 hv))
    go_wp2_with fail
    go_ret
    exact ⟨ret_i64 (by rw [HN.out]), B2.out⟩
  case true =>
  have HV := Lib.hid hv
  clear hv
  by_cases h0 : n < 0
  case pos =>
    have HN := Lib.hid (pp_not (r := r) (n := n) (ok_no2 h0))
    go_wp2_with fail
    go_ret
    exact ⟨ret_i64 (by rw [HN.out]), B2.out⟩
  case neg =>
  have g0 : 0 ≤ n := by omega
  clear n0 h0
  by_cases h1 : 1048576 < n
  case pos =>
    have h1' : decide (1048576 < n) = true := decide_eq_true h1
    have HN := Lib.hid (pp_not (r := r) (n := n) (ok_no3 h1))
    go_wp2_with fail
    go_ret
    exact ⟨ret_i64 (by rw [HN.out]), B2.out⟩
  case neg =>
  have g1 : n ≤ 1048576 := by omega
  clear n1 h1
  have HP := Lib.hid (show ppP r n = preP r + symsP (bitsP r) n * symP r by rw [ppP, if_pos (ok_of HV.out g0 g1)])
  obtain ⟨b0, b1⟩ := bits_bounds HV.out
  obtain ⟨s0, s1⟩ := sym_bounds HV.out
  obtain ⟨p0, p1⟩ := pre_bounds HV.out
  have t1 := syms_top b0 b1 g0 g1
  have t0 := syms_pos (b := bitsP r) (n := n) (by omega) g0
  have HQ := Lib.hid (show symsP (bitsP r) n = (22 + 8 * n + bitsP r - 1) / bitsP r from rfl)
  generalize bitsP r = b at *
  generalize symP r = s at *
  generalize preP r = p at *
  generalize symsP b n = q at *
  have hq := HQ.out
  have y1 : 0 ≤ q * s ∧ q * s ≤ 9388630 * 160 := mul_nn (by omega) t1 (by omega) s1
  have y2 : IntKind.i64.wrap (q * s) = q * s := IntWalk.i64_in _ (by omega)
  have y3 : IntKind.i64.wrap (p + q * s) = p + q * s := IntWalk.i64_in _ (by omega)
  obtain ⟨e0, e1, e2, e3, e4⟩ := HB1.out.cells
  have za := HB1.out.lt
  have hb0 : ¬ b = 0 := by omega
  have hbz : (b == 0) = false := by simp; omega
  have k1 : IntKind.i64.wrap (22 + 8 * n + b) = 22 + 8 * n + b := IntWalk.i64_in _ (by omega)
  have k2 : IntKind.i64.wrap (22 + 8 * n + b - 1) = 22 + 8 * n + b - 1 := IntWalk.i64_in _ (by omega)
  have k3 : (22 + 8 * n + b - 1).tdiv b = q := by rw [Int.tdiv_eq_ediv_of_nonneg (by omega), ← hq]
  have k4 : IntKind.i64.wrap q = q := IntWalk.i64_in _ (by omega)
  have hbm : ¬ b = -1 := by omega
  clear y1 hq b0 b1 s0 s1 p0 p1 t0 t1
  go_wp2_with fail
  have c0 : w1.drew.cell? ⟨w.heap.size, 0, none⟩ = some (.int .i64 r.m) ∧ w1.drew.cell? ⟨w.heap.size, 1, none⟩ = some (.int .i64 r.c) ∧ w1.drew.cell? ⟨w.heap.size, 2, none⟩ = some (.int .i64 r.s) ∧ w1.drew.cell? ⟨w.heap.size, 3, none⟩ = some (.int .i64 r.w) ∧ w1.drew.cell? ⟨w.heap.size, 4, none⟩ = some (.int .i64 r.g) := ⟨e0, e1, e2, e3, e4⟩
  have L0 : w.heap.size < w1.drew.heap.size := za
  have H0 := Lib.hid (show Below w.heap.size w w1.drew from B2.out.trans (Below.drew (Below.refl _ _)))
  go_region_held3 (fun y => y.cell? ⟨w.heap.size, 0, none⟩ = some (.int .i64 r.m) ∧ y.cell? ⟨w.heap.size, 1, none⟩ = some (.int .i64 r.c) ∧ y.cell? ⟨w.heap.size, 2, none⟩ = some (.int .i64 r.s) ∧ y.cell? ⟨w.heap.size, 3, none⟩ = some (.int .i64 r.w) ∧ y.cell? ⟨w.heap.size, 4, none⟩ = some (.int .i64 r.g))
    (first | exact c0 | exact c1 | exact c2)
    (first
      | (go_at_call 59; (with_reducible refine (D1.out w1.drew).mono ?_); rintro e x1 ⟨rfl, b1⟩; have c1 := rk (r := r) c0 b1 L0; have L1 := Nat.lt_of_lt_of_le L0 b1.size; have H1 := Lib.hid (H0.out.trans (b1.mono H0.out.size)); clear b1)
      | (go_at_call 59; (with_reducible refine (D1.out _).mono ?_); rintro e x2 ⟨rfl, b2⟩; have c2 := rk (r := r) c1 b2 L1; have L2 := Nat.lt_of_lt_of_le L1 b2.size; have H2 := Lib.hid (H1.out.trans (b2.mono H1.out.size)); clear b2))
  clear c0 c1 L0 L1 k1 k2 k3 k4 e0 e1 e2 e3 e4
  go_wp2_with fail
  obtain ⟨e0, e1, e2, e3, e4⟩ := c2
  have za := L2
  have d0 : x2.drew.cell? ⟨w.heap.size, 0, none⟩ = some (.int .i64 r.m) ∧ x2.drew.cell? ⟨w.heap.size, 1, none⟩ = some (.int .i64 r.c) ∧ x2.drew.cell? ⟨w.heap.size, 2, none⟩ = some (.int .i64 r.s) ∧ x2.drew.cell? ⟨w.heap.size, 3, none⟩ = some (.int .i64 r.w) ∧ x2.drew.cell? ⟨w.heap.size, 4, none⟩ = some (.int .i64 r.g) := ⟨e0, e1, e2, e3, e4⟩
  have M0 : w.heap.size < x2.drew.heap.size := za
  have J0 := Lib.hid (show Below w.heap.size w x2.drew from H2.out.trans (Below.drew (Below.refl _ _)))
  go_region_held3 (fun y => y.cell? ⟨w.heap.size, 0, none⟩ = some (.int .i64 r.m) ∧ y.cell? ⟨w.heap.size, 1, none⟩ = some (.int .i64 r.c) ∧ y.cell? ⟨w.heap.size, 2, none⟩ = some (.int .i64 r.s) ∧ y.cell? ⟨w.heap.size, 3, none⟩ = some (.int .i64 r.w) ∧ y.cell? ⟨w.heap.size, 4, none⟩ = some (.int .i64 r.g))
    (first | exact d0 | exact d1 | exact d2)
    (first
      | (go_at_call 60; (with_reducible refine (D3.out _).mono ?_); rintro e v1 ⟨rfl, b1⟩; have d1 := rk (r := r) d0 b1 M0; have M1 := Nat.lt_of_lt_of_le M0 b1.size; have J1 := Lib.hid (J0.out.trans (b1.mono J0.out.size)); clear b1)
      | (go_at_call 61; (with_reducible refine (D2.out _).mono ?_); rintro e v2 ⟨rfl, b2⟩; have d2 := rk (r := r) d1 b2 M1; have M2 := Nat.lt_of_lt_of_le M1 b2.size; have J2 := Lib.hid (J1.out.trans (b2.mono J1.out.size)); clear b2))
  go_wp2_with fail
  go_ret
  exact ⟨ret_i64 HP.out.symm, J2.out⟩

end Go.Proofs.YtoagmehgiaamlaaDoor
