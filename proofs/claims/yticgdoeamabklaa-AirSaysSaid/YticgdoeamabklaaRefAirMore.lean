/-
  The document's Answer, Total, Most.
-/
import Derived.Test.YticgdoeamabklaaRefAir
namespace Go.Proofs.Yticgdoeamabklaa
open Go.ChangeShapes Go.WideShapes Go.ChangeAt Go.RowKit
set_option linter.unusedVariables false

set_option maxHeartbeats 800000 in
theorem ranswer_any (w : World) : Calls Try.prog 14 #[] w fun e w' => e = .returned (.int .i64 480) ∧ Below w.heap.size w w' := by
  go_enter Try.func14, Try.ntmps14
  go_wp2_with fail
  refine (rppdu_any ⟨1, 4, 1, 20, 0⟩ 32 _ (by decide) (by decide) (by omega) (by omega)).mono ?_
  rintro e w1 ⟨rfl, hb⟩
  rw [show ppP ⟨1, 4, 1, 20, 0⟩ 32 = 320 by decide +kernel]
  go_wp2_with fail
  go_ret
  exact ⟨rfl, hb⟩

set_option maxHeartbeats 1600000 in
theorem rtotal_any (r : RT) (n : Int) (w : World) (i0 : -9223372036854775808 ≤ r.s) (i1 : r.s ≤ 9223372036854775807) (n0 : -9223372036854775808 ≤ n) (n1 : n ≤ 9223372036854775807) :
    Calls Try.prog 16 #[.agg #[.int .i64 r.m, .int .i64 r.c, .int .i64 r.s, .int .i64 r.w, .int .i64 r.g], .int .i64 n] w fun e w' => e = .returned (.int .i64 (totP r n)) ∧ Below w.heap.size w w' := by
  have HB := Lib.hid (RtB.new w r)
  have B1 := Lib.hid (show Below w.heap.size w (w.alloc (.cells #[.int .i64 r.m, .int .i64 r.c, .int .i64 r.s, .int .i64 r.w, .int .i64 r.g] 26)) from (Below.refl _ _).alloc (Nat.le_refl _) _)
  have D := Lib.hid (fun w => rppdu_any r n w i0 i1 n0 n1)
  have D0 := Lib.hid (fun w => rvalid_any r w i0 i1)
  clear i0 i1
  go_enter Try.func16, Try.ntmps16
  go_wp2_with fail
  refine (D0.out _).mono ?_
  rintro e w1 ⟨rfl, hb1⟩
  have HB1 := Lib.hid (HB.out.below hb1 (Nat.le_refl _))
  have B2 := Lib.hid (B1.out.trans (hb1.mono B1.out.size))
  clear hb1
  obtain ⟨e0, e1, e2, e3, e4⟩ := HB1.out.cells
  have za := HB1.out.lt
  rcases hv : validP r
  case false =>
    have HN := Lib.hid (tot_not (r := r) (n := n) (ok_no1 hv))
    go_wp2_with fail
    go_ret
    exact ⟨ret_i64 (by rw [HN.out]), B2.out⟩
  case true =>
  have HV := Lib.hid hv
  clear hv
  by_cases h0 : n < 0
  case pos =>
    have HN := Lib.hid (tot_not (r := r) (n := n) (ok_no2 h0))
    go_wp2_with fail
    go_ret
    exact ⟨ret_i64 (by rw [HN.out]), B2.out⟩
  case neg =>
  have g0 : 0 ≤ n := by omega
  clear n0 h0
  by_cases h1 : 1048576 < n
  case pos =>
    have h1' : decide (1048576 < n) = true := decide_eq_true h1
    have HN := Lib.hid (tot_not (r := r) (n := n) (ok_no3 h1))
    go_wp2_with fail
    go_ret
    exact ⟨ret_i64 (by rw [HN.out]), B2.out⟩
  case neg =>
  have g1 : n ≤ 1048576 := by omega
  clear n1 h1
  have hv := ok_of HV.out g0 g1
  have HN := Lib.hid (tot_eq hv)
  obtain ⟨x0, x1⟩ := pp_bounds hv
  clear hv
  generalize ppP r n = X at *
  go_wp2_with fail
  refine (D.out _).mono ?_
  rintro e w2 ⟨rfl, hb2⟩
  have HB2 := Lib.hid (HB1.out.below hb2 (Nat.le_refl _))
  have B3 := Lib.hid (B2.out.trans (hb2.mono B2.out.size))
  clear hb2
  obtain ⟨e0, e1, e2, e3, e4⟩ := HB2.out.cells
  have za := HB2.out.lt
  go_wp2_with fail
  refine (ranswer_any _).mono ?_
  rintro e w3 ⟨rfl, hb3⟩
  have HB3 := Lib.hid (HB2.out.below hb3 (Nat.le_refl _))
  have B4 := Lib.hid (B3.out.trans (hb3.mono B3.out.size))
  clear hb3
  obtain ⟨e0, e1, e2, e3, e4⟩ := HB3.out.cells
  have za := HB3.out.lt
  go_wp2_with fail
  go_ret
  exact ⟨ret_i64 HN.out.symm, B4.out⟩

set_option maxHeartbeats 3200000 in
theorem rmost_any (r : RT) (t : Int) (w : World) (i0 : -9223372036854775808 ≤ r.s) (i1 : r.s ≤ 9223372036854775807) (n0 : -9223372036854775808 ≤ t) (n1 : t ≤ 9223372036854775807) :
    Calls Try.prog 17 #[.agg #[.int .i64 r.m, .int .i64 r.c, .int .i64 r.s, .int .i64 r.w, .int .i64 r.g], .int .i64 t] w fun e w' => e = .returned (.int .i64 (mostP r t)) ∧ Below w.heap.size w w' := by
  have HB := Lib.hid (RtB.new w r)
  have B1 := Lib.hid (show Below w.heap.size w (w.alloc (.cells #[.int .i64 r.m, .int .i64 r.c, .int .i64 r.s, .int .i64 r.w, .int .i64 r.g] 26)) from (Below.refl _ _).alloc (Nat.le_refl _) _)
  have D := Lib.hid (fun n w => rppdu_any r n w i0 i1)
  have D0 := Lib.hid (fun w => rvalid_any r w i0 i1)
  clear i0 i1
  go_enter Try.func17, Try.ntmps17
  go_wp2_with fail
  rcases hv : validP r
  case false =>
    have HN := Lib.hid (show mostP r t = -1 from most_not (by simp [canP, hv]))
    rw [hv] at D0
    refine (D0.out _).mono ?_
    rintro e w1 ⟨rfl, hb1⟩
    have HB1 := Lib.hid (HB.out.below hb1 (Nat.le_refl _))
    have B2 := Lib.hid (B1.out.trans (hb1.mono B1.out.size))
    clear hb1
    obtain ⟨e0, e1, e2, e3, e4⟩ := HB1.out.cells
    have za := HB1.out.lt
    go_wp2_with fail
    go_ret
    exact ⟨ret_i64 HN.out.symm, B2.out⟩
  case true =>
  have HV := Lib.hid hv
  rw [hv] at D0
  clear hv
  refine (D0.out _).mono ?_
  rintro e w1 ⟨rfl, hb1⟩
  have HB1 := Lib.hid (HB.out.below hb1 (Nat.le_refl _))
  have B2 := Lib.hid (B1.out.trans (hb1.mono B1.out.size))
  clear hb1
  obtain ⟨e0, e1, e2, e3, e4⟩ := HB1.out.cells
  have za := HB1.out.lt
  have hok := ok_of HV.out (show (0 : Int) ≤ 0 by omega) (show (0 : Int) ≤ 1048576 by omega)
  obtain ⟨x0, x1⟩ := pp_bounds hok
  clear hok
  have D00 := Lib.hid (fun w => D.out 0 w (by omega) (by omega))
  go_wp2_with fail
  clear e0 e1 e2 e3 e4 za
  refine (D00.out _).mono ?_
  rintro e w2 ⟨rfl, hb2⟩
  have HB2 := Lib.hid (HB1.out.below hb2 (Nat.le_refl _))
  have B3 := Lib.hid (B2.out.trans (hb2.mono B2.out.size))
  clear hb2
  obtain ⟨e0, e1, e2, e3, e4⟩ := HB2.out.cells
  have za := HB2.out.lt
  rcases hc : canP r t
  case false =>
    have HN := Lib.hid (most_not hc)
    have hx := can_no hc HV.out
    clear hc
    generalize ppP r 0 = X at *
    have hx' : decide (t < X) = true := decide_eq_true hx
    go_wp2_with fail
    go_ret
    exact ⟨ret_i64 HN.out.symm, B3.out⟩
  case true =>
  have HC := Lib.hid hc
  obtain ⟨_, hx⟩ := can_yes hc
  clear hc
  have HI := Lib.hid (fun (n : Int) (h0 : 0 ≤ n) (h1 : n ≤ 1048576) => most_iff HC.out h0 h1)
  obtain ⟨f1, f2⟩ := most_range HC.out
  have hx' : decide (t < ppP r 0) = false := decide_eq_false (by omega)
  obtain ⟨K, hK⟩ : ∃ K, mostP r t = K := ⟨_, rfl⟩
  rw [hK] at HI f1 f2
  have HK := Lib.hid hK
  clear hK
  have HT := Lib.hid hx
  clear hx
  go_wp2_with fail
  clear e0 e1 e2 e3 e4 za hx' x0 x1
  go_loopw [5, 6] (fun lo hi wr => ∃ l h : Int, lo = .int .i64 l ∧ hi = .int .i64 h ∧ 0 ≤ l ∧ l ≤ K ∧ K ≤ h ∧ h ≤ 1048576 ∧ RtB wr w.heap.size r ∧ Below w.heap.size w wr) (fun lo hi _ => (intOf hi - intOf lo).toNat)
  case atStart => exact ⟨0, 1048576, rfl, rfl, by omega, f1, f2, by omega, HB2.out, B3.out⟩
  case round =>
    obtain ⟨l, h, rfl, rfl, l0, lK, Kh, h1, hB, hb⟩ := hrel
    have HB3 := Lib.hid hB
    have B4 := Lib.hid hb
    clear hB hb HB1 HB2 B1 B2 B3 HB
    by_cases hlh : l < h
    case neg =>
      obtain rfl : l = K := by omega
      go_wp2_with fail
      go_ret
      exact ⟨ret_i64 HK.out.symm, B4.out⟩
    case pos =>
      obtain ⟨m, hm⟩ : ∃ m, (l + h + 1) / 2 = m := ⟨_, rfl⟩
      have m0 : l + 1 ≤ m := by omega
      have m1 : m ≤ h := by omega
      have HM := Lib.hid hm
      clear hm
      obtain ⟨e0, e1, e2, e3, e4⟩ := HB3.out.cells
      have za := HB3.out.lt
      have DM := Lib.hid (fun w => D.out m w (by omega) (by omega))
      have HIM := Lib.hid (HI.out m (by omega) (by omega))
      go_wp2_with fail
      rw [HM.out]
      refine (DM.out _).mono ?_
      rintro e w4 ⟨rfl, hb4⟩
      have HB4 := Lib.hid (HB3.out.below hb4 (Nat.le_refl _))
      have B5 := Lib.hid (B4.out.trans (hb4.mono B4.out.size))
      clear hb4 e0 e1 e2 e3 e4 za
      by_cases hmK : m ≤ K
      case pos =>
        have ht := HIM.out.2 hmK
        generalize ppP r m = Y at *
        go_wp2_with fail
        go_roundw
        case rel => exact ⟨m, h, rfl, rfl, by omega, hmK, Kh, h1, HB4.out, B5.out⟩
        case measure => simp [intOf]; omega
      case neg =>
        have ht : ¬ ppP r m ≤ t := fun x => hmK (HIM.out.1 x)
        generalize ppP r m = Y at *
        go_wp2_with fail
        go_roundw
        case rel => exact ⟨l, m - 1, rfl, rfl, l0, lK, by omega, by omega, HB4.out, B5.out⟩
        case measure => simp [intOf]; omega

end Go.Proofs.Yticgdoeamabklaa
