/-
  The walk of QosBounds.
-/
import Derived.Test.YtidgomffmeplaaaDoorQosFirst
import Derived.Test.YtidgomffmeplaaaDoorNumber
import Derived.Test.YtidgomffmeplaaaDoorSee
namespace Go.Proofs.YtidgomffmeplaaaDoor
open Go.ChangeShapes Go.WideShapes Go.ChangeAt Go.RowKit
set_option linter.unusedVariables false

set_option maxRecDepth 100000 in
set_option maxHeartbeats 2000000 in
theorem qosBounds_walk (w : World) {E : Nat → Addr} (hE : Errs allErr w E) (a0 : Int) (w0 : (Lit.int .i64 a0).wf = true) (a1 : Int) (w1 : (Lit.int .i64 a1).wf = true) (a2 : Int) (w2 : (Lit.int .i64 a2).wf = true) :
    Calls Tryd.prog 3 #[.int .i64 a0, .int .i64 a1, .int .i64 a2] w fun e w' => e = .returned (.bool true) ∧ Below w.heap.size w w' := by
  obtain ⟨hb0, hb0'⟩ := bounds_i64 w0
  obtain ⟨hb1, hb1'⟩ := bounds_i64 w1
  obtain ⟨hb2, hb2'⟩ := bounds_i64 w2
  clear w0 w1 w2
  have s0 := Int.emod_nonneg a0 (show (5 : Int) ≠ 0 by omega)
  have s1 := Int.emod_lt_of_pos a0 (show (0 : Int) < 5 by omega)
  have t0 := Int.emod_nonneg a1 (show (4 : Int) ≠ 0 by omega)
  have t1 := Int.emod_lt_of_pos a1 (show (0 : Int) < 4 by omega)
  have b0 := Int.emod_nonneg a2 (show (4 : Int) ≠ 0 by omega)
  have b1 := Int.emod_lt_of_pos a2 (show (0 : Int) < 4 by omega)
  obtain ⟨s, hs⟩ : ∃ s, a0 % 5 = s := ⟨_, rfl⟩
  obtain ⟨t, ht⟩ : ∃ t, a1 % 4 = t := ⟨_, rfl⟩
  obtain ⟨b, hb⟩ : ∃ b : Nat, a2 % 4 = b := ⟨(a2 % 4).toNat, by omega⟩
  have HS := Lib.hid hs
  have HT := Lib.hid ht
  have HB := Lib.hid hb
  rw [hs] at s0 s1
  rw [ht] at t0 t1
  rw [hb] at b0 b1
  clear hs ht hb
  go_enter Tryd.func3, Tryd.ntmps3
  go_wp2_with fail
  refine (first_any _).mono ?_
  rintro e w1 ⟨rfl, hw1⟩
  go_wp2_with fail
  refine (number_any a0 5 _ (by omega) (by omega) hb0 hb0').mono ?_
  rintro e w2 ⟨rfl, rfl⟩
  rw [HS.out]
  go_wp2_with fail
  refine (number_any a1 4 _ (by omega) (by omega) hb1 hb1').mono ?_
  rintro e w2 ⟨rfl, rfl⟩
  rw [HT.out]
  go_wp2_with fail
  refine (number_any a2 4 _ (by omega) (by omega) hb2 hb2').mono ?_
  rintro e w2 ⟨rfl, rfl⟩
  rw [HB.out]
  have h1 := hE.below hw1 (Nat.le_refl _)
  go_wp2_with fail
  refine (qosBytes_any (fun _ => 0) 0 (s + 4093) false false false none 0 0 [] _ (h1.sub (by decide)) (row_nil _ _)).mono ?_
  rintro e w2 ⟨A2, n2, C2, rfl, hown2, hw2⟩
  have h2 := h1.below hw2 (Nat.le_refl _)
  go_wp2_with fail
  refine (qosBytes_any (fun _ => 0) (t + 5) 0 false false false none 0 0 [] _ (h2.sub (by decide)) (row_nil _ _)).mono ?_
  rintro e w3 ⟨A3, n3, C3, rfl, hown3, hw3⟩
  have h3 := h2.below hw3 (Nat.le_refl _)
  clear hown2 hown3
  have hsz1 := hw1.size
  have hsz2 := hw2.size
  have hsz3 := hw3.size
  go_wp2_with (at_make; refine make_u8_full _ rfl _ _ rfl .i64 .i64 ((b : Int) + 1498) ((b : Int) + 1498) (b + 1498) rfl rfl (by simp) (by simp) (by omega) ?_; intro w4 hown4 hg4)
  have hw4 : Below w3.heap.size w3 w4 := (Below.refl _ _).grown hg4 (Nat.le_refl _) (by simp)
  have h4 := h3.below hw4 (Nat.le_refl _)
  have hsz4 := hw4.size
  refine (qosBytes_any (fun _ => 0) 0 0 false false false _ (b + 1498) (b + 1498) _ _ (h4.sub (by decide)) hown4.row).mono ?_
  rintro e w5 ⟨A5, n5, C5, rfl, hown5, hw5⟩
  have h5 := h4.below hw5 (Nat.le_refl _)
  have HN5 := Lib.hid hown5.len
  have hsz5 := hw5.size
  clear hown4 hg4 hown5
  go_wp2_with fail
  refine (qosBytes_any (fun _ => 0) 0 (-1) false false false none 0 0 [] _ (h5.sub (by decide)) (row_nil _ _)).mono ?_
  rintro e w6 ⟨A6, n6, C6, rfl, hown6, hw6⟩
  have h6 := h5.below hw6 (Nat.le_refl _)
  have hsz6 := hw6.size
  clear hown6
  go_wp2_with fail
  refine (qosBytes_any (fun _ => 0) (-1) 0 false false false none 0 0 [] _ (h6.sub (by decide)) (row_nil _ _)).mono ?_
  rintro e w7 ⟨A7, n7, C7, rfl, hown7, hw7⟩
  have h7 := h6.below hw7 (Nat.le_refl _)
  have hsz7 := hw7.size
  clear hown7
  have e1 : decide (qerr 0 (s + 4093) 0 = none) = decide (s ≤ 2) := qerr_none.trans (qokB_eq _ (by unfold qok; omega))
  have e2 : decide (qerr (t + 5) 0 0 = none) = decide (t ≤ 2) := qerr_none.trans (qokB_eq _ (by unfold qok; omega))
  have e6 : qerr 0 (-1) 0 = some 2 := by decide
  have e7 : qerr (-1) 0 0 = some 2 := by decide
  have n1 := err_isnil E (qerr 0 (s + 4093) 0)
  have n2 := err_isnil E (qerr (t + 5) 0 0)
  rw [e6, e7]
  have g1 := err_guard E (qerr 0 (s + 4093) 0)
  have g2 := err_guard E (qerr (t + 5) 0 0)
  rw [e1] at n1
  rw [e2] at n2
  clear e1 e2 e6 e7
  generalize qerr 0 (s + 4093) 0 = o1 at *
  generalize qerr (t + 5) 0 0 = o2 at *
  have t1' : decide (s + 4093 ≤ 4095) = decide (s ≤ 2) := by rw [decide_eq_decide]; omega
  have t2' : decide (t + 5 ≤ 7) = decide (t ≤ 2) := by rw [decide_eq_decide]; omega
  have hfin : Below w.heap.size w w7 := (((((hw1.trans (hw2.mono (by omega))).trans (hw3.mono (by omega))).trans (hw4.mono (by omega))).trans (hw5.mono (by omega))).trans (hw6.mono (by omega))).trans (hw7.mono (by omega))
  by_cases hbb : b ≤ 2
  · have e5 : qerr 0 0 (b + 1498) = none := by
      have : qokB 0 0 (b + 1498) = true := by unfold qokB qok; simp; omega
      unfold qerr; rw [this]; rfl
    have e5' : n5 = b + 1524 := by
      rw [← HN5.out]
      have : qokB 0 0 (b + 1498) = true := by unfold qokB qok; simp; omega
      unfold qres; rw [this]; simp [qbytes_length]; omega
    subst e5'
    rw [e5]
    have t3 : decide ((b : Int) + 1498 ≤ 1500) = true := by simp; omega
    have n3 := err_isnil E none
    have n4 := err_nonnil E none
    have g3 := err_guard E none
    have g4 := err_guard' E none
    go_wp2_with fail
    refine (is_any h7 (some 2) (by intro i h; cases h; decide) 103).mono ?_
    rintro e w8 ⟨rfl, hw8⟩
    have h8 := h7.below hw8 (Nat.le_refl _)
    have hsz8 := hw8.size
    rw [show (errCode (some 2) == 103) = true from rfl]
    go_wp2_with fail
    refine (is_any h8 (some 2) (by intro i h; cases h; decide) 103).mono ?_
    rintro e w9 ⟨rfl, hw9⟩
    rw [show (errCode (some 2) == 103) = true from rfl]
    go_wp2_with fail
    go_ret
    exact ⟨rfl, hfin.trans ((hw8.mono (by omega)).trans (hw9.mono (by omega)))⟩
  · have e5 : qerr 0 0 (b + 1498) = some 2 := by
      have : qokB 0 0 (b + 1498) = false := by unfold qokB qok; simp; omega
      unfold qerr; rw [this]; rfl
    rw [e5]
    have t3 : decide ((b : Int) + 1498 ≤ 1500) = false := by simp; omega
    have n3 := err_isnil E (some 2)
    have n4 := err_nonnil E (some 2)
    have g3 := err_guard E (some 2)
    have g4 := err_guard' E (some 2)
    go_wp2_with fail
    refine (is_any h7 (some 2) (by intro i h; cases h; decide) 103).mono ?_
    rintro e w8 ⟨rfl, hw8⟩
    have h8 := h7.below hw8 (Nat.le_refl _)
    have hsz8 := hw8.size
    rw [show (errCode (some 2) == 103) = true from rfl]
    go_wp2_with fail
    refine (is_any h8 (some 2) (by intro i h; cases h; decide) 103).mono ?_
    rintro e w9 ⟨rfl, hw9⟩
    rw [show (errCode (some 2) == 103) = true from rfl]
    go_wp2_with fail
    go_ret
    exact ⟨rfl, hfin.trans ((hw8.mono (by omega)).trans (hw9.mono (by omega)))⟩
end Go.Proofs.YtidgomffmeplaaaDoor
