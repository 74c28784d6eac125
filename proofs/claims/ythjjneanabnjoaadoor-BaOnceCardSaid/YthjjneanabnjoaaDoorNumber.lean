/-
  muezzinworld.Number: the remainder that is not negative.
-/
import Derived.Test.YthjjneanabnjoaaDoorBase
namespace Go.Proofs.YthjjneanabnjoaaDoor
open Go.ChangeShapes Go.WideShapes Go.ChangeAt Go.RowKit
set_option linter.unusedVariables false

theorem tmod_neg {n below q : Int} (h0 : 0 < below) (hn : n < 0) (hq : n.tmod below = q) : q ≤ 0 ∧ -below < q ∧ ((q = 0 ∧ n % below = 0) ∨ (q < 0 ∧ n % below = q + below)) := by
  have e3 := Int.emod_nonneg (-n) (show below ≠ 0 by omega)
  have e4 := Int.emod_lt_of_pos (-n) h0
  have e1 := Int.emod_nonneg n (show below ≠ 0 by omega)
  have e5 : q = -((-n) % below) := by rw [← hq, ← Int.tmod_eq_emod_of_nonneg (by omega), Int.neg_tmod, Int.neg_neg]
  have e6 : n % below = if n.natAbs % below.natAbs = 0 then 0 else below - (-n) % below := by
    obtain ⟨m, rfl⟩ : ∃ m, n = -m := ⟨-n, by omega⟩
    rw [Int.neg_neg, Int.neg_emod, Int.natAbs_of_nonneg (by omega)]
    have : (below ∣ m) ↔ ((-m).natAbs % below.natAbs = 0) := by
      rw [← Int.natAbs_dvd_natAbs, Int.natAbs_neg, Nat.dvd_iff_mod_eq_zero]
    simp only [this]
  have e7 : (-n) % below = ((n.natAbs % below.natAbs : Nat) : Int) := by
    rw [Int.natCast_emod, Int.natAbs_of_nonneg (by omega : 0 ≤ below), Int.ofNat_natAbs_of_nonpos (by omega)]
  split at e6 <;> omega

set_option maxHeartbeats 400000 in
theorem number_any (n below : Int) (w : World) (h0 : 0 < below) (h1 : below ≤ 4611686018427387904) (hn0 : -9223372036854775808 ≤ n) (hn1 : n ≤ 9223372036854775807) :
    Calls Tryd.prog 10 #[.int .i64 n, .int .i64 below] w fun e w' => e = .returned (.int .i64 (n % below)) ∧ w = w' := by
  have hb : (below == 0) = false := by simp; omega
  have hb1 : ¬ below = -1 := by omega
  have e1 := Int.emod_nonneg n (show below ≠ 0 by omega)
  have e2 := Int.emod_lt_of_pos n h0
  by_cases hn : n < 0
  · obtain ⟨q, hq⟩ : ∃ q, n.tmod below = q := ⟨_, rfl⟩
    obtain ⟨a1, a2, a3⟩ := tmod_neg h0 hn hq
    rcases a3 with ⟨a3, a4⟩ | ⟨a3, a4⟩
    · subst a3
      have H4 := Lib.hid a4
      clear a4 e1 e2
      go_enter Tryd.func10, Tryd.ntmps10
      go_wp2_with fail
      go_ret
      exact ⟨ret_i64 H4.out.symm, rfl⟩
    · have H4 := Lib.hid a4
      clear a4 e1 e2
      go_enter Tryd.func10, Tryd.ntmps10
      go_wp2_with fail
      go_ret
      exact ⟨ret_i64 H4.out.symm, rfl⟩
  · go_enter Tryd.func10, Tryd.ntmps10
    go_wp2_with fail
    go_ret
    exact ⟨rfl, rfl⟩
end Go.Proofs.YthjjneanabnjoaaDoor
