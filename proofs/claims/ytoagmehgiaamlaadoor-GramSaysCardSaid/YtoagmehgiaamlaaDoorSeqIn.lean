/-
  seq.mod, Dist, In.
-/
import Derived.Test.YtoagmehgiaamlaaDoorBase
namespace Go.Proofs.YtoagmehgiaamlaaDoor
open Go.ChangeShapes Go.WideShapes Go.ChangeAt Go.RowKit
set_option linter.unusedVariables false

theorem mod_plain (n : Int) : ((n.tmod 4096) + 4096) % 4096 = n % 4096 := by
  by_cases h : 0 ≤ n
  · rw [Int.tmod_eq_emod_of_nonneg h]; omega
  · have h1 : n.tmod 4096 = -((-n) % 4096) := by
      rw [← Int.tmod_eq_emod_of_nonneg (by omega), Int.neg_tmod, Int.neg_neg]
    rw [h1]; omega
theorem tmod_range (n : Int) : -4096 < n.tmod 4096 ∧ n.tmod 4096 < 4096 := by
  by_cases h : 0 ≤ n
  · rw [Int.tmod_eq_emod_of_nonneg h]; omega
  · have h1 : n.tmod 4096 = -((-n) % 4096) := by
      rw [← Int.tmod_eq_emod_of_nonneg (by omega), Int.neg_tmod, Int.neg_neg]
    rw [h1]; omega

set_option maxHeartbeats 400000 in
theorem mod_any (n : Int) (w : World) : Calls Tryd.prog 67 #[.int .i64 n] w fun e w' => e = .returned (.int .i64 (n % 4096)) ∧ w = w' := by
  have HP := Lib.hid (mod_plain n)
  obtain ⟨h1, h2⟩ := tmod_range n
  go_enter Tryd.func67, Tryd.ntmps67
  go_wp2_with fail
  go_ret
  exact ⟨ret_i64 HP.out, rfl⟩

set_option maxHeartbeats 400000 in
theorem dist_any (a n : Int) (w : World) : Calls Tryd.prog 51 #[.int .i64 a, .int .i64 n] w fun e w' => e = .returned (.int .i64 ((n - a) % 4096)) ∧ w = w' := by
  have h1 := Int.emod_nonneg a (show (4096 : Int) ≠ 0 by omega)
  have h2 := Int.emod_lt_of_pos a (show (0 : Int) < 4096 by omega)
  have h3 := Int.emod_nonneg n (show (4096 : Int) ≠ 0 by omega)
  have h4 := Int.emod_lt_of_pos n (show (0 : Int) < 4096 by omega)
  have HP := Lib.hid (show (n % 4096 - a % 4096) % 4096 = (n - a) % 4096 by omega)
  go_enter Tryd.func51, Tryd.ntmps51
  go_wp2_with fail
  refine (mod_any _ _).mono ?_
  rintro e w1 ⟨rfl, rfl⟩
  go_wp2_with fail
  refine (mod_any _ _).mono ?_
  rintro e w1 ⟨rfl, rfl⟩
  go_wp2_with fail
  refine (mod_any _ _).mono ?_
  rintro e w1 ⟨rfl, rfl⟩
  go_wp2_with fail
  go_ret
  first | exact ⟨rfl, rfl⟩ | exact ⟨ret_i64 HP.out, rfl⟩

set_option maxHeartbeats 400000 in
theorem in_any (st size n : Int) (w : World) : Calls Tryd.prog 50 #[.int .i64 st, .int .i64 size, .int .i64 n] w fun e w' => e = .returned (.bool (decide ((n - st) % 4096 < size))) ∧ w = w' := by
  go_enter Tryd.func50, Tryd.ntmps50
  go_wp2_with fail
  refine (dist_any _ _ _).mono ?_
  rintro e w1 ⟨rfl, rfl⟩
  go_wp2_with fail
  go_ret
  exact ⟨rfl, rfl⟩
end Go.Proofs.YtoagmehgiaamlaaDoor
