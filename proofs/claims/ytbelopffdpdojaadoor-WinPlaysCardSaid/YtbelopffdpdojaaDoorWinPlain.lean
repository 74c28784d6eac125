/-
  seq.mod, Add, Dist and the document's round, Dist, In: numbers that go round.
-/
import Derived.Test.YtbelopffdpdojaaDoorIntsFn
import Derived.Test.YtbelopffdpdojaaDoorNumber
import Derived.Test.YtbelopffdpdojaaDoorErr
namespace Go.Proofs.YtbelopffdpdojaaDoor
open Go.ChangeShapes Go.WideShapes Go.ChangeAt Go.RowKit
set_option linter.unusedVariables false

theorem mod_plain (n : Int) : ((n.tmod 4096) + 4096) % 4096 = n % 4096 := by
  by_cases h : 0 ≤ n
  · rw [Int.tmod_eq_emod_of_nonneg h]; omega
  · have h1 : n.tmod 4096 = -((-n) % 4096) := by
      rw [← Int.tmod_eq_emod_of_nonneg (by omega), Int.neg_tmod, Int.neg_neg]
    rw [h1]; omega
theorem tmod_range (n : Int) : -4096 < n.tmod 4096 ∧ n.tmod 4096 < 4096 := by
  by_cases h : 0 ≤ n
  · rw [Int.tmod_eq_emod_of_nonneg h]; omega
  · have h1 : n.tmod 4096 = -((-n) % 4096) := by
      rw [← Int.tmod_eq_emod_of_nonneg (by omega), Int.neg_tmod, Int.neg_neg]
    rw [h1]; omega

set_option maxHeartbeats 400000 in
theorem mod_any (n : Int) (w : World) : Calls Tryd.prog 40 #[.int .i64 n] w fun e w' => e = .returned (.int .i64 (n % 4096)) ∧ w = w' := by
  have HP := Lib.hid (mod_plain n)
  obtain ⟨h1, h2⟩ := tmod_range n
  go_enter Tryd.func40, Tryd.ntmps40
  go_wp2_with fail
  go_ret
  exact ⟨ret_i64 HP.out, rfl⟩

set_option maxHeartbeats 400000 in
theorem add_any (a n : Int) (w : World) : Calls Tryd.prog 29 #[.int .i64 a, .int .i64 n] w fun e w' => e = .returned (.int .i64 ((a + n) % 4096)) ∧ w = w' := by
  have h1 := Int.emod_nonneg a (show (4096 : Int) ≠ 0 by omega)
  have h2 := Int.emod_lt_of_pos a (show (0 : Int) < 4096 by omega)
  have h3 := Int.emod_nonneg n (show (4096 : Int) ≠ 0 by omega)
  have h4 := Int.emod_lt_of_pos n (show (0 : Int) < 4096 by omega)
  have HP := Lib.hid (show (a % 4096 + n % 4096) % 4096 = (a + n) % 4096 by omega)
  go_enter Tryd.func29, Tryd.ntmps29
  go_wp2_with fail
  refine (mod_any _ _).mono ?_
  rintro e w1 ⟨rfl, rfl⟩
  go_wp2_with fail
  refine (mod_any _ _).mono ?_
  rintro e w1 ⟨rfl, rfl⟩
  go_wp2_with fail
  refine (mod_any _ _).mono ?_
  rintro e w1 ⟨rfl, rfl⟩
  go_wp2_with fail
  go_ret
  first | exact ⟨rfl, rfl⟩ | exact ⟨ret_i64 HP.out, rfl⟩

set_option maxHeartbeats 400000 in
theorem dist_any (a n : Int) (w : World) : Calls Tryd.prog 39 #[.int .i64 a, .int .i64 n] w fun e w' => e = .returned (.int .i64 ((n - a) % 4096)) ∧ w = w' := by
  have h1 := Int.emod_nonneg a (show (4096 : Int) ≠ 0 by omega)
  have h2 := Int.emod_lt_of_pos a (show (0 : Int) < 4096 by omega)
  have h3 := Int.emod_nonneg n (show (4096 : Int) ≠ 0 by omega)
  have h4 := Int.emod_lt_of_pos n (show (0 : Int) < 4096 by omega)
  have HP := Lib.hid (show (n % 4096 - a % 4096) % 4096 = (n - a) % 4096 by omega)
  go_enter Tryd.func39, Tryd.ntmps39
  go_wp2_with fail
  refine (mod_any _ _).mono ?_
  rintro e w1 ⟨rfl, rfl⟩
  go_wp2_with fail
  refine (mod_any _ _).mono ?_
  rintro e w1 ⟨rfl, rfl⟩
  go_wp2_with fail
  refine (mod_any _ _).mono ?_
  rintro e w1 ⟨rfl, rfl⟩
  go_wp2_with fail
  go_ret
  first | exact ⟨rfl, rfl⟩ | exact ⟨ret_i64 HP.out, rfl⟩

set_option maxHeartbeats 400000 in
theorem round_any (n : Int) (w : World) : Calls Tryd.prog 33 #[.int .i64 n] w fun e w' => e = .returned (.int .i64 (n % 4096)) ∧ w = w' := by
  obtain ⟨h1, h2⟩ := tmod_range n
  by_cases hn : n < 0
  · have h3 : n.tmod 4096 = -((-n) % 4096) := by
      rw [← Int.tmod_eq_emod_of_nonneg (by omega), Int.neg_tmod, Int.neg_neg]
    obtain ⟨q, hq⟩ : ∃ q, n.tmod 4096 = q := ⟨_, rfl⟩
    rw [hq] at h1 h2 h3
    by_cases hq0 : q < 0
    · have H4 := Lib.hid (show q + 4096 = n % 4096 by omega)
      clear h3
      go_enter Tryd.func33, Tryd.ntmps33
      go_wp2_with fail
      go_ret
      exact ⟨ret_i64 H4.out, rfl⟩
    · have H4 := Lib.hid (show q = n % 4096 by omega)
      clear h3
      go_enter Tryd.func33, Tryd.ntmps33
      go_wp2_with fail
      go_ret
      exact ⟨ret_i64 H4.out, rfl⟩
  · go_enter Tryd.func33, Tryd.ntmps33
    go_wp2_with fail
    go_ret
    exact ⟨rfl, rfl⟩

set_option maxHeartbeats 400000 in
theorem rdist_any (a n : Int) (w : World) : Calls Tryd.prog 15 #[.int .i64 a, .int .i64 n] w fun e w' => e = .returned (.int .i64 ((n - a) % 4096)) ∧ w = w' := by
  have h1 := Int.emod_nonneg a (show (4096 : Int) ≠ 0 by omega)
  have h2 := Int.emod_lt_of_pos a (show (0 : Int) < 4096 by omega)
  have h3 := Int.emod_nonneg n (show (4096 : Int) ≠ 0 by omega)
  have h4 := Int.emod_lt_of_pos n (show (0 : Int) < 4096 by omega)
  have HP := Lib.hid (show (n % 4096 - a % 4096) % 4096 = (n - a) % 4096 by omega)
  go_enter Tryd.func15, Tryd.ntmps15
  go_wp2_with fail
  refine (round_any _ _).mono ?_
  rintro e w1 ⟨rfl, rfl⟩
  go_wp2_with fail
  refine (round_any _ _).mono ?_
  rintro e w1 ⟨rfl, rfl⟩
  go_wp2_with fail
  refine (round_any _ _).mono ?_
  rintro e w1 ⟨rfl, rfl⟩
  go_wp2_with fail
  go_ret
  first | exact ⟨rfl, rfl⟩ | exact ⟨ret_i64 HP.out, rfl⟩

set_option maxHeartbeats 400000 in
theorem radd_any (a n : Int) (w : World) : Calls Tryd.prog 38 #[.int .i64 a, .int .i64 n] w fun e w' => e = .returned (.int .i64 ((a + n) % 4096)) ∧ w = w' := by
  have h1 := Int.emod_nonneg a (show (4096 : Int) ≠ 0 by omega)
  have h2 := Int.emod_lt_of_pos a (show (0 : Int) < 4096 by omega)
  have h3 := Int.emod_nonneg n (show (4096 : Int) ≠ 0 by omega)
  have h4 := Int.emod_lt_of_pos n (show (0 : Int) < 4096 by omega)
  have HP := Lib.hid (show (a % 4096 + n % 4096) % 4096 = (a + n) % 4096 by omega)
  go_enter Tryd.func38, Tryd.ntmps38
  go_wp2_with fail
  refine (round_any _ _).mono ?_
  rintro e w1 ⟨rfl, rfl⟩
  go_wp2_with fail
  refine (round_any _ _).mono ?_
  rintro e w1 ⟨rfl, rfl⟩
  go_wp2_with fail
  refine (round_any _ _).mono ?_
  rintro e w1 ⟨rfl, rfl⟩
  go_wp2_with fail
  go_ret
  first | exact ⟨rfl, rfl⟩ | exact ⟨ret_i64 HP.out, rfl⟩

set_option maxHeartbeats 400000 in
theorem rin_any (a z n : Int) (w : World) : Calls Tryd.prog 16 #[.int .i64 a, .int .i64 z, .int .i64 n] w fun e w' => e = .returned (.bool (decide ((n - a) % 4096 < z))) ∧ w = w' := by
  go_enter Tryd.func16, Tryd.ntmps16
  go_wp2_with fail
  refine (rdist_any _ _ _).mono ?_
  rintro e w1 ⟨rfl, rfl⟩
  go_wp2_with fail
  go_ret
  exact ⟨rfl, rfl⟩
end Go.Proofs.YtbelopffdpdojaaDoor
