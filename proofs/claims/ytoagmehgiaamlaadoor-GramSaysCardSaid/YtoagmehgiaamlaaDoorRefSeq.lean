/-
  muezzinref1.round, Dist, In.
-/
import Derived.Test.YtoagmehgiaamlaaDoorMa
namespace Go.Proofs.YtoagmehgiaamlaaDoor
open Go.ChangeShapes Go.WideShapes Go.ChangeAt Go.RowKit
set_option linter.unusedVariables false

set_option maxHeartbeats 400000 in
theorem round_any (n : Int) (w : World) (hn0 : -9223372036854775808 ≤ n) (hn1 : n ≤ 9223372036854775807) : Calls Tryd.prog 58 #[.int .i64 n] w fun e w' => e = .returned (.int .i64 (n % 4096)) ∧ w = w' := by
  have e1 := Int.emod_nonneg n (show (4096 : Int) ≠ 0 by omega)
  have e2 := Int.emod_lt_of_pos n (show (0 : Int) < 4096 by omega)
  by_cases hn : n < 0
  · obtain ⟨q, hq⟩ : ∃ q, n.tmod 4096 = q := ⟨_, rfl⟩
    obtain ⟨a1, a2, a3⟩ := tmod_neg (below := 4096) (by omega) hn hq
    rcases a3 with ⟨a3, a4⟩ | ⟨a3, a4⟩
    · subst a3
      have H4 := Lib.hid a4
      clear a4 e1 e2
      go_enter Tryd.func58, Tryd.ntmps58
      go_wp2_with fail
      go_ret
      exact ⟨ret_i64 H4.out.symm, rfl⟩
    · have H4 := Lib.hid a4
      clear a4 e1 e2
      go_enter Tryd.func58, Tryd.ntmps58
      go_wp2_with fail
      go_ret
      exact ⟨ret_i64 H4.out.symm, rfl⟩
  · go_enter Tryd.func58, Tryd.ntmps58
    go_wp2_with fail
    go_ret
    exact ⟨rfl, rfl⟩

set_option maxHeartbeats 400000 in
theorem rdist_any (a n : Int) (w : World) (a0 : -9223372036854775808 ≤ a) (a1 : a ≤ 9223372036854775807) (n0 : -9223372036854775808 ≤ n) (n1 : n ≤ 9223372036854775807) : Calls Tryd.prog 37 #[.int .i64 a, .int .i64 n] w fun e w' => e = .returned (.int .i64 ((n - a) % 4096)) ∧ w = w' := by
  have h1 := Int.emod_nonneg a (show (4096 : Int) ≠ 0 by omega)
  have h2 := Int.emod_lt_of_pos a (show (0 : Int) < 4096 by omega)
  have h3 := Int.emod_nonneg n (show (4096 : Int) ≠ 0 by omega)
  have h4 := Int.emod_lt_of_pos n (show (0 : Int) < 4096 by omega)
  have HP := Lib.hid (show (n % 4096 - a % 4096) % 4096 = (n - a) % 4096 by omega)
  have H1 := Lib.hid (fun w => round_any n w n0 n1)
  have H2 := Lib.hid (fun w => round_any a w a0 a1)
  have H3 := Lib.hid (fun w => round_any (n % 4096 - a % 4096) w (by omega) (by omega))
  clear a0 a1 n0 n1
  go_enter Tryd.func37, Tryd.ntmps37
  go_wp2_with fail
  refine (H1.out _).mono ?_
  rintro e w1 ⟨rfl, rfl⟩
  go_wp2_with fail
  refine (H2.out _).mono ?_
  rintro e w1 ⟨rfl, rfl⟩
  go_wp2_with fail
  refine (H3.out _).mono ?_
  rintro e w1 ⟨rfl, rfl⟩
  go_wp2_with fail
  go_ret
  first | exact ⟨rfl, rfl⟩ | exact ⟨ret_i64 HP.out, rfl⟩

set_option maxHeartbeats 400000 in
theorem rin2_any (st size n : Int) (w : World) (a0 : -9223372036854775808 ≤ st) (a1 : st ≤ 9223372036854775807) (n0 : -9223372036854775808 ≤ n) (n1 : n ≤ 9223372036854775807) : Calls Tryd.prog 36 #[.int .i64 st, .int .i64 size, .int .i64 n] w fun e w' => e = .returned (.bool (decide ((n - st) % 4096 < size))) ∧ w = w' := by
  have H := Lib.hid (fun w => rdist_any st n w a0 a1 n0 n1)
  clear a0 a1 n0 n1
  go_enter Tryd.func36, Tryd.ntmps36
  go_wp2_with fail
  refine (H.out _).mono ?_
  rintro e w1 ⟨rfl, rfl⟩
  go_wp2_with fail
  go_ret
  exact ⟨rfl, rfl⟩
end Go.Proofs.YtoagmehgiaamlaaDoor
