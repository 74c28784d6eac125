/-
  The chapter's example.
-/
import Derived.Test.YticgdoeamabklaaAirMore
import Derived.Test.YticgdoeamabklaaNumber
namespace Go.Proofs.Yticgdoeamabklaa
open Go.ChangeShapes Go.WideShapes Go.ChangeAt Go.RowKit
set_option linter.unusedVariables false

set_option maxHeartbeats 800000 in
theorem afirst_any (w : World) : Calls Try.prog 8 #[] w fun e w' => e = .returned (.bool true) ∧ Below w.heap.size w w' := by
  go_enter Try.func8, Try.ntmps8
  go_wp2_with fail
  refine (ppdu_any ⟨1, 0, 1, 20, 0⟩ 0 _ (by omega) (by omega)).mono ?_
  rintro e w1 ⟨rfl, hb⟩
  rw [show ppP ⟨1, 0, 1, 20, 0⟩ 0 = 240 by decide +kernel]
  go_wp2_with fail
  go_ret
  exact ⟨rfl, hb⟩
end Go.Proofs.Yticgdoeamabklaa
