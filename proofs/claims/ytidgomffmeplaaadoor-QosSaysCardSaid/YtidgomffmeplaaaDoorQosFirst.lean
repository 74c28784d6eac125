/-
  The chapter's examples (muezzinlaw3.first): they hold.
-/
import Derived.Test.YtidgomffmeplaaaDoorQosBytes
namespace Go.Proofs.YtidgomffmeplaaaDoor
open Go.ChangeShapes Go.WideShapes Go.ChangeAt Go.RowKit
set_option linter.unusedVariables false

set_option maxRecDepth 100000 in
set_option maxHeartbeats 400000 in
theorem first_any (w : World) : Calls Tryd.prog 9 #[] w fun e w' => e = .returned (.bool true) ∧ Below w.heap.size w w' := by
  go_enter Tryd.func9, Tryd.ntmps9
  go_wp2_with fail
  refine (qosBytes_yes (fun _ => 0) 0 0 false false false none 0 0 [] _ (row_nil _ _) (by decide)).mono ?_
  rintro e w1 ⟨A1, n1, C1, rfl, hown1, hb1⟩
  obtain rfl : n1 = 26 := by rw [← hown1.len, qbytes_length]; rfl
  go_wp2_with fail
  refine (qosLen_any 0 _ (by omega)).mono ?_
  rintro e w2 ⟨rfl, rfl⟩
  go_wp2_with fail
  go_ret
  exact ⟨rfl, hb1⟩
end Go.Proofs.YtidgomffmeplaaaDoor
