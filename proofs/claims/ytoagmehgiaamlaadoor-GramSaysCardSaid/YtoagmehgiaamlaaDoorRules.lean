/-
  muezzinlaw25.rules; muezzinlaw25.first.
-/
import Derived.Test.YtoagmehgiaamlaaDoorGramBase
import Derived.Test.YtoagmehgiaamlaaDoorMf
namespace Go.Proofs.YtoagmehgiaamlaaDoor
open Go.ChangeShapes Go.WideShapes Go.ChangeAt Go.RowKit
set_option linter.unusedVariables false

/-- an address of two bytes -/
def adr2 (x y : UInt8) (i : Nat) : UInt8 := if i = 0 then x else if i = 1 then y else 0
/-- the rules of a right session -/
def rulesP (start size : Int) : RulesP := ⟨adr2 2 1, adr2 2 2, ⟨2, 7, 1, 20, 0⟩, start, size, 65535, 54840, true⟩

set_option maxRecDepth 100000 in
set_option maxHeartbeats 800000 in
theorem rules_any (start size : Int) (w : World) : Calls Tryd.prog 9 #[.int .i64 start, .int .i64 size] w fun e w' => e = .returned (ruv (rulesP start size)) ∧ Below w.heap.size w w' := by
  go_enter Tryd.func9, Tryd.ntmps9
  go_wp2_with (refine wpList_store_blk _ (by rfl) 30 _ _ rfl w.heap.size (rucells (rulesP start size)) rfl rfl 30 _ (Blk.new _ _ _) (by kernel_rfl) rfl (by simp [rucells, Value.oneCell']) ?_; intro w1 hk1 hg1)
  exact ret_cell1 rfl w.heap.size _ _ rfl hk1 (by kernel_rfl) (by kernel_rfl) rfl ⟨rfl, Below.grown ((Below.refl _ _).alloc (Nat.le_refl _) _) hg1 (by simp) (by simp)⟩
end Go.Proofs.YtoagmehgiaamlaaDoor
