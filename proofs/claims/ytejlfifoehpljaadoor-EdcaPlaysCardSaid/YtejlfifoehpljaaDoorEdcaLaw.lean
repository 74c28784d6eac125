/-
  muezzinlaw18.first; how the laws call Contend.
-/
import Derived.Test.YtejlfifoehpljaaDoorEdcaContend
import Derived.Test.YtejlfifoehpljaaDoorEdcaLeft
namespace Go.Proofs.YtejlfifoehpljaaDoor
open Go.ChangeShapes Go.WideShapes Go.ChangeAt Go.RowKit
open Edca
set_option linter.unusedVariables false

theorem i4_bounds {a b c d : Int} (ha : 0 ≤ a ∧ a < 4294967296) (hb : 0 ≤ b ∧ b < 4294967296) (hc : 0 ≤ c ∧ c < 4294967296) (hd : 0 ≤ d ∧ d < 4294967296) : ∀ k, k < 4 → 0 ≤ i4 a b c d k ∧ i4 a b c d k < 4294967296 := by
  intro k hk
  rcases (show k = 0 ∨ k = 1 ∨ k = 2 ∨ k = 3 by omega) with rfl | rfl | rfl | rfl
  · exact ha
  · exact hb
  · exact hc
  · exact hd

set_option maxRecDepth 100000 in
theorem first_any (w : World) : Calls Tryd.prog 5 #[] w fun e w' => e = .returned (.bool true) ∧ Below w.heap.size w w' := by
  go_enter Tryd.func5, Tryd.ntmps5
  go_wp2_with fail
  refine (contend_any w.heap.size (b4 false true false false) (i4 0 0 0 0) s0 inv0 (i4_bounds (by decide) (by decide) (by decide) (by decide)) _ (Blk.new w _ _)).mono ?_
  rintro e w1 ⟨rfl, hk1, hg1⟩
  have hb1 : Below w.heap.size w w1 := Below.grown ((Below.refl _ _).alloc (Nat.le_refl _) _) hg1 (by simp) (by simp)
  rw [first_law.1, first_law.2.1, first_law.2.2]
  clear hg1 hk1
  go_wp2_with fail
  go_ret
  exact ⟨rfl, hb1⟩
end Go.Proofs.YtejlfifoehpljaaDoor
