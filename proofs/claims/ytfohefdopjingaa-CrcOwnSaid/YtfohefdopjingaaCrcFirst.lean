/-
  The chapter's examples (muezzinlaw2.first): they hold.
-/
import Derived.Test.YtfohefdopjingaaSeal
import Derived.Test.YtfohefdopjingaaCrcRef
namespace Go.Proofs.Ytfohefdopjingaa
open Go.ChangeShapes Go.WideShapes Go.ChangeAt Go.RowKit
set_option linter.unusedVariables false

set_option maxHeartbeats 400000 in
theorem first_any (w : World) : Calls Try.prog 7 #[] w fun e w' => e = .returned (.bool true) ∧ Below w.heap.size w w' := by
  have hr := row_two w (u8v 1) (u8v 2) 5
  have HF := Lib.hid (Crc.fits_sealed [1, 2])
  go_enter Try.func7, Try.ntmps7
  go_wp2_with fail
  refine (seal_any _ 2 2 [1, 2] _ hr (by omega)).mono ?_
  rintro e w1 ⟨A1, n1, C1, rfl, hown1, hb1⟩
  go_wp2_with fail
  refine (fits_any A1 n1 C1 _ _ hown1.row).mono ?_
  rintro e w2 ⟨rfl, nd, rfl⟩
  rw [HF.out]
  go_wp2_with fail
  refine (crcSum_any none 0 0 [] _ (row_nil _ _)).mono ?_
  rintro e w2 ⟨rfl, rfl⟩
  go_wp2_with fail
  refine (refSum_any none 0 0 [] _ (row_nil _ _)).mono ?_
  rintro e w2 ⟨rfl, rfl⟩
  go_wp2_with fail
  go_ret
  refine ⟨rfl, ?_⟩
  exact (((Below.refl _ _).alloc (Nat.le_refl _) _).trans (hb1.mono (by simp))).trans (below_drewN nd)
end Go.Proofs.Ytfohefdopjingaa
