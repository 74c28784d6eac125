/-
  slices.Clone of bytes.
-/
import Derived.Test.YthjjneanabnjoaaDoorMem
namespace Go.Proofs.YthjjneanabnjoaaDoor
open Go.ChangeShapes Go.WideShapes Go.ChangeAt Go.RowKit
set_option linter.unusedVariables false

set_option maxHeartbeats 400000 in
theorem clone_any (a : Option Addr) (len cap : Nat) (xs : List UInt8) (w : World) (h : Row w 1 a len cap (xs.map u8v)) (hl : len ≤ 1048576) :
    Calls Tryd.prog 57 #[.slice a len cap] w fun e w' => GivesU8 w xs e w' ∧ (a = none → e = .returned (.slice none 0 0)) := by
  have hm := h.len_le
  rcases a with _ | a
  · have h0 : cap = 0 := h.2.2.2.1 rfl
    have h1 : len = 0 := by have := h.2.1; omega
    have h2 : xs = [] := List.eq_nil_of_length_eq_zero (by simpa [h1] using h.1)
    subst h0 h1 h2
    have hn := fun (w : World) => Lib.run_eql_slice_nil (P := Tryd.prog) w 30 5 none 0 0 0 0 Tryd.underlying30
    go_enter Tryd.func57, Tryd.ntmps57
    go_wp2_with fail
    go_ret
    exact ⟨⟨none, 0, 0, rfl, ownU8_nil _ _, Below.refl _ _⟩, fun _ => rfl⟩
  · have hn := fun (w : World) => Lib.run_eql_slice_nil (P := Tryd.prog) w 30 5 (some a) len cap 0 0 Tryd.underlying30
    go_enter Tryd.func57, Tryd.ntmps57
    go_wp2_with (at_builtin; refine append_u8 _ rfl (.tmp 5) (.tmp 6) rfl w.heap.size _ 0 0 [] rfl (ownU8_made w) (some a) len cap xs rfl (h.alloc _) (by omega) (by simp) ?_; intro A2 C2 w2 hown2 hg2 hat2)
    go_ret
    refine ⟨⟨_, _, _, rfl, by simpa using hown2, below_grown ((Below.refl _ _).alloc (Nat.le_refl _) _) (ownU8_made w) (Nat.le_refl _) (by simp) hg2⟩, fun e => by cases e⟩
end Go.Proofs.YthjjneanabnjoaaDoor
