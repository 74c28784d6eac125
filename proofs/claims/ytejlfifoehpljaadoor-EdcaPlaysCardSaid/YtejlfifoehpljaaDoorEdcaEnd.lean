/-
  edca.End; Window of no category.
-/
import Derived.Test.YtejlfifoehpljaaDoorEdcaContend
import Derived.Test.YtejlfifoehpljaaDoorErr
namespace Go.Proofs.YtejlfifoehpljaaDoor
open Go.ChangeShapes Go.WideShapes Go.ChangeAt Go.RowKit
open Edca
set_option linter.unusedVariables false

theorem window_none (B : Nat) (w : World) : Calls Tryd.prog 8 #[.pointer (some ⟨B, 0, none⟩), .int .i64 (-1)] w fun e w' => e = .returned (.int .i64 0) ∧ w = w' := by
  go_enter Tryd.func8, Tryd.ntmps8
  go_wp2_with fail
  refine (fair_any (-1) _).mono ?_
  rintro e w1 ⟨rfl, rfl⟩
  go_wp2_with fail
  go_ret
  exact ⟨rfl, rfl⟩

theorem end_four (B : Nat) (v : Bool) (w : World) {E : Nat → Addr} (hE : Errs allErr w E) : Calls Tryd.prog 9 #[.pointer (some ⟨B, 0, none⟩), .int .i64 4, .bool v] w fun e w' => e = .returned (errV E 2) ∧ w = w' := by
  have hc := hE.at_ 2 0 (by decide) rfl
  go_enter Tryd.func9, Tryd.ntmps9
  go_wp2_with fail
  refine (fair_any 4 _).mono ?_
  rintro e w1 ⟨rfl, rfl⟩
  go_wp2_with fail
  go_ret
  exact ⟨rfl, rfl⟩

theorem end_ill (B k : Nat) (hk : k < 4) (h : Nat → Bool) (l g : Nat → Int) (h0 : 0 ≤ g k) (h1 : g k ≤ 1020) (w : World) (hB : Blk w B (ecells h l g) 30) :
    Calls Tryd.prog 9 #[.pointer (some ⟨B, 0, none⟩), .int .i64 k, .bool false] w fun e w' => e = .returned .nilIface ∧ Blk w' B (ecells h l (upd g k (grown g k))) 30 ∧ w.grownBy w' (some B) := by
  have e1 : (k : Int) < 4 := by omega
  have e0 : (0 : Int) ≤ (k : Int) := by omega
  have d0 : decide (0 ≤ (k : Int)) = true := decide_eq_true e0
  have d1 : decide ((k : Int) < 4) = true := decide_eq_true e1
  go_enter Tryd.func9, Tryd.ntmps9
  go_wp2_with fail
  refine (fair_any k _).mono ?_
  rintro e w1 ⟨rfl, rfl⟩
  go_wp2_with fail
  refine (grow_any B k hk h l g h0 h1 _ hB).mono ?_
  rintro e w2 ⟨rfl, hk2, hg2⟩
  go_wp2_with fail
  go_ret
  exact ⟨rfl, hk2, hg2⟩

theorem e_setg (h : Nat → Bool) (l g : Nat → Int) (k : Nat) (hk : k < 4) (v : Int) : (ecells h l g).setIfInBounds (k * 3 + 2) (.int .i64 v) = ecells h l (upd g k v) := by
  rcases (show k = 0 ∨ k = 1 ∨ k = 2 ∨ k = 3 by omega) with rfl | rfl | rfl | rfl <;> rfl

theorem end_well (B k : Nat) (hk : k < 4) (h : Nat → Bool) (l g : Nat → Int) (w : World) (hB : Blk w B (ecells h l g) 30) :
    Calls Tryd.prog 9 #[.pointer (some ⟨B, 0, none⟩), .int .i64 k, .bool true] w fun e w' => e = .returned .nilIface ∧ Blk w' B (ecells h l (upd g k 0)) 30 ∧ w.grownBy w' (some B) := by
  have e1 : (k : Int) < 4 := by omega
  have e0 : (0 : Int) ≤ (k : Int) := by omega
  have d0 : decide (0 ≤ (k : Int)) = true := decide_eq_true e0
  have d1 : decide ((k : Int) < 4) = true := decide_eq_true e1
  have c2 : w.cell? ⟨B, k * 3 + 2, none⟩ = some (.int .i64 (g k)) := (hB.cell _).trans (by rw [Nat.mul_comm]; exact e_g _ _ _ k hk)
  have f2 := hB.frozen (k * 3 + 2)
  go_enter Tryd.func9, Tryd.ntmps9
  go_wp2_with fail
  refine (fair_any k _).mono ?_
  rintro e w1 ⟨rfl, rfl⟩
  go_wp2_with fail
  go_ret
  refine ⟨rfl, ?_, but_set _ _ _ _⟩
  have := hB.set_ (k * 3 + 2) (.int .i64 0)
  rw [e_setg _ _ _ k hk] at this
  exact this
end Go.Proofs.YtejlfifoehpljaaDoor
