/-
  edca.Left.
-/
import Derived.Test.YtejlfifoehpljaaDoorEdca
namespace Go.Proofs.YtejlfifoehpljaaDoor
open Go.ChangeShapes Go.WideShapes Go.ChangeAt Go.RowKit
open Edca
set_option linter.unusedVariables false

theorem left_any (B k : Nat) (hk : k < 4) (h : Bool) (l : Int) (w : World) (hc : w.cell? ⟨B, 3 * k, none⟩ = some (.bool h)) (hl : w.cell? ⟨B, 3 * k + 1, none⟩ = some (.int .i64 l)) :
    Calls Tryd.prog 14 #[.pointer (some ⟨B, 0, none⟩), .int .i64 k] w fun e w' => e = .returned (.tuple #[.int .i64 (bif h then l else 0), .bool h]) ∧ w = w' := by
  rcases (show k = 0 ∨ k = 1 ∨ k = 2 ∨ k = 3 by omega) with rfl | rfl | rfl | rfl
  · have hc : w.cell? ⟨B, 0, none⟩ = some (.bool h) := hc
    have hl : w.cell? ⟨B, 1, none⟩ = some (.int .i64 l) := hl
    cases h
    all_goals
      go_enter Tryd.func14, Tryd.ntmps14
      go_wp2_with fail
      refine (fair_any 0 _).mono ?_
      rintro e w1 ⟨rfl, rfl⟩
      go_wp2_with fail
      go_ret2
      exact ⟨rfl, rfl⟩
  · have hc : w.cell? ⟨B, 3, none⟩ = some (.bool h) := hc
    have hl : w.cell? ⟨B, 4, none⟩ = some (.int .i64 l) := hl
    cases h
    all_goals
      go_enter Tryd.func14, Tryd.ntmps14
      go_wp2_with fail
      refine (fair_any 1 _).mono ?_
      rintro e w1 ⟨rfl, rfl⟩
      go_wp2_with fail
      go_ret2
      exact ⟨rfl, rfl⟩
  · have hc : w.cell? ⟨B, 6, none⟩ = some (.bool h) := hc
    have hl : w.cell? ⟨B, 7, none⟩ = some (.int .i64 l) := hl
    cases h
    all_goals
      go_enter Tryd.func14, Tryd.ntmps14
      go_wp2_with fail
      refine (fair_any 2 _).mono ?_
      rintro e w1 ⟨rfl, rfl⟩
      go_wp2_with fail
      go_ret2
      exact ⟨rfl, rfl⟩
  · have hc : w.cell? ⟨B, 9, none⟩ = some (.bool h) := hc
    have hl : w.cell? ⟨B, 10, none⟩ = some (.int .i64 l) := hl
    cases h
    all_goals
      go_enter Tryd.func14, Tryd.ntmps14
      go_wp2_with fail
      refine (fair_any 3 _).mono ?_
      rintro e w1 ⟨rfl, rfl⟩
      go_wp2_with fail
      go_ret2
      exact ⟨rfl, rfl⟩
end Go.Proofs.YtejlfifoehpljaaDoor
