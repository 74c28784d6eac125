/-
  The functions of edca: what each computes.
-/
import Derived.Test.YtejlfifoehpljaaDoorBase
import Derived.Test.YtejlfifoehpljaaDoorEdcaPlain
import Derived.Deep.RegionHeld3
namespace Go.Proofs.YtejlfifoehpljaaDoor
open Go.ChangeShapes Go.WideShapes Go.ChangeAt Go.RowKit
open Edca
set_option linter.unusedVariables false

def ecells (h : Nat → Bool) (l g : Nat → Int) : Array Value := #[.bool (h 0), .int .i64 (l 0), .int .i64 (g 0), .bool (h 1), .int .i64 (l 1), .int .i64 (g 1), .bool (h 2), .int .i64 (l 2), .int .i64 (g 2), .bool (h 3), .int .i64 (l 3), .int .i64 (g 3)]

theorem fair_any (k : Int) (w : World) : Calls Tryd.prog 18 #[.int .i64 k] w fun e w' => e = .returned (.bool (decide (0 ≤ k) && decide (k < 4))) ∧ w = w' := by
  by_cases h : 0 ≤ k
  · have h0 : decide (0 ≤ k) = true := by simpa using h
    go_enter Tryd.func18, Tryd.ntmps18
    go_wp2_with fail
    go_ret
    exact ⟨ret_bool (by rw [h0]; rfl), rfl⟩
  · have h0 : decide (0 ≤ k) = false := by simpa using h
    go_enter Tryd.func18, Tryd.ntmps18
    go_wp2_with fail
    go_ret
    exact ⟨rfl, rfl⟩

theorem wait_any (k : Nat) (hk : k < 4) (w : World) : Calls Tryd.prog 16 #[.int .i64 k] w fun e w' => e = .returned (.int .i64 (wt k)) ∧ Below w.heap.size w w' := by
  rcases (show k = 0 ∨ k = 1 ∨ k = 2 ∨ k = 3 by omega) with rfl | rfl | rfl | rfl
  all_goals
    go_enter Tryd.func16, Tryd.ntmps16
    go_wp2_with fail
    go_ret
    exact ⟨rfl, (Below.refl _ _).alloc (Nat.le_refl _) _⟩
theorem efirst_any (k : Nat) (hk : k < 4) (w : World) : Calls Tryd.prog 19 #[.int .i64 k] w fun e w' => e = .returned (.int .i64 (fs k)) ∧ Below w.heap.size w w' := by
  rcases (show k = 0 ∨ k = 1 ∨ k = 2 ∨ k = 3 by omega) with rfl | rfl | rfl | rfl
  all_goals
    go_enter Tryd.func19, Tryd.ntmps19
    go_wp2_with fail
    go_ret
    exact ⟨rfl, (Below.refl _ _).alloc (Nat.le_refl _) _⟩
theorem emost_any (k : Nat) (hk : k < 4) (w : World) : Calls Tryd.prog 25 #[.int .i64 k] w fun e w' => e = .returned (.int .i64 (ms k)) ∧ Below w.heap.size w w' := by
  rcases (show k = 0 ∨ k = 1 ∨ k = 2 ∨ k = 3 by omega) with rfl | rfl | rfl | rfl
  all_goals
    go_enter Tryd.func25, Tryd.ntmps25
    go_wp2_with fail
    go_ret
    exact ⟨rfl, (Below.refl _ _).alloc (Nat.le_refl _) _⟩

theorem window_any (B k : Nat) (hk : k < 4) (gk : Int) (h0 : 0 ≤ gk) (h1 : gk ≤ 1020) (w : World) (hB : B < w.heap.size) (hc : w.cell? ⟨B, 3 * k + 2, none⟩ = some (.int .i64 gk)) :
    Calls Tryd.prog 8 #[.pointer (some ⟨B, 0, none⟩), .int .i64 k] w fun e w' => e = .returned (.int .i64 (fs k + gk)) ∧ Below w.heap.size w w' := by
  have hwrap : ∀ x : Int, 0 ≤ x → x ≤ 15 → IntKind.i64.wrap (x + gk) = x + gk := fun x _ _ => IntWalk.i64_in _ (by omega)
  rcases (show k = 0 ∨ k = 1 ∨ k = 2 ∨ k = 3 by omega) with rfl | rfl | rfl | rfl
  · have hc : w.cell? ⟨B, 2, none⟩ = some (.int .i64 gk) := hc
    have hwr : IntKind.i64.wrap (fs 0 + gk) = fs 0 + gk := hwrap (fs 0) (by decide) (by decide)
    go_enter Tryd.func8, Tryd.ntmps8
    go_wp2_with fail
    refine (fair_any 0 _).mono ?_
    rintro e w1 ⟨rfl, rfl⟩
    go_wp2_with fail
    go_region_held3 (fun w' => w'.cell? ⟨B, 2, none⟩ = some (.int .i64 gk) ∧ Below w.heap.size w w') (first | exact ⟨hc, below_drewN (w := w) 1⟩ | exact ⟨(hb1.cell (p := ⟨B, 2, none⟩) hB).trans hc, (below_drewN (w := w) 1).trans hb1⟩) ((refine (efirst_any 0 (by omega) _).mono ?_; rintro e w1 ⟨rfl, hb1⟩))
    have hS : w1.cell? ⟨B, 2, none⟩ = some (.int .i64 gk) ∧ Below w.heap.size w w1 := by assumption
    go_wp2_with fail
    go_ret
    exact ⟨rfl, hS.2⟩
  · have hc : w.cell? ⟨B, 5, none⟩ = some (.int .i64 gk) := hc
    have hwr : IntKind.i64.wrap (fs 1 + gk) = fs 1 + gk := hwrap (fs 1) (by decide) (by decide)
    go_enter Tryd.func8, Tryd.ntmps8
    go_wp2_with fail
    refine (fair_any 1 _).mono ?_
    rintro e w1 ⟨rfl, rfl⟩
    go_wp2_with fail
    go_region_held3 (fun w' => w'.cell? ⟨B, 5, none⟩ = some (.int .i64 gk) ∧ Below w.heap.size w w') (first | exact ⟨hc, below_drewN (w := w) 1⟩ | exact ⟨(hb1.cell (p := ⟨B, 5, none⟩) hB).trans hc, (below_drewN (w := w) 1).trans hb1⟩) ((refine (efirst_any 1 (by omega) _).mono ?_; rintro e w1 ⟨rfl, hb1⟩))
    have hS : w1.cell? ⟨B, 5, none⟩ = some (.int .i64 gk) ∧ Below w.heap.size w w1 := by assumption
    go_wp2_with fail
    go_ret
    exact ⟨rfl, hS.2⟩
  · have hc : w.cell? ⟨B, 8, none⟩ = some (.int .i64 gk) := hc
    have hwr : IntKind.i64.wrap (fs 2 + gk) = fs 2 + gk := hwrap (fs 2) (by decide) (by decide)
    go_enter Tryd.func8, Tryd.ntmps8
    go_wp2_with fail
    refine (fair_any 2 _).mono ?_
    rintro e w1 ⟨rfl, rfl⟩
    go_wp2_with fail
    go_region_held3 (fun w' => w'.cell? ⟨B, 8, none⟩ = some (.int .i64 gk) ∧ Below w.heap.size w w') (first | exact ⟨hc, below_drewN (w := w) 1⟩ | exact ⟨(hb1.cell (p := ⟨B, 8, none⟩) hB).trans hc, (below_drewN (w := w) 1).trans hb1⟩) ((refine (efirst_any 2 (by omega) _).mono ?_; rintro e w1 ⟨rfl, hb1⟩))
    have hS : w1.cell? ⟨B, 8, none⟩ = some (.int .i64 gk) ∧ Below w.heap.size w w1 := by assumption
    go_wp2_with fail
    go_ret
    exact ⟨rfl, hS.2⟩
  · have hc : w.cell? ⟨B, 11, none⟩ = some (.int .i64 gk) := hc
    have hwr : IntKind.i64.wrap (fs 3 + gk) = fs 3 + gk := hwrap (fs 3) (by decide) (by decide)
    go_enter Tryd.func8, Tryd.ntmps8
    go_wp2_with fail
    refine (fair_any 3 _).mono ?_
    rintro e w1 ⟨rfl, rfl⟩
    go_wp2_with fail
    go_region_held3 (fun w' => w'.cell? ⟨B, 11, none⟩ = some (.int .i64 gk) ∧ Below w.heap.size w w') (first | exact ⟨hc, below_drewN (w := w) 1⟩ | exact ⟨(hb1.cell (p := ⟨B, 11, none⟩) hB).trans hc, (below_drewN (w := w) 1).trans hb1⟩) ((refine (efirst_any 3 (by omega) _).mono ?_; rintro e w1 ⟨rfl, hb1⟩))
    have hS : w1.cell? ⟨B, 11, none⟩ = some (.int .i64 gk) ∧ Below w.heap.size w w1 := by assumption
    go_wp2_with fail
    go_ret
    exact ⟨rfl, hS.2⟩
end Go.Proofs.YtejlfifoehpljaaDoor
