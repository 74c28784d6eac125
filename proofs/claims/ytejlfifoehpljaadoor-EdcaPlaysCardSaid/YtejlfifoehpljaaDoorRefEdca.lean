/-
  The document's Edca (muezzinref15): wait, least, greatest, Window, wider.
-/
import Derived.Test.YtejlfifoehpljaaDoorEdcaContend
namespace Go.Proofs.YtejlfifoehpljaaDoor
open Go.ChangeShapes Go.WideShapes Go.ChangeAt Go.RowKit
open Edca
set_option linter.unusedVariables false

/-- the windows (0: none yet), the counters (and 1; 0: none) -/
def rcells (d c : Nat → Int) : Array Value := #[.int .i64 (d 0), .int .i64 (d 1), .int .i64 (d 2), .int .i64 (d 3), .int .i64 (c 0), .int .i64 (c 1), .int .i64 (c 2), .int .i64 (c 3)]
theorem r_d (d c : Nat → Int) (k : Nat) (hk : k < 4) : (rcells d c)[k]? = some (.int .i64 (d k)) := by
  rcases (show k = 0 ∨ k = 1 ∨ k = 2 ∨ k = 3 by omega) with rfl | rfl | rfl | rfl <;> rfl
theorem r_c (d c : Nat → Int) (k : Nat) (hk : k < 4) : (rcells d c)[4 + k]? = some (.int .i64 (c k)) := by
  rcases (show k = 0 ∨ k = 1 ∨ k = 2 ∨ k = 3 by omega) with rfl | rfl | rfl | rfl <;> rfl
theorem r_setd (d c : Nat → Int) (k : Nat) (hk : k < 4) (v : Int) : (rcells d c).setIfInBounds k (.int .i64 v) = rcells (upd d k v) c := by
  rcases (show k = 0 ∨ k = 1 ∨ k = 2 ∨ k = 3 by omega) with rfl | rfl | rfl | rfl <;> rfl
theorem r_setc (d c : Nat → Int) (k : Nat) (hk : k < 4) (v : Int) : (rcells d c).setIfInBounds (4 + k) (.int .i64 v) = rcells d (upd c k v) := by
  rcases (show k = 0 ∨ k = 1 ∨ k = 2 ∨ k = 3 by omega) with rfl | rfl | rfl | rfl <;> rfl

theorem rwait_any (k : Nat) (hk : k < 4) (w : World) : Calls Tryd.prog 22 #[.int .i64 k] w fun e w' => e = .returned (.int .i64 (wt k)) ∧ Below w.heap.size w w' := by
  rcases (show k = 0 ∨ k = 1 ∨ k = 2 ∨ k = 3 by omega) with rfl | rfl | rfl | rfl
  all_goals
    go_enter Tryd.func22, Tryd.ntmps22
    go_wp2_with fail
    go_ret
    exact ⟨rfl, (Below.refl _ _).alloc (Nat.le_refl _) _⟩

theorem rleast_any (k : Nat) (hk : k < 4) (w : World) : Calls Tryd.prog 24 #[.int .i64 k] w fun e w' => e = .returned (.int .i64 (fs k)) ∧ Below w.heap.size w w' := by
  rcases (show k = 0 ∨ k = 1 ∨ k = 2 ∨ k = 3 by omega) with rfl | rfl | rfl | rfl
  all_goals
    go_enter Tryd.func24, Tryd.ntmps24
    go_wp2_with fail
    go_ret
    exact ⟨rfl, (Below.refl _ _).alloc (Nat.le_refl _) _⟩

theorem rmost_any (k : Nat) (hk : k < 4) (w : World) : Calls Tryd.prog 28 #[.int .i64 k] w fun e w' => e = .returned (.int .i64 (ms k)) ∧ Below w.heap.size w w' := by
  rcases (show k = 0 ∨ k = 1 ∨ k = 2 ∨ k = 3 by omega) with rfl | rfl | rfl | rfl
  all_goals
    go_enter Tryd.func28, Tryd.ntmps28
    go_wp2_with fail
    go_ret
    exact ⟨rfl, (Below.refl _ _).alloc (Nat.le_refl _) _⟩

theorem rwindow_any (B k : Nat) (hk : k < 4) (dk g : Int) (hg : max dk (fs k) = fs k + g) (w : World) (hB : B < w.heap.size) (hc : w.cell? ⟨B, k, none⟩ = some (.int .i64 dk)) :
    Calls Tryd.prog 15 #[.pointer (some ⟨B, 0, none⟩), .int .i64 k] w fun e w' => e = .returned (.int .i64 (fs k + g)) ∧ Below w.heap.size w w' := by
  have e1 : (k : Int) < 4 := by omega
  have e0 : (0 : Int) ≤ (k : Int) := by omega
  have HG := Lib.hid hg
  clear hg
  by_cases hm : dk < fs k
  all_goals
    go_enter Tryd.func15, Tryd.ntmps15
    go_wp2_with fail
    go_region_held3 (fun w' => w'.cell? ⟨B, k, none⟩ = some (.int .i64 dk) ∧ Below w.heap.size w w') (first | exact ⟨hc, below_drewN (w := w) 1⟩ | exact ⟨(hb1.cell (p := ⟨B, k, none⟩) hB).trans hc, (below_drewN (w := w) 1).trans hb1⟩ | assumption) ((refine (rleast_any k hk _).mono ?_; rintro e w1 ⟨rfl, hb1⟩))
    have hS : w1.cell? ⟨B, k, none⟩ = some (.int .i64 dk) ∧ Below w.heap.size w w1 := by assumption
    have hgg := HG.out
    go_wp2_with fail
    all_goals
      go_ret
      refine ⟨?_, hS.2⟩
      first
      | (rw [show fs k + g = fs k by omega]; rfl)
      | (rw [show fs k + g = dk by omega]; rfl)

theorem rwider_any (B k : Nat) (hk : k < 4) (d c : Nat → Int) (g : Int) (hg : max (d k) (fs k) = fs k + g) (h0 : 0 ≤ g) (h1 : g ≤ 1020) (w : World) (hB : Blk w B (rcells d c) 46) :
    Calls Tryd.prog 23 #[.pointer (some ⟨B, 0, none⟩), .int .i64 k] w fun e w' => e = .returned (.tuple #[]) ∧ Blk w' B (rcells (upd d k (min (2 * (fs k + g) + 1) (ms k))) c) 46 ∧ w.grownBy w' (some B) := by
  have hlt := hB.lt
  have hc : w.cell? ⟨B, k, none⟩ = some (.int .i64 (d k)) := (hB.cell _).trans (r_d _ _ k hk)
  have hfs : fs k ≤ 15 ∧ 3 ≤ fs k := by rcases (show k = 0 ∨ k = 1 ∨ k = 2 ∨ k = 3 by omega) with rfl | rfl | rfl | rfl <;> decide
  have q1 : IntKind.i64.wrap (2 * (fs k + g)) = 2 * (fs k + g) := IntWalk.i64_in _ (by omega)
  have q2 : IntKind.i64.wrap (2 * (fs k + g) + 1) = 2 * (fs k + g) + 1 := IntWalk.i64_in _ (by omega)
  have e1 : (k : Int) < 4 := by omega
  have e0 : (0 : Int) ≤ (k : Int) := by omega
  by_cases hm : 2 * (fs k + g) + 1 ≤ ms k
  all_goals
    go_enter Tryd.func23, Tryd.ntmps23
    go_wp2_with fail
    go_region_held3 (fun _ => True) (trivial) (first
      | (go_at_call 15; refine (rwindow_any B k hk (d k) g hg w.drew hlt hc).mono ?_; rintro e w1 ⟨rfl, hb1⟩)
      | (go_at_call 28; refine (rmost_any k hk _).mono ?_; rintro e w3 ⟨rfl, hb3⟩; have hB3 : Blk w3 B (rcells d c) 46 := (Blk.below (w := w.drew) hB hb1 hlt).below hb3 (Nat.lt_of_lt_of_le hlt hb1.size); have hc3 : w3.cell? ⟨B, k, none⟩ = some (.int .i64 (d k)) := (hB3.cell _).trans (r_d _ _ k hk); have hf3 := hB3.frozen k))
    have HS3 := Lib.hid (hB3.set_ k (.int .i64 (min (2 * (fs k + g) + 1) (ms k))))
    have HG3 := Lib.hid ((((but_of B ((below_drewN (w := w) 1).trans hb1)).trans (but_of B hb3))).trans (but_set w3 B k (.int .i64 (min (2 * (fs k + g) + 1) (ms k)))))
    go_wp2_with fail
    all_goals
      refine bodyPost_end (results_none rfl _ _ _) rfl ?_
      have hs3 := HS3.out
      have hg3 := HG3.out
      rw [r_setd _ _ k hk] at hs3
      first
       | (have e : min (2 * (fs k + g) + 1) (ms k) = 2 * (fs k + g) + 1 := (by omega)
          rw [e] at hs3 hg3 ⊢
          exact ⟨rfl, hs3, hg3⟩)
       | (have e : min (2 * (fs k + g) + 1) (ms k) = ms k := (by omega)
          rw [e] at hs3 hg3 ⊢
          exact ⟨rfl, hs3, hg3⟩)
end Go.Proofs.YtejlfifoehpljaaDoor
