/-
  edca.grow.
-/
import Derived.Test.YtejlfifoehpljaaDoorEdca
import Derived.Deep.RegionWith
import Derived.Maps.AppendAt
namespace Go.Proofs.YtejlfifoehpljaaDoor
open Go.ChangeShapes Go.WideShapes Go.ChangeAt Go.RowKit
open Edca
set_option linter.unusedVariables false

theorem but_of {w w' : World} (B : Nat) (h : Below w.heap.size w w') : w.grownBy w' (some B) := ⟨h.os, h.tape, h.output, h.size, fun k hk _ => h.block k hk⟩
theorem but_set (w : World) (B i : Nat) (v : Value) : w.grownBy (w.setCell ⟨B, i, none⟩ v) (some B) :=
  ⟨rfl, rfl, rfl, by simp [World.setCell], fun k _ hk => Below.heap_setCell w ⟨B, i, none⟩ v k (by intro e; exact hk (by rw [e]))⟩

set_option maxHeartbeats 1000000 in
theorem grow_any (B k : Nat) (hk : k < 4) (h : Nat → Bool) (l g : Nat → Int) (h0 : 0 ≤ g k) (h1 : g k ≤ 1020) (w : World) (hB : Blk w B (ecells h l g) 30) :
    Calls Tryd.prog 17 #[.pointer (some ⟨B, 0, none⟩), .int .i64 k] w fun e w' => e = .returned (.tuple #[]) ∧ Blk w' B (ecells h l (upd g k (grown g k))) 30 ∧ w.grownBy w' (some B) := by
  have hlt := hB.lt
  have hwb : ∀ x y : Int, 3 ≤ x → x ≤ 15 → 7 ≤ y → y ≤ 1023 → IntKind.i64.wrap (2 * (x + g k)) = 2 * (x + g k) ∧ IntKind.i64.wrap (2 * (x + g k) + 1) = 2 * (x + g k) + 1 ∧ (2 * (x + g k) + 1 ≤ y → IntKind.i64.wrap (2 * (x + g k) + 1 - x) = 2 * (x + g k) + 1 - x) ∧ IntKind.i64.wrap (y - x) = y - x :=
    fun x y _ _ _ _ => ⟨IntWalk.i64_in _ (by omega), IntWalk.i64_in _ (by omega), fun _ => IntWalk.i64_in _ (by omega), IntWalk.i64_in _ (by omega)⟩
  rcases (show k = 0 ∨ k = 1 ∨ k = 2 ∨ k = 3 by omega) with rfl | rfl | rfl | rfl
  · have hc : w.cell? ⟨B, 2, none⟩ = some (.int .i64 (g 0)) := hB.cell 2
    obtain ⟨q1, q2, q3, q4⟩ := hwb (fs 0) (ms 0) (by decide) (by decide) (by decide) (by decide)
    have hgr : grown g 0 = min (2 * (fs 0 + g 0) + 1) (ms 0) - fs 0 := rfl
    have HG := Lib.hid hgr
    clear hgr hwb
    have q3' : IntKind.i64.wrap (2 * (fs 0 + g 0) + 1 - fs 0) = 2 * (fs 0 + g 0) + 1 - fs 0 := IntWalk.i64_in _ (by have : fs 0 ≤ 15 := (by decide); have : 0 ≤ fs 0 := (by decide); omega)
    clear q3
    by_cases hm : 2 * (fs 0 + g 0) + 1 ≤ ms 0
    all_goals
     go_enter Tryd.func17, Tryd.ntmps17
     go_wp2_with fail
     go_region_held3 (fun _ => True) (trivial) (first
       | (go_at_call 8; refine (window_any B 0 (by omega) (g 0) h0 h1 w.drew hlt hc).mono ?_; rintro e w1 ⟨rfl, hb1⟩)
       | (go_at_call 25; refine (emost_any 0 (by omega) _).mono ?_; rintro e w2 ⟨rfl, hb2⟩)
       | (go_at_call 19; refine (efirst_any 0 (by omega) _).mono ?_; rintro e w3 ⟨rfl, hb3⟩; have hB3 : Blk w3 B (ecells h l g) 30 := ((Blk.below (w := w.drew) hB hb1 hlt).below hb2 (Nat.lt_of_lt_of_le hlt hb1.size)).below hb3 (Nat.lt_of_lt_of_le hlt (Nat.le_trans hb1.size hb2.size)); have hc3 : w3.cell? ⟨B, 2, none⟩ = some (.int .i64 (g 0)) := hB3.cell 2; have hf3 := hB3.frozen 2))
     go_wp2_with fail
     all_goals
      refine bodyPost_end (results_none rfl _ _ _) rfl ?_
      refine ⟨rfl, ?_, (((but_of B ((below_drewN (w := w) 1).trans hb1)).trans (but_of B hb2)).trans (but_of B hb3)).trans (but_set _ _ _ _)⟩
      first
       | (have e : grown g 0 = 2 * (fs 0 + g 0) + 1 - fs 0 := (by rw [HG.out]; omega)
          rw [e]; exact hB3.set_ 2 (.int .i64 (2 * (fs 0 + g 0) + 1 - fs 0)))
       | (have e : grown g 0 = ms 0 - fs 0 := (by rw [HG.out]; omega)
          rw [e]; exact hB3.set_ 2 (.int .i64 (ms 0 - fs 0)))
  · have hc : w.cell? ⟨B, 5, none⟩ = some (.int .i64 (g 1)) := hB.cell 5
    obtain ⟨q1, q2, q3, q4⟩ := hwb (fs 1) (ms 1) (by decide) (by decide) (by decide) (by decide)
    have hgr : grown g 1 = min (2 * (fs 1 + g 1) + 1) (ms 1) - fs 1 := rfl
    have HG := Lib.hid hgr
    clear hgr hwb
    have q3' : IntKind.i64.wrap (2 * (fs 1 + g 1) + 1 - fs 1) = 2 * (fs 1 + g 1) + 1 - fs 1 := IntWalk.i64_in _ (by have : fs 1 ≤ 15 := (by decide); have : 0 ≤ fs 1 := (by decide); omega)
    clear q3
    by_cases hm : 2 * (fs 1 + g 1) + 1 ≤ ms 1
    all_goals
     go_enter Tryd.func17, Tryd.ntmps17
     go_wp2_with fail
     go_region_held3 (fun _ => True) (trivial) (first
       | (go_at_call 8; refine (window_any B 1 (by omega) (g 1) h0 h1 w.drew hlt hc).mono ?_; rintro e w1 ⟨rfl, hb1⟩)
       | (go_at_call 25; refine (emost_any 1 (by omega) _).mono ?_; rintro e w2 ⟨rfl, hb2⟩)
       | (go_at_call 19; refine (efirst_any 1 (by omega) _).mono ?_; rintro e w3 ⟨rfl, hb3⟩; have hB3 : Blk w3 B (ecells h l g) 30 := ((Blk.below (w := w.drew) hB hb1 hlt).below hb2 (Nat.lt_of_lt_of_le hlt hb1.size)).below hb3 (Nat.lt_of_lt_of_le hlt (Nat.le_trans hb1.size hb2.size)); have hc3 : w3.cell? ⟨B, 5, none⟩ = some (.int .i64 (g 1)) := hB3.cell 5; have hf3 := hB3.frozen 5))
     go_wp2_with fail
     all_goals
      refine bodyPost_end (results_none rfl _ _ _) rfl ?_
      refine ⟨rfl, ?_, (((but_of B ((below_drewN (w := w) 1).trans hb1)).trans (but_of B hb2)).trans (but_of B hb3)).trans (but_set _ _ _ _)⟩
      first
       | (have e : grown g 1 = 2 * (fs 1 + g 1) + 1 - fs 1 := (by rw [HG.out]; omega)
          rw [e]; exact hB3.set_ 5 (.int .i64 (2 * (fs 1 + g 1) + 1 - fs 1)))
       | (have e : grown g 1 = ms 1 - fs 1 := (by rw [HG.out]; omega)
          rw [e]; exact hB3.set_ 5 (.int .i64 (ms 1 - fs 1)))
  · have hc : w.cell? ⟨B, 8, none⟩ = some (.int .i64 (g 2)) := hB.cell 8
    obtain ⟨q1, q2, q3, q4⟩ := hwb (fs 2) (ms 2) (by decide) (by decide) (by decide) (by decide)
    have hgr : grown g 2 = min (2 * (fs 2 + g 2) + 1) (ms 2) - fs 2 := rfl
    have HG := Lib.hid hgr
    clear hgr hwb
    have q3' : IntKind.i64.wrap (2 * (fs 2 + g 2) + 1 - fs 2) = 2 * (fs 2 + g 2) + 1 - fs 2 := IntWalk.i64_in _ (by have : fs 2 ≤ 15 := (by decide); have : 0 ≤ fs 2 := (by decide); omega)
    clear q3
    by_cases hm : 2 * (fs 2 + g 2) + 1 ≤ ms 2
    all_goals
     go_enter Tryd.func17, Tryd.ntmps17
     go_wp2_with fail
     go_region_held3 (fun _ => True) (trivial) (first
       | (go_at_call 8; refine (window_any B 2 (by omega) (g 2) h0 h1 w.drew hlt hc).mono ?_; rintro e w1 ⟨rfl, hb1⟩)
       | (go_at_call 25; refine (emost_any 2 (by omega) _).mono ?_; rintro e w2 ⟨rfl, hb2⟩)
       | (go_at_call 19; refine (efirst_any 2 (by omega) _).mono ?_; rintro e w3 ⟨rfl, hb3⟩; have hB3 : Blk w3 B (ecells h l g) 30 := ((Blk.below (w := w.drew) hB hb1 hlt).below hb2 (Nat.lt_of_lt_of_le hlt hb1.size)).below hb3 (Nat.lt_of_lt_of_le hlt (Nat.le_trans hb1.size hb2.size)); have hc3 : w3.cell? ⟨B, 8, none⟩ = some (.int .i64 (g 2)) := hB3.cell 8; have hf3 := hB3.frozen 8))
     go_wp2_with fail
     all_goals
      refine bodyPost_end (results_none rfl _ _ _) rfl ?_
      refine ⟨rfl, ?_, (((but_of B ((below_drewN (w := w) 1).trans hb1)).trans (but_of B hb2)).trans (but_of B hb3)).trans (but_set _ _ _ _)⟩
      first
       | (have e : grown g 2 = 2 * (fs 2 + g 2) + 1 - fs 2 := (by rw [HG.out]; omega)
          rw [e]; exact hB3.set_ 8 (.int .i64 (2 * (fs 2 + g 2) + 1 - fs 2)))
       | (have e : grown g 2 = ms 2 - fs 2 := (by rw [HG.out]; omega)
          rw [e]; exact hB3.set_ 8 (.int .i64 (ms 2 - fs 2)))
  · have hc : w.cell? ⟨B, 11, none⟩ = some (.int .i64 (g 3)) := hB.cell 11
    obtain ⟨q1, q2, q3, q4⟩ := hwb (fs 3) (ms 3) (by decide) (by decide) (by decide) (by decide)
    have hgr : grown g 3 = min (2 * (fs 3 + g 3) + 1) (ms 3) - fs 3 := rfl
    have HG := Lib.hid hgr
    clear hgr hwb
    have q3' : IntKind.i64.wrap (2 * (fs 3 + g 3) + 1 - fs 3) = 2 * (fs 3 + g 3) + 1 - fs 3 := IntWalk.i64_in _ (by have : fs 3 ≤ 15 := (by decide); have : 0 ≤ fs 3 := (by decide); omega)
    clear q3
    by_cases hm : 2 * (fs 3 + g 3) + 1 ≤ ms 3
    all_goals
     go_enter Tryd.func17, Tryd.ntmps17
     go_wp2_with fail
     go_region_held3 (fun _ => True) (trivial) (first
       | (go_at_call 8; refine (window_any B 3 (by omega) (g 3) h0 h1 w.drew hlt hc).mono ?_; rintro e w1 ⟨rfl, hb1⟩)
       | (go_at_call 25; refine (emost_any 3 (by omega) _).mono ?_; rintro e w2 ⟨rfl, hb2⟩)
       | (go_at_call 19; refine (efirst_any 3 (by omega) _).mono ?_; rintro e w3 ⟨rfl, hb3⟩; have hB3 : Blk w3 B (ecells h l g) 30 := ((Blk.below (w := w.drew) hB hb1 hlt).below hb2 (Nat.lt_of_lt_of_le hlt hb1.size)).below hb3 (Nat.lt_of_lt_of_le hlt (Nat.le_trans hb1.size hb2.size)); have hc3 : w3.cell? ⟨B, 11, none⟩ = some (.int .i64 (g 3)) := hB3.cell 11; have hf3 := hB3.frozen 11))
     go_wp2_with fail
     all_goals
      refine bodyPost_end (results_none rfl _ _ _) rfl ?_
      refine ⟨rfl, ?_, (((but_of B ((below_drewN (w := w) 1).trans hb1)).trans (but_of B hb2)).trans (but_of B hb3)).trans (but_set _ _ _ _)⟩
      first
       | (have e : grown g 3 = 2 * (fs 3 + g 3) + 1 - fs 3 := (by rw [HG.out]; omega)
          rw [e]; exact hB3.set_ 11 (.int .i64 (2 * (fs 3 + g 3) + 1 - fs 3)))
       | (have e : grown g 3 = ms 3 - fs 3 := (by rw [HG.out]; omega)
          rw [e]; exact hB3.set_ 11 (.int .i64 (ms 3 - fs 3)))
end Go.Proofs.YtejlfifoehpljaaDoor
