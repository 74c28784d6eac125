/-
  ba.Sweep's predicates.
-/
import Derived.Test.YthjjneanabnjoaaDoorBaLand
namespace Go.Proofs.YthjjneanabnjoaaDoor
open Go.ChangeShapes Go.WideShapes Go.ChangeAt Go.RowKit
set_option linter.unusedVariables false

/-- why a frame is not worth sending -/
def whyP (retry now : Int) (x : Fm) : Int := if x.fl = true then 0 else if x.m.sent > retry then 3 else if x.m.unt < now then 4 else 0
def goneP (retry now : Int) (x : Fm) : Bool := whyP retry now x != 0
set_option maxHeartbeats 1600000 in
theorem why_any {W : World} {b c B : Nat} {retry now : Int} (x : Fm) (hb : W.cell? ⟨b, 0, none⟩ = some (.pointer (some ⟨B, 0, none⟩))) (hc : W.cell? ⟨c, 0, none⟩ = some (.int .i64 now)) (hB : W.cell? ⟨B, 2, none⟩ = some (.int .i64 retry)) :
    Calls Tryd.prog 39 #[.agg (fmC x).toArray, .pointer (some ⟨b, 0, none⟩), .pointer (some ⟨c, 0, none⟩)] W fun e W' => e = .returned (.int .i64 (whyP retry now x)) ∧ Below W.heap.size W W' := by
  have c1 := Lib.cell?_alloc_some (.cells (fmC x).toArray 81) hb
  have c2 := Lib.cell?_alloc_some (.cells (fmC x).toArray 81) hc
  have c3 := Lib.cell?_alloc_some (.cells (fmC x).toArray 81) hB
  have c8 := bx8 W x
  have c6 := bx6 W x
  have c7 := bx7 W x
  have hb1 : Below W.heap.size W (W.alloc (.cells (fmC x).toArray 81)) := (Below.refl _ _).alloc (Nat.le_refl _) _
  have HB1 := Lib.hid hb1
  clear hb hc hB hb1
  cases hfl : x.fl with
  | true =>
    rw [hfl] at c8
    have HR := Lib.hid (show whyP retry now x = 0 by unfold whyP; rw [hfl]; rfl)
    clear hfl
    go_enter Tryd.func39, Tryd.ntmps39
    go_wp2_with fail
    go_ret
    exact ⟨ret_i64 HR.out.symm, HB1.out⟩
  | false =>
    rw [hfl] at c8
    by_cases hs : x.m.sent > retry
    · have HR := Lib.hid (show whyP retry now x = 3 by unfold whyP; rw [hfl, if_neg (by decide), if_pos hs])
      have g1 : decide (retry < x.m.sent) = true := decide_eq_true hs
      clear hfl hs
      go_enter Tryd.func39, Tryd.ntmps39
      go_wp2_with fail
      go_quiet (fail)
      go_wp2_with fail
      go_ret
      exact ⟨ret_i64 HR.out.symm, HB1.out.trans (below_drewN _)⟩
    · have g1 : decide (retry < x.m.sent) = false := decide_eq_false hs
      by_cases hu : x.m.unt < now
      · have HR := Lib.hid (show whyP retry now x = 4 by unfold whyP; rw [hfl, if_neg (by decide), if_neg hs, if_pos hu])
        have g2 : decide (x.m.unt < now) = true := decide_eq_true hu
        clear hfl hs hu
        go_enter Tryd.func39, Tryd.ntmps39
        go_wp2_with fail
        go_quiet (fail)
        go_wp2_with fail
        go_ret
        exact ⟨ret_i64 HR.out.symm, HB1.out.trans (below_drewN _)⟩
      · have HR := Lib.hid (show whyP retry now x = 0 by unfold whyP; rw [hfl, if_neg (by decide), if_neg hs, if_neg hu])
        have g2 : decide (x.m.unt < now) = false := decide_eq_false hu
        clear hfl hs hu
        go_enter Tryd.func39, Tryd.ntmps39
        go_wp2_with fail
        go_quiet (fail)
        go_wp2_with fail
        go_ret
        exact ⟨ret_i64 HR.out.symm, HB1.out.trans (below_drewN _)⟩
set_option maxRecDepth 100000 in
set_option maxHeartbeats 1600000 in
theorem gone_any {W : World} {a b c B : Nat} {retry now : Int} (x : Fm) (ha : W.cell? ⟨a, 0, none⟩ = some (.func (.func 39) #[] #[.pointer (some ⟨b, 0, none⟩), .pointer (some ⟨c, 0, none⟩)])) (hb : W.cell? ⟨b, 0, none⟩ = some (.pointer (some ⟨B, 0, none⟩))) (hc : W.cell? ⟨c, 0, none⟩ = some (.int .i64 now)) (hB : W.cell? ⟨B, 2, none⟩ = some (.int .i64 retry)) :
    Calls Tryd.prog 41 #[.agg (fmC x).toArray, .pointer (some ⟨a, 0, none⟩)] W fun e W' => e = .returned (.bool (goneP retry now x)) ∧ Below W.heap.size W W' := by
  have c0 := Lib.cell?_alloc_some (.cells (fmC x).toArray 81) ha
  have HY := Lib.hid (why_any x (Lib.cell?_alloc_some (.cells (fmC x).toArray 81) hb) (Lib.cell?_alloc_some (.cells (fmC x).toArray 81) hc) (Lib.cell?_alloc_some (.cells (fmC x).toArray 81) hB))
  have hb1 : Below W.heap.size W (W.alloc (.cells (fmC x).toArray 81)) := (Below.refl _ _).alloc (Nat.le_refl _) _
  have HB1 := Lib.hid hb1
  have HK1 := Lib.hid (Blk.new W (fmC x).toArray 81)
  have HR := Lib.hid (show goneP retry now x = (whyP retry now x != 0) from rfl)
  obtain ⟨z, hz⟩ : ∃ z, whyP retry now x = z := ⟨_, rfl⟩
  rw [hz] at HY HR
  clear ha hb hc hB hb1 hz
  go_enter Tryd.func41, Tryd.ntmps41
  go_wp2_with (refine wpList_load_blk _ (by rfl) 81 _ rfl W.heap.size rfl 81 _ _ HK1.out Tryd.underlying81 rfl (by kernel_rfl) ?_)
  refine HY.out.mono ?_
  rintro e w1 ⟨rfl, hb⟩
  have HB := Lib.hid (HB1.out.trans (hb.mono HB1.out.size))
  clear hb
  go_wp2_with fail
  go_ret
  exact ⟨ret_bool HR.out.symm, HB.out⟩
theorem pred_gone {w : World} {a b c B : Nat} {retry now : Int} (ha : w.cell? ⟨a, 0, none⟩ = some (.func (.func 39) #[] #[.pointer (some ⟨b, 0, none⟩), .pointer (some ⟨c, 0, none⟩)])) (hb : w.cell? ⟨b, 0, none⟩ = some (.pointer (some ⟨B, 0, none⟩))) (hc : w.cell? ⟨c, 0, none⟩ = some (.int .i64 now)) (hB : w.cell? ⟨B, 2, none⟩ = some (.int .i64 retry)) :
    PredF 41 #[.pointer (some ⟨a, 0, none⟩)] (goneP retry now) w :=
  ⟨enters_of Tryd.func41 (by kernel_rfl) rfl, fun W x hW => gone_any x ((hW.cell (p := ⟨a, 0, none⟩) (World.block_lt_of_cell? w _ ha)).trans ha) ((hW.cell (p := ⟨b, 0, none⟩) (World.block_lt_of_cell? w _ hb)).trans hb) ((hW.cell (p := ⟨c, 0, none⟩) (World.block_lt_of_cell? w _ hc)).trans hc) ((hW.cell (p := ⟨B, 2, none⟩) (World.block_lt_of_cell? w _ hB)).trans hB)⟩
end Go.Proofs.YthjjneanabnjoaaDoor
