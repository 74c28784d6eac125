/-
  The chapter's example; other.
-/
import Derived.Test.YtnndmpanopnncaaChoose
import Derived.Test.YtnndmpanopnncaaRateRow
namespace Go.Proofs.Ytnndmpanopnncaa
open Go.ChangeShapes Go.WideShapes Go.ChangeAt Go.RowKit
set_option linter.unusedVariables false

theorem row_n2 (w : World) (a b : Int) (t : TypeId) : RowN (w.alloc (.cells #[.int .i64 a, .int .i64 b] t)) (some ⟨w.heap.size, 0, none⟩) 2 2 [a, b] := ⟨rfl, row_lit w [a, b] t (by simp)⟩
theorem row_n1 (w : World) (a : Int) (t : TypeId) : RowN (w.alloc (.cells #[.int .i64 a] t)) (some ⟨w.heap.size, 0, none⟩) 1 1 [a] := ⟨rfl, row_lit w [a] t (by simp)⟩
theorem row_n0 (w : World) : RowN w none 0 0 [] := ⟨rfl, row_nil _ _⟩
theorem RowN.alloc {w : World} {A : Option Addr} {n C : Nat} {L : List Int} (h : RowN w A n C L) (o : Obj) : RowN (w.alloc o) A n C L := ⟨h.1, h.2.alloc o⟩

set_option maxHeartbeats 1600000 in
theorem bfirst_any (w : World) : Calls Try.prog 7 #[] w fun e w' => e = .returned (.bool true) ∧ Below w.heap.size w w' := by
  have HA := Lib.hid (RtB.new w ⟨1, 4, 1, 20, 0⟩)
  have BB := Lib.hid (show Below w.heap.size w (w.alloc (.cells #[.int .i64 1, .int .i64 4, .int .i64 1, .int .i64 20, .int .i64 0] 23)) from (Below.refl _ _).alloc (Nat.le_refl _) _)
  go_enter Try.func7, Try.ntmps7
  go_wp2_with fail
  refine (choose_any ⟨1, 4, 1, 20, 0⟩ 4 9000 54840 none 0 0 [] _ (row_n0 _) (by omega)).mono ?_
  rintro e w1 ⟨rfl, hb⟩
  rw [show chP ⟨1, 4, 1, 20, 0⟩ 4 9000 54840 [] = (0, false) by decide +kernel]
  have HA1 := Lib.hid (HA.out.below hb (Nat.le_refl _))
  have BB1 := Lib.hid (BB.out.trans (hb.mono BB.out.size))
  clear hb HA BB
  obtain ⟨e0, e1, e2, e3, e4⟩ := HA1.out.cells
  simp only at e0 e1 e2 e3 e4
  go_wp2_with fail
  refine (choose_any ⟨1, 4, 1, 20, 0⟩ 4 9000 54840 _ 2 2 [100, 100] _ (row_n2 w1 100 100 _) (by omega)).mono ?_
  rintro e w2 ⟨rfl, hb⟩
  rw [show chP ⟨1, 4, 1, 20, 0⟩ 4 9000 54840 [100, 100] = (2, true) by decide +kernel]
  have BB2 := Lib.hid ((BB1.out.alloc BB1.out.size (.cells #[.int .i64 100, .int .i64 100] 3)).trans (hb.mono (BB1.out.alloc BB1.out.size (.cells #[.int .i64 100, .int .i64 100] 3)).size))
  clear hb
  go_wp2_with fail
  go_ret
  exact ⟨rfl, BB2.out⟩

set_option maxHeartbeats 800000 in
theorem other_any (C B T : Int) (w : World) : Calls Try.prog 10 #[.agg #[.int .i64 C, .int .i64 B, .int .i64 T]] w fun e w' => e = .returned (.agg #[.int .i64 C, .int .i64 B, .int .i64 T]) ∧ Below w.heap.size w w' := by
  go_enter Try.func10, Try.ntmps10
  go_wp2_with fail
  exact bodyPost_ret (v := .agg #[.int .i64 C, .int .i64 B, .int .i64 T]) (by simp [results, Try.results10, go_sem]) rfl ⟨rfl, ((Below.refl _ _).alloc (Nat.le_refl _) _).alloc (by simp) _⟩
end Go.Proofs.Ytnndmpanopnncaa
