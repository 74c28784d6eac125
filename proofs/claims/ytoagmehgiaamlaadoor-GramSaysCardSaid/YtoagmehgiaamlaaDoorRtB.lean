/-
  A block that holds a rate.
-/
import Derived.Test.YtoagmehgiaamlaaDoorRateRow
namespace Go.Proofs.YtoagmehgiaamlaaDoor
open Go.ChangeShapes Go.WideShapes Go.ChangeAt Go.RowKit
set_option linter.unusedVariables false

def RtB (w : World) (n : Nat) (r : RT) : Prop := Blk w n #[.int .i64 r.m, .int .i64 r.c, .int .i64 r.s, .int .i64 r.w, .int .i64 r.g] 28
theorem RtB.cells {w : World} {n : Nat} {r : RT} (h : RtB w n r) : w.cell? ⟨n, 0, none⟩ = some (.int .i64 r.m) ∧ w.cell? ⟨n, 1, none⟩ = some (.int .i64 r.c) ∧ w.cell? ⟨n, 2, none⟩ = some (.int .i64 r.s) ∧ w.cell? ⟨n, 3, none⟩ = some (.int .i64 r.w) ∧ w.cell? ⟨n, 4, none⟩ = some (.int .i64 r.g) :=
  ⟨Blk.cell h 0, Blk.cell h 1, Blk.cell h 2, Blk.cell h 3, Blk.cell h 4⟩
theorem RtB.below {w w' : World} {n : Nat} {r : RT} (h : RtB w n r) {B : Nat} (hb : Below B w w') (hB : w.heap.size ≤ B) : RtB w' n r := Blk.below h hb (Nat.lt_of_lt_of_le (Blk.lt h) hB)
theorem RtB.lt {w : World} {n : Nat} {r : RT} (h : RtB w n r) : n < w.heap.size := Blk.lt h
theorem RtB.new (w : World) (r : RT) : RtB (w.alloc (.cells #[.int .i64 r.m, .int .i64 r.c, .int .i64 r.s, .int .i64 r.w, .int .i64 r.g] 28)) w.heap.size r := Blk.new w _ _
theorem RtB.alloc {w : World} {n : Nat} {r : RT} (h : RtB w n r) (o : Obj) : RtB (w.alloc o) n r := Blk.alloc h o
theorem rk {x y : World} {n B : Nat} {r : RT} (h : x.cell? ⟨n, 0, none⟩ = some (.int .i64 r.m) ∧ x.cell? ⟨n, 1, none⟩ = some (.int .i64 r.c) ∧ x.cell? ⟨n, 2, none⟩ = some (.int .i64 r.s) ∧ x.cell? ⟨n, 3, none⟩ = some (.int .i64 r.w) ∧ x.cell? ⟨n, 4, none⟩ = some (.int .i64 r.g)) (hb : Below B x y) (hn : n < B) :
    y.cell? ⟨n, 0, none⟩ = some (.int .i64 r.m) ∧ y.cell? ⟨n, 1, none⟩ = some (.int .i64 r.c) ∧ y.cell? ⟨n, 2, none⟩ = some (.int .i64 r.s) ∧ y.cell? ⟨n, 3, none⟩ = some (.int .i64 r.w) ∧ y.cell? ⟨n, 4, none⟩ = some (.int .i64 r.g) := rt_keep (w := x) h hb hn
theorem rk2 {x y : World} {n k B : Nat} {a b : RT} (h : x.cell? ⟨n, 0, none⟩ = some (.int .i64 a.m) ∧ x.cell? ⟨n, 1, none⟩ = some (.int .i64 a.c) ∧ x.cell? ⟨n, 2, none⟩ = some (.int .i64 a.s) ∧ x.cell? ⟨n, 3, none⟩ = some (.int .i64 a.w) ∧ x.cell? ⟨n, 4, none⟩ = some (.int .i64 a.g) ∧ x.cell? ⟨k, 0, none⟩ = some (.int .i64 b.m) ∧ x.cell? ⟨k, 1, none⟩ = some (.int .i64 b.c) ∧ x.cell? ⟨k, 2, none⟩ = some (.int .i64 b.s) ∧ x.cell? ⟨k, 3, none⟩ = some (.int .i64 b.w) ∧ x.cell? ⟨k, 4, none⟩ = some (.int .i64 b.g)) (hb : Below B x y) (hn : n < B) (hk : k < B) :
    y.cell? ⟨n, 0, none⟩ = some (.int .i64 a.m) ∧ y.cell? ⟨n, 1, none⟩ = some (.int .i64 a.c) ∧ y.cell? ⟨n, 2, none⟩ = some (.int .i64 a.s) ∧ y.cell? ⟨n, 3, none⟩ = some (.int .i64 a.w) ∧ y.cell? ⟨n, 4, none⟩ = some (.int .i64 a.g) ∧ y.cell? ⟨k, 0, none⟩ = some (.int .i64 b.m) ∧ y.cell? ⟨k, 1, none⟩ = some (.int .i64 b.c) ∧ y.cell? ⟨k, 2, none⟩ = some (.int .i64 b.s) ∧ y.cell? ⟨k, 3, none⟩ = some (.int .i64 b.w) ∧ y.cell? ⟨k, 4, none⟩ = some (.int .i64 b.g) := by
  obtain ⟨e0, e1, e2, e3, e4, f0, f1, f2, f3, f4⟩ := h
  exact ⟨(hb.cell (p := ⟨n, 0, none⟩) hn).trans e0, (hb.cell (p := ⟨n, 1, none⟩) hn).trans e1, (hb.cell (p := ⟨n, 2, none⟩) hn).trans e2, (hb.cell (p := ⟨n, 3, none⟩) hn).trans e3, (hb.cell (p := ⟨n, 4, none⟩) hn).trans e4, (hb.cell (p := ⟨k, 0, none⟩) hk).trans f0, (hb.cell (p := ⟨k, 1, none⟩) hk).trans f1, (hb.cell (p := ⟨k, 2, none⟩) hk).trans f2, (hb.cell (p := ⟨k, 3, none⟩) hk).trans f3, (hb.cell (p := ⟨k, 4, none⟩) hk).trans f4⟩
/-- a list of rates that can be read -/
def RowR (w : World) (A : Option Addr) (n C : Nat) (L : List RT) : Prop := n = L.length ∧ Row w 5 A n C (rtL L)
theorem RowR.at_ {w : World} {A : Option Addr} {n C : Nat} {L : List RT} (h : RowR w A n C L) {k : Nat} {r : RT} (hk : L[k]? = some r) :
    ∃ b off, A = some ⟨b, off, none⟩ ∧ b < w.heap.size ∧ w.cell? ⟨b, off + k * 5, none⟩ = some (.int .i64 r.m) ∧ w.cell? ⟨b, off + k * 5 + 1, none⟩ = some (.int .i64 r.c) ∧ w.cell? ⟨b, off + k * 5 + 2, none⟩ = some (.int .i64 r.s) ∧
      w.cell? ⟨b, off + k * 5 + 3, none⟩ = some (.int .i64 r.w) ∧ w.cell? ⟨b, off + k * 5 + 4, none⟩ = some (.int .i64 r.g) := by
  have hkl := (List.getElem?_eq_some_iff.1 hk).1
  obtain ⟨b, off, hA, hlt, hc⟩ := h.2.at_ (by have := h.1; omega)
  refine ⟨b, off, hA, hlt, ?_, ?_, ?_, ?_, ?_⟩
  · exact hc _ _ (rtL_get (j := 0) (by omega) hk rfl)
  · rw [Nat.add_assoc]; exact hc _ _ (rtL_get (j := 1) (by omega) hk rfl)
  · rw [Nat.add_assoc]; exact hc _ _ (rtL_get (j := 2) (by omega) hk rfl)
  · rw [Nat.add_assoc]; exact hc _ _ (rtL_get (j := 3) (by omega) hk rfl)
  · rw [Nat.add_assoc]; exact hc _ _ (rtL_get (j := 4) (by omega) hk rfl)
theorem RowR.below {w w' : World} {A : Option Addr} {n C : Nat} {L : List RT} (h : RowR w A n C L) {B : Nat} (hb : Below B w w') (hB : w.heap.size ≤ B) : RowR w' A n C L := ⟨h.1, h.2.below hb hB⟩
theorem OwnR.row {w : World} {base : Nat} {v : Value} {L : List RT} (h : OwnR w base v L) : ∃ A n C, v = .slice A n C ∧ RowR w A n C L := by
  obtain ⟨A, n, C, hv, hn, ho⟩ := h
  exact ⟨A, n, C, hv, hn, row_of_own ho⟩
theorem OwnR.below {w w' : World} {base : Nat} {v : Value} {L : List RT} (h : OwnR w base v L) {B : Nat} (hb : Below B w w') (hB : w.heap.size ≤ B) : OwnR w' base v L := by
  obtain ⟨A, n, C, hv, hn, ho⟩ := h
  exact ⟨A, n, C, hv, hn, own_below ho hb hB⟩

end Go.Proofs.YtoagmehgiaamlaaDoor
