/-
  Slices of bool of the call's own; append.
-/
import Derived.Test.YthjjneanabnjoaaDoorOwn
namespace Go.Proofs.YthjjneanabnjoaaDoor
open Go.ChangeShapes Go.WideShapes Go.ChangeAt Go.RowKit
set_option linter.unusedVariables false

theorem info_bool : (Tryd.prog.info? 4).map (fun i => (i.zero, i.size, i.bytes)) = some (some (.bool false), 1, 1) := by kernel_rfl

/-- a slice of ints of the call's own -/
def OwnB (w : World) (base : Nat) (A : Option Addr) (n C : Nat) (xs : List Bool) : Prop := w.ownsRow base 4 1 (.slice A n C) n (xs.map Value.bool)
section
variable {w w' : World} {base n C : Nat} {A : Option Addr} {xs : List Bool}
theorem OwnB.row (h : OwnB w base A n C xs) : Row w 1 A n C (xs.map Value.bool) := row_of_own h
theorem OwnB.alloc (h : OwnB w base A n C xs) (o : Obj) : OwnB (w.alloc o) base A n C xs := World.ownsRow.alloc h o
theorem OwnB.len (h : OwnB w base A n C xs) : xs.length = n := by have := h.1; simpa using this
theorem OwnB.below {B : Nat} (h : OwnB w base A n C xs) (hb : Below B w w') (hB : w.heap.size ≤ B) : OwnB w' base A n C xs := own_below h hb hB
theorem OwnB.touch {S : Nat → Prop} (h : OwnB w base A n C xs) (ht : Touch S w w') (hA : ∀ k, blk A = some k → ¬ S k) : OwnB w' base A n C xs := own_touch h ht hA
theorem OwnB.far (h : OwnB w base A n C xs) (p : Addr) (hp : some p.block ≠ blk A) (u : Value) : OwnB (w.setCell p u) base A n C xs := own_far h p hp u
theorem OwnB.base_le {b' : Nat} (h : OwnB w base A n C xs) (hb : b' ≤ base) : OwnB w b' A n C xs := by
  refine ⟨h.1, ?_⟩
  rcases h.2 with h2 | ⟨g, cap, cur, hv, hg, r⟩
  · exact .inl h2
  · exact .inr ⟨g, cap, cur, hv, by omega, r⟩
theorem OwnB.ge (h : OwnB w base A n C xs) : ∀ b, blk A = some b → base ≤ b ∧ b < w.heap.size := own_ge h
theorem ownB_nil (w : World) (base : Nat) : OwnB w base none 0 0 [] := World.ownsRow_nil w base _ 1
theorem OwnB.open_ (h : OwnB w base A n C xs) (hn : 0 < n) :
    ∃ g, A = some ⟨g, 0, none⟩ ∧ base ≤ g ∧ g < w.heap.size ∧ n ≤ C ∧ (∀ k z, xs[k]? = some z → w.cell? ⟨g, k, none⟩ = some (.bool z)) ∧
      (∀ k, w.frozen? ⟨g, k, none⟩ = false) ∧ ∀ k (z : Bool), OwnB (w.setCell ⟨g, k, none⟩ (.bool z)) base A n C (xs.set k z) := by
  obtain ⟨g, h1, h2, h3, h4, h5, h6, h7⟩ := own_open h hn
  refine ⟨g, h1, h2, h3, h4, fun k z hz => h5 k _ (by rw [List.getElem?_map, hz]; rfl), h6, fun k z => ?_⟩
  have := h7 k (.bool z)
  unfold OwnB
  rw [List.map_set]
  exact this
end
theorem ownB_made (w : World) : OwnB (w.alloc (.cells #[] 4)) w.heap.size (some ⟨w.heap.size, 0, none⟩) 0 0 [] :=
  World.ownsRow_made w #[] 0 (Nat.le_refl _) (by simp [maxLen]) (by simp)
/-- what a function hands back that makes a slice of ints of its own -/
def GivesB (w : World) (xs : List Bool) (e : Ending) (w' : World) : Prop :=
  ∃ A n C, e = .returned (.slice A n C) ∧ OwnB w' w.heap.size A n C xs ∧ Below w.heap.size w w'

theorem wp_append_bool (w : World) {o : Oper} {a : Act} {K : Act → World → Prop} {Q : Exit → Act → World → Prop} (s x : Operand)
    (ho : o.op = .call { callee := .builtin .append, args := #[s, x], argTypes := #[68, 68] })
    (base : Nat) (A : Option Addr) (n C : Nat) (xs : List Bool) (hs : a.eval s = .slice A n C) (hown : OwnB w base A n C xs)
    (A' : Option Addr) (m c : Nat) (ys : List Bool) (hx : a.eval x = .slice A' m c) (hr : Row w 1 A' m c (ys.map Value.bool))
    (hsmall : n + m ≤ 1000000000) (hbase : base ≤ w.heap.size)
    (h : ∀ A2 C2 w', OwnB w' base A2 (n + m) C2 (xs ++ ys) → w.grownBy w' (blk A) → (blk A2 = blk A ∨ blk A2 = some w.heap.size) → K (a.put o.dst (.slice A2 (n + m) C2)) w') : o.wp Tryd.prog a w K Q := by
  obtain ⟨i, hi, hz, hsz, hby⟩ := info_parts info_bool
  refine wp_append_row w s x _ ho base _ i _ 1 1 Tryd.underlying68 hi hz hsz hby rfl (by decide) A n C _ hs hown A' m c _ hx hr ?_ (by unfold maxLen; omega) (by omega) hbase ?_
  · intro u hu
    obtain ⟨b, _, rfl⟩ := List.mem_map.1 hu
    rfl
  · intro A2 C2 w' h1 h2 h3 _
    refine h A2 C2 w' ?_ h2 h3
    unfold OwnB
    rw [List.map_append]
    exact h1
theorem append_bool (w : World) {ops : Array Oper} {rest : List Oper} {o : Oper} {a : Act} {Q : Exit → Act → World → Prop} (hgd : Region.wanted o (yielded ops a.tmps) = true) (s x : Operand)
    (ho : o.op = .call { callee := .builtin .append, args := #[s, x], argTypes := #[68, 68] })
    (base : Nat) (A : Option Addr) (n C : Nat) (xs : List Bool) (hs : a.eval s = .slice A n C) (hown : OwnB w base A n C xs)
    (A' : Option Addr) (m c : Nat) (ys : List Bool) (hx : a.eval x = .slice A' m c) (hr : Row w 1 A' m c (ys.map Value.bool))
    (hsmall : n + m ≤ 1000000000) (hbase : base ≤ w.heap.size)
    (h : ∀ A2 C2 w', OwnB w' base A2 (n + m) C2 (xs ++ ys) → w.grownBy w' (blk A) → (blk A2 = blk A ∨ blk A2 = some w.heap.size) → wpList Tryd.prog ops Q rest (a.put o.dst (.slice A2 (n + m) C2)) w') :
    wpList Tryd.prog ops Q (o :: rest) a w := by
  refine wpList_step fun K hK => ?_
  rw [if_pos hgd]
  exact wp_append_bool w s x ho base A n C xs hs hown A' m c ys hx hr hsmall hbase fun A2 C2 w' r1 r2 r3 => hK _ _ (h A2 C2 w' r1 r2 r3)

theorem row_bool1 (w : World) (z : Bool) (e : TypeId) : Row (w.alloc (.cells #[.bool z] e)) 1 (some ⟨w.heap.size, 0, none⟩) 1 1 ([z].map Value.bool) := row_one w _ e
end Go.Proofs.YthjjneanabnjoaaDoor
