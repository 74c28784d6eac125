/-
  Slices of int of the call's own; append.
-/
import Derived.Test.YthjjneanabnjoaaDoorOwn
namespace Go.Proofs.YthjjneanabnjoaaDoor
open Go.ChangeShapes Go.WideShapes Go.ChangeAt Go.RowKit
set_option linter.unusedVariables false

theorem info_int : (Tryd.prog.info? 3).map (fun i => (i.zero, i.size, i.bytes)) = some (some (.int .i64 0), 1, 8) := by kernel_rfl

/-- a slice of ints of the call's own -/
def OwnI (w : World) (base : Nat) (A : Option Addr) (n C : Nat) (xs : List Int) : Prop := w.ownsRow base 3 1 (.slice A n C) n (xs.map (Value.int .i64))
section
variable {w w' : World} {base n C : Nat} {A : Option Addr} {xs : List Int}
theorem OwnI.row (h : OwnI w base A n C xs) : Row w 1 A n C (xs.map (Value.int .i64)) := row_of_own h
theorem OwnI.alloc (h : OwnI w base A n C xs) (o : Obj) : OwnI (w.alloc o) base A n C xs := World.ownsRow.alloc h o
theorem OwnI.len (h : OwnI w base A n C xs) : xs.length = n := by have := h.1; simpa using this
theorem OwnI.below {B : Nat} (h : OwnI w base A n C xs) (hb : Below B w w') (hB : w.heap.size ≤ B) : OwnI w' base A n C xs := own_below h hb hB
theorem OwnI.touch {S : Nat → Prop} (h : OwnI w base A n C xs) (ht : Touch S w w') (hA : ∀ k, blk A = some k → ¬ S k) : OwnI w' base A n C xs := own_touch h ht hA
theorem OwnI.far (h : OwnI w base A n C xs) (p : Addr) (hp : some p.block ≠ blk A) (u : Value) : OwnI (w.setCell p u) base A n C xs := own_far h p hp u
theorem OwnI.base_le {b' : Nat} (h : OwnI w base A n C xs) (hb : b' ≤ base) : OwnI w b' A n C xs := by
  refine ⟨h.1, ?_⟩
  rcases h.2 with h2 | ⟨g, cap, cur, hv, hg, r⟩
  · exact .inl h2
  · exact .inr ⟨g, cap, cur, hv, by omega, r⟩
theorem OwnI.ge (h : OwnI w base A n C xs) : ∀ b, blk A = some b → base ≤ b ∧ b < w.heap.size := own_ge h
theorem ownI_nil (w : World) (base : Nat) : OwnI w base none 0 0 [] := World.ownsRow_nil w base _ 1
theorem OwnI.open_ (h : OwnI w base A n C xs) (hn : 0 < n) :
    ∃ g, A = some ⟨g, 0, none⟩ ∧ base ≤ g ∧ g < w.heap.size ∧ n ≤ C ∧ (∀ k z, xs[k]? = some z → w.cell? ⟨g, k, none⟩ = some (.int .i64 z)) ∧
      (∀ k, w.frozen? ⟨g, k, none⟩ = false) ∧ ∀ k (z : Int), OwnI (w.setCell ⟨g, k, none⟩ (.int .i64 z)) base A n C (xs.set k z) := by
  obtain ⟨g, h1, h2, h3, h4, h5, h6, h7⟩ := own_open h hn
  refine ⟨g, h1, h2, h3, h4, fun k z hz => h5 k _ (by rw [List.getElem?_map, hz]; rfl), h6, fun k z => ?_⟩
  have := h7 k (.int .i64 z)
  unfold OwnI
  rw [List.map_set]
  exact this
end
theorem ownI_made (w : World) : OwnI (w.alloc (.cells #[] 3)) w.heap.size (some ⟨w.heap.size, 0, none⟩) 0 0 [] :=
  World.ownsRow_made w #[] 0 (Nat.le_refl _) (by simp [maxLen]) (by simp)
/-- what a function hands back that makes a slice of ints of its own -/
def GivesI (w : World) (xs : List Int) (e : Ending) (w' : World) : Prop :=
  ∃ A n C, e = .returned (.slice A n C) ∧ OwnI w' w.heap.size A n C xs ∧ Below w.heap.size w w'

theorem wp_append_int (w : World) {o : Oper} {a : Act} {K : Act → World → Prop} {Q : Exit → Act → World → Prop} (s x : Operand)
    (ho : o.op = .call { callee := .builtin .append, args := #[s, x], argTypes := #[39, 39] })
    (base : Nat) (A : Option Addr) (n C : Nat) (xs : List Int) (hs : a.eval s = .slice A n C) (hown : OwnI w base A n C xs)
    (A' : Option Addr) (m c : Nat) (ys : List Int) (hx : a.eval x = .slice A' m c) (hr : Row w 1 A' m c (ys.map (Value.int .i64)))
    (hsmall : n + m ≤ 1000000000) (hbase : base ≤ w.heap.size)
    (h : ∀ A2 C2 w', OwnI w' base A2 (n + m) C2 (xs ++ ys) → w.grownBy w' (blk A) → (blk A2 = blk A ∨ blk A2 = some w.heap.size) → K (a.put o.dst (.slice A2 (n + m) C2)) w') : o.wp Tryd.prog a w K Q := by
  obtain ⟨i, hi, hz, hsz, hby⟩ := info_parts info_int
  refine wp_append_row w s x _ ho base _ i _ 1 8 Tryd.underlying39 hi hz hsz hby rfl (by decide) A n C _ hs hown A' m c _ hx hr ?_ (by unfold maxLen; omega) (by omega) hbase ?_
  · intro u hu
    obtain ⟨b, _, rfl⟩ := List.mem_map.1 hu
    rfl
  · intro A2 C2 w' h1 h2 h3 _
    refine h A2 C2 w' ?_ h2 h3
    unfold OwnI
    rw [List.map_append]
    exact h1
theorem append_int (w : World) {ops : Array Oper} {rest : List Oper} {o : Oper} {a : Act} {Q : Exit → Act → World → Prop} (hgd : Region.wanted o (yielded ops a.tmps) = true) (s x : Operand)
    (ho : o.op = .call { callee := .builtin .append, args := #[s, x], argTypes := #[39, 39] })
    (base : Nat) (A : Option Addr) (n C : Nat) (xs : List Int) (hs : a.eval s = .slice A n C) (hown : OwnI w base A n C xs)
    (A' : Option Addr) (m c : Nat) (ys : List Int) (hx : a.eval x = .slice A' m c) (hr : Row w 1 A' m c (ys.map (Value.int .i64)))
    (hsmall : n + m ≤ 1000000000) (hbase : base ≤ w.heap.size)
    (h : ∀ A2 C2 w', OwnI w' base A2 (n + m) C2 (xs ++ ys) → w.grownBy w' (blk A) → (blk A2 = blk A ∨ blk A2 = some w.heap.size) → wpList Tryd.prog ops Q rest (a.put o.dst (.slice A2 (n + m) C2)) w') :
    wpList Tryd.prog ops Q (o :: rest) a w := by
  refine wpList_step fun K hK => ?_
  rw [if_pos hgd]
  exact wp_append_int w s x ho base A n C xs hs hown A' m c ys hx hr hsmall hbase fun A2 C2 w' r1 r2 r3 => hK _ _ (h A2 C2 w' r1 r2 r3)

theorem row_int1 (w : World) (z : Int) (e : TypeId) : Row (w.alloc (.cells #[.int .i64 z] e)) 1 (some ⟨w.heap.size, 0, none⟩) 1 1 ([z].map (Value.int .i64)) := row_one w _ e
theorem row_int1' (w : World) (z : Int) (e : TypeId) (k : Nat) (hk : k = w.heap.size) : Row (w.alloc (.cells #[.int .i64 z] e)) 1 (some ⟨k, 0, none⟩) 1 1 ([z].map (Value.int .i64)) := by subst hk; exact row_one w _ e
end Go.Proofs.YthjjneanabnjoaaDoor
