/-
  Slices of bytes, in slices: what can be read; what the call owns; append.
-/
import Derived.Test.YtplcdjdmkmdddaaDoorOwn
import Derived.Test.YtplcdjdmkmdddaaDoorMem
namespace Go.Proofs.YtplcdjdmkmdddaaDoor
open Go.ChangeShapes Go.WideShapes Go.ChangeAt Go.RowKit
set_option linter.unusedVariables false

theorem info_part : (Tryd.prog.info? 25).map (fun i => (i.zero, i.size, i.bytes)) = some (some (.slice none 0 0), 1, 24) := by kernel_rfl
/-- a list of byte lists that can be read -/
def RowP (w : World) (A : Option Addr) (n C : Nat) (L : List (List UInt8)) : Prop :=
  n = L.length ∧ ∃ vs : List Value, Row w 1 A n C vs ∧ ∀ (i : Nat) (u : Value) (x : List UInt8), vs[i]? = some u → L[i]? = some x → ∃ A' C', u = .slice A' x.length C' ∧ Row w 1 A' x.length C' (x.map u8v)
/-- a list of byte lists of the call's own -/
def OwnP (w : World) (base : Nat) (v : Value) (L : List (List UInt8)) : Prop :=
  ∃ A C vs, v = .slice A L.length C ∧ w.ownsRow base 25 1 (.slice A L.length C) L.length vs ∧ ∀ (i : Nat) (u : Value) (x : List UInt8), vs[i]? = some u → L[i]? = some x → ∃ A' C', u = .slice A' x.length C' ∧ OwnU8 w base A' x.length C' x
section
variable {w w' : World} {A : Option Addr} {n C base : Nat} {L : List (List UInt8)} {v : Value}
theorem RowP.below (h : RowP w A n C L) {B : Nat} (hb : Below B w w') (hB : w.heap.size ≤ B) : RowP w' A n C L := by
  obtain ⟨h1, vs, h2, h3⟩ := h
  refine ⟨h1, vs, h2.below hb hB, fun i u x hu hx => ?_⟩
  obtain ⟨A', C', e, hr⟩ := h3 i u x hu hx
  exact ⟨A', C', e, hr.below hb hB⟩
theorem RowP.alloc (h : RowP w A n C L) (o : Obj) : RowP (w.alloc o) A n C L := h.below ((Below.refl _ _).alloc (Nat.le_refl _) o) (Nat.le_refl _)
theorem RowP.at_ (h : RowP w A n C L) {k : Nat} (hk : k < n) : ∃ b off x A' C', A = some ⟨b, off, none⟩ ∧ b < w.heap.size ∧ L[k]? = some x ∧ w.cell? ⟨b, off + k, none⟩ = some (.slice A' x.length C') ∧ Row w 1 A' x.length C' (x.map u8v) := by
  obtain ⟨h1, vs, h2, h3⟩ := h
  have hvs : vs.length = n := by have := h2.1; omega
  obtain ⟨b, off, hA, hlt, hc⟩ := h2.at_ (by omega)
  have hu : vs[k]? = some (vs[k]'(by omega)) := List.getElem?_eq_getElem (by omega)
  have hx : L[k]? = some (L[k]'(by omega)) := List.getElem?_eq_getElem (by omega)
  obtain ⟨A', C', e, hr⟩ := h3 k _ _ hu hx
  refine ⟨b, off, L[k]'(by omega), A', C', hA, hlt, hx, ?_, hr⟩
  rw [hc k _ hu, e]
theorem RowP.take (h : RowP w A n C L) {k : Nat} (hk : k ≤ n) : RowP w A k C (L.take k) := by
  obtain ⟨h1, vs, h2, h3⟩ := h
  refine ⟨by rw [List.length_take]; omega, vs.take k, by have := h2.take hk; rwa [Nat.mul_one] at this, fun i u x hu hx => ?_⟩
  rw [List.getElem?_take] at hu hx
  split at hu
  · rename_i hik; rw [if_pos hik] at hx; exact h3 i u x hu hx
  · cases hu
theorem OwnP.row (h : OwnP w base v L) : ∃ A C, v = .slice A L.length C ∧ RowP w A L.length C L := by
  obtain ⟨A, C, vs, e, ho, hp⟩ := h
  refine ⟨A, C, e, rfl, vs, row_of_own ho, fun i u x hu hx => ?_⟩
  obtain ⟨A', C', e', ho'⟩ := hp i u x hu hx
  exact ⟨A', C', e', ho'.row⟩
theorem OwnP.below (h : OwnP w base v L) {B : Nat} (hb : Below B w w') (hB : w.heap.size ≤ B) : OwnP w' base v L := by
  obtain ⟨A, C, vs, e, ho, hp⟩ := h
  refine ⟨A, C, vs, e, own_below ho hb hB, fun i u x hu hx => ?_⟩
  obtain ⟨A', C', e', ho'⟩ := hp i u x hu hx
  exact ⟨A', C', e', ho'.below hb hB⟩
theorem OwnP.alloc (h : OwnP w base v L) (o : Obj) : OwnP (w.alloc o) base v L := h.below ((Below.refl _ _).alloc (Nat.le_refl _) o) (Nat.le_refl _)
theorem OwnP.base_le (h : OwnP w base v L) {b' : Nat} (hb : b' ≤ base) : OwnP w b' v L := by
  obtain ⟨A, C, vs, e, ho, hp⟩ := h
  refine ⟨A, C, vs, e, ⟨ho.1, ?_⟩, fun i u x hu hx => ?_⟩
  · rcases ho.2 with h2 | ⟨g, cap, cur, hv, hg, r⟩
    · exact .inl h2
    · exact .inr ⟨g, cap, cur, hv, by omega, r⟩
  · obtain ⟨A', C', e', ho'⟩ := hp i u x hu hx
    exact ⟨A', C', e', ho'.base_le hb⟩
end
theorem ownP_nil (w : World) (base : Nat) : OwnP w base (.slice none 0 0) [] := ⟨none, 0, [], rfl, World.ownsRow_nil w base _ 1, fun i u x hu _ => by simp at hu⟩

theorem append_part (w : World) {ops : Array Oper} {rest : List Oper} {o : Oper} {a : Act} {Q : Exit → Act → World → Prop} (hgd : Region.wanted o (yielded ops a.tmps) = true) (s x : Operand)
    (ho : o.op = .call { callee := .builtin .append, args := #[s, x], argTypes := #[24, 24] })
    (base : Nat) (L : List (List UInt8)) (hown : OwnP w base (a.eval s) L) (hL : L.length ≤ 2000000)
    (A' : Option Addr) (C' : Nat) (y : List UInt8) (hy : OwnU8 w base A' y.length C' y)
    (g : Nat) (hx : a.eval x = .slice (some ⟨g, 0, none⟩) 1 1) (hr : Row w 1 (some ⟨g, 0, none⟩) 1 1 [.slice A' y.length C']) (hbase : base ≤ w.heap.size)
    (h : ∀ v' w', OwnP w' base v' (L ++ [y]) → (∃ A C, v' = .slice A (L.length + 1) C) → Below base w w' → (∀ (A1 : Option Addr) (n1 C1 : Nat) (xs : List UInt8), OwnU8 w base A1 n1 C1 xs → OwnU8 w' base A1 n1 C1 xs) → wpList Tryd.prog ops Q rest (a.put o.dst v') w') :
    wpList Tryd.prog ops Q (o :: rest) a w := by
  obtain ⟨i0, hi, hz, hsz, hby⟩ := info_parts info_part
  obtain ⟨A, C, vs, e, ho', hp⟩ := hown
  refine wpList_append_row w hgd s x _ ho base _ i0 _ 1 24 Tryd.underlying24 hi hz hsz hby rfl (by decide) A L.length C vs e ho' (some ⟨g, 0, none⟩) 1 1 [.slice A' y.length C'] hx hr ?_ (by unfold maxLen; omega) (by omega) hbase ?_
  · intro u hu
    simp at hu
    subst hu
    rfl
  · intro A2 C2 w' h1 h2 h3 h4
    have keep : ∀ (A1 : Option Addr) (n1 C1 : Nat) (xs : List UInt8), OwnU8 w base A1 n1 C1 xs → OwnU8 w' base A1 n1 C1 xs := fun A1 n1 C1 xs hh => hh.keep h2 (own_ne_own hh ho' (by decide))
    refine h _ w' ⟨A2, C2, vs ++ [.slice A' y.length C'], by rw [List.length_append]; rfl, by rw [List.length_append]; exact h1, fun i u x hu hx => ?_⟩ ⟨A2, C2, rfl⟩ (below_grown (Below.refl _ _) ho' (Nat.le_refl _) hbase h2) keep
    have hvl : vs.length = L.length := by have := ho'.1; omega
    rcases Nat.lt_trichotomy i L.length with hlt | heq | hgt
    · rw [List.getElem?_append_left (by omega)] at hu hx
      obtain ⟨A1, C1, e1, o1⟩ := hp i u x hu hx
      exact ⟨A1, C1, e1, keep _ _ _ _ o1⟩
    · subst heq
      rw [List.getElem?_append_right (by omega), hvl, Nat.sub_self] at hu
      rw [List.getElem?_append_right (by omega), Nat.sub_self] at hx
      simp at hu hx
      subst hu hx
      exact ⟨A', C', rfl, keep _ _ _ _ hy⟩
    · rw [List.getElem?_append_right (by omega)] at hx
      have : ([y] : List (List UInt8))[i - L.length]? = none := List.getElem?_eq_none (by simp; omega)
      rw [this] at hx; cases hx
theorem row_slice (w : World) (v : Value) (t : TypeId) : Row (w.alloc (.cells #[v] t)) 1 (some ⟨w.heap.size, 0, none⟩) 1 1 [v] := row_one w v t
end Go.Proofs.YtplcdjdmkmdddaaDoor
