/-
  Slices of the call's own whose elements are structs of a fixed number of cells; frames that name the blocks that may turn.
-/
import Derived.Test.YthjjneanabnjoaaDoorBase
namespace Go.Proofs.YthjjneanabnjoaaDoor
open Go.ChangeShapes Go.WideShapes Go.ChangeAt Go.RowKit
set_option linter.unusedVariables false

section
variable {w w' : World} {base sz n C : Nat} {e : TypeId} {A : Option Addr} {vs : List Value}
theorem own_open (h : w.ownsRow base e sz (.slice A n C) n vs) (hn : 0 < n) :
    ∃ g, A = some ⟨g, 0, none⟩ ∧ base ≤ g ∧ g < w.heap.size ∧ n ≤ C ∧ (∀ j u, vs[j]? = some u → w.cell? ⟨g, j, none⟩ = some u) ∧ (∀ j, w.frozen? ⟨g, j, none⟩ = false) ∧
      ∀ j u, (w.setCell ⟨g, j, none⟩ u).ownsRow base e sz (.slice A n C) n (vs.set j u) := by
  obtain ⟨g, cap, hv, hb, hlt⟩ := World.ownsRow.form h hn
  injection hv with h1 h2 h3
  subst h1 h3
  have hc := (row_of_own h).len_cap.1
  refine ⟨g, rfl, hb, hlt, hc, fun j u hu => ?_, fun j => World.ownsRow.frozenAt h j, fun j u => (World.ownsRow.stored h j u).1⟩
  have := World.ownsRow.cells h (g := g) rfl j u hu
  rwa [add_at, Nat.zero_add] at this
theorem own_keep (h : w.ownsRow base e sz (.slice A n C) n vs) {r : Option Nat} (hg : w.grownBy w' r) (hr : blk A = none ∨ blk A ≠ r) : w'.ownsRow base e sz (.slice A n C) n vs := by
  refine World.ownsRow.kept h hg ?_
  cases A <;> exact hr
theorem own_below {B : Nat} (h : w.ownsRow base e sz (.slice A n C) n vs) (hb : Below B w w') (hB : w.heap.size ≤ B) : w'.ownsRow base e sz (.slice A n C) n vs := by
  refine World.ownsRow.kept h (row := none) ⟨hb.os, hb.tape, hb.output, hb.size, fun k hk _ => hb.block k (by omega)⟩ ?_
  cases A <;> simp [Value.ownBlock]
theorem own_ge (h : w.ownsRow base e sz (.slice A n C) n vs) : ∀ b, blk A = some b → base ≤ b ∧ b < w.heap.size := by
  intro b hb
  exact World.ownsRow.lt h b (by rw [← hb]; cases A <;> rfl)
theorem own_ne (h : w.ownsRow base e sz (.slice A n C) n vs) {k : Nat} {cs : Array Value} {t : TypeId} (hb : Blk w k cs t) (ht : t ≠ e) : some k ≠ blk A := by
  intro ee
  rcases h.2 with ⟨hv, _⟩ | ⟨g, cap, cur, hv, _, hg, _⟩
  · injection hv with h1
    rw [h1] at ee
    cases ee
  · injection hv with h1
    rw [h1] at ee
    injection ee with ee
    subst ee
    unfold Blk at hb
    rw [hg] at hb
    injection hb with hb
    injection hb with _ h2
    exact ht h2.symm
theorem own_ne_own (h : w.ownsRow base e sz (.slice A n C) n vs) {base' sz' n' C' : Nat} {e' : TypeId} {A' : Option Addr} {vs' : List Value} (h' : w.ownsRow base' e' sz' (.slice A' n' C') n' vs') (ht : e' ≠ e) : blk A = none ∨ blk A ≠ blk A' := by
  rcases h.2 with ⟨hv, _⟩ | ⟨g, cap, cur, hv, _, hg, _⟩
  · injection hv with h1
    exact .inl (by rw [h1]; rfl)
  · right
    injection hv with h1
    subst h1
    have := own_ne h' (show Blk w g cur e from hg) (fun x => ht x.symm)
    exact this
theorem own_far (h : w.ownsRow base e sz (.slice A n C) n vs) (p : Addr) (hp : some p.block ≠ blk A) (u : Value) : (w.setCell p u).ownsRow base e sz (.slice A n C) n vs :=
  own_keep h (r := some p.block) ⟨rfl, rfl, rfl, by simp [World.setCell], fun k _ hk => Below.heap_setCell w p u k (by intro e; exact hk (by rw [e]))⟩ (by
    rcases hA : blk A with _ | b
    · exact .inl rfl
    · exact .inr (by rw [hA] at hp; exact fun x => hp x.symm))
end

/-- the blocks of which S says so may turn, no other that was there -/
structure Touch (S : Nat → Prop) (w w' : World) : Prop where
  os : w'.os = w.os
  tape : w'.tape = w.tape
  output : w'.output = w.output
  size : w.heap.size ≤ w'.heap.size
  block : ∀ k, k < w.heap.size → ¬ S k → w'.heap[k]? = w.heap[k]?
section
variable {S T : Nat → Prop} {w w1 w2 : World}
theorem Touch.refl (S : Nat → Prop) (w : World) : Touch S w w := ⟨rfl, rfl, rfl, Nat.le_refl _, fun _ _ _ => rfl⟩
theorem Touch.trans (h : Touch S w w1) (h2 : Touch T w1 w2) (hs : ∀ k, k < w.heap.size → T k → S k) : Touch S w w2 :=
  ⟨h2.os.trans h.os, h2.tape.trans h.tape, h2.output.trans h.output, Nat.le_trans h.size h2.size, fun k hk hn => (h2.block k (Nat.lt_of_lt_of_le hk h.size) (fun x => hn (hs k hk x))).trans (h.block k hk hn)⟩
theorem Touch.mono (h : Touch S w w1) (hs : ∀ k, k < w.heap.size → S k → T k) : Touch T w w1 := ⟨h.os, h.tape, h.output, h.size, fun k hk hn => h.block k hk (fun x => hn (hs k hk x))⟩
theorem touch_alloc (S : Nat → Prop) (w : World) (o : Obj) : Touch S w (w.alloc o) := ⟨rfl, rfl, rfl, by simp, fun k hk _ => Below.heap_alloc w o k hk⟩
theorem touch_set (S : Nat → Prop) (w : World) (b i : Nat) (u : Value) (hb : S b) : Touch S w (w.setCell ⟨b, i, none⟩ u) :=
  ⟨rfl, rfl, rfl, by simp [World.setCell], fun k _ hk => Below.heap_setCell w ⟨b, i, none⟩ u k (by intro e; exact hk (e ▸ hb))⟩
theorem touch_of_below {B : Nat} (h : Below B w w1) (hB : ∀ k, k < w.heap.size → ¬ S k → k < B) : Touch S w w1 := ⟨h.os, h.tape, h.output, h.size, fun k hk hn => h.block k (hB k hk hn)⟩
theorem touch_of_grown {r : Option Nat} (h : w.grownBy w1 r) (hr : ∀ k, r = some k → S k) : Touch S w w1 := ⟨h.os, h.tape, h.output, h.size, fun k hk hn => h.block k hk (fun e => hn (hr k e.symm))⟩
theorem touch_drew (S : Nat → Prop) (w : World) (n : Nat) : Touch S w (w.drewN n) := ⟨rfl, rfl, rfl, Nat.le_refl _, fun _ _ _ => rfl⟩
/-- behind it all lies below what may turn -/
theorem Touch.below {B : Nat} (h : Touch S w w1) (hS : ∀ k, S k → B ≤ k) (hB : B ≤ w.heap.size) : Below B w w1 := ⟨h.os, h.tape, h.output, h.size, fun k hk => h.block k (by omega) (fun x => by have := hS k x; omega)⟩
theorem Blk.touch {n : Nat} {cs : Array Value} {t : TypeId} (h : Blk w n cs t) (ht : Touch S w w1) (hn : ¬ S n) : Blk w1 n cs t := h.keep fun hlt => ht.block n hlt hn
theorem own_touch {base sz n C : Nat} {e : TypeId} {A : Option Addr} {vs : List Value} (h : w.ownsRow base e sz (.slice A n C) n vs) (ht : Touch S w w1) (hA : ∀ k, blk A = some k → ¬ S k) : w1.ownsRow base e sz (.slice A n C) n vs := by
  refine ⟨h.1, ?_⟩
  rcases h.2 with hn | ⟨g, cap, cur, hv, hb, hgg, rest⟩
  · exact .inl hn
  · refine .inr ⟨g, cap, cur, hv, hb, ?_, rest⟩
    injection hv with h1
    rw [ht.block g (Array.getElem?_eq_some_iff.1 hgg).1 (hA g (by rw [h1]; rfl))]
    exact hgg
end

/-- the cells of a list of structs -/
theorem flat_len {α : Type} (f : α → List Value) (sz : Nat) (hf : ∀ x, (f x).length = sz) (L : List α) : (L.flatMap f).length = L.length * sz := by
  induction L with
  | nil => simp
  | cons x L ih => simp [List.flatMap_cons, hf x, ih, Nat.succ_mul, Nat.add_comm]
theorem flat_get {α : Type} (f : α → List Value) (sz : Nat) (hf : ∀ x, (f x).length = sz) (L : List α) (k j : Nat) (hj : j < sz) {x : α} {u : Value} (hx : L[k]? = some x) (hu : (f x)[j]? = some u) : (L.flatMap f)[k * sz + j]? = some u := by
  induction L generalizing k with
  | nil => simp at hx
  | cons y L ih =>
    rw [List.flatMap_cons]
    rcases k with _ | k
    · simp only [List.getElem?_cons_zero, Option.some.injEq] at hx
      subst hx
      rw [Nat.zero_mul, Nat.zero_add, List.getElem?_append_left (by rw [hf]; exact hj)]
      exact hu
    · rw [List.getElem?_append_right (by rw [hf, Nat.succ_mul]; omega), hf, show (k + 1) * sz + j - sz = k * sz + j by rw [Nat.succ_mul]; omega]
      exact ih k (by simpa using hx)
theorem flat_set {α : Type} (f : α → List Value) (sz : Nat) (hf : ∀ x, (f x).length = sz) (L : List α) (k j : Nat) (hj : j < sz) {x x' : α} {u : Value} (hx : L[k]? = some x) (hu : (f x).set j u = f x') : (L.flatMap f).set (k * sz + j) u = (L.set k x').flatMap f := by
  induction L generalizing k with
  | nil => simp at hx
  | cons y L ih =>
    rcases k with _ | k
    · simp only [List.getElem?_cons_zero, Option.some.injEq] at hx
      subst hx
      rw [List.flatMap_cons, Nat.zero_mul, Nat.zero_add, List.set_append_left _ _ (by rw [hf]; exact hj), hu, List.set_cons_zero, List.flatMap_cons]
    · rw [List.flatMap_cons, List.set_append_right _ _ (by rw [hf, Nat.succ_mul]; omega), hf, show (k + 1) * sz + j - sz = k * sz + j by rw [Nat.succ_mul]; omega, ih k (by simpa using hx), List.set_cons_succ, List.flatMap_cons]
end Go.Proofs.YthjjneanabnjoaaDoor
