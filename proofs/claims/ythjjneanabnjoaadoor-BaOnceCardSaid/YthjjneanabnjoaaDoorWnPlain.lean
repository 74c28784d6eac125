/-
  What a window that is used keeps, in plain Lean: what is out lies at rising distances from its start.
-/
import Derived.Test.YthjjneanabnjoaaDoorWnMore
namespace Go.Proofs.YthjjneanabnjoaaDoor
open Go.ChangeShapes Go.WideShapes Go.ChangeAt Go.RowKit
set_option linter.unusedVariables false

/-- the number at a distance from the start -/
def atD (st j : Nat) : Int := ((st : Int) + (j : Int)) % 4096
/-- a window: its start, how far the next number is, the distances of what is out -/
def WH (Z st d : Nat) (ds : List Nat) : WS := ⟨(st : Int), atD st d, (Z : Int), ds.map (atD st)⟩
structure HInv (Z st d : Nat) (ds : List Nat) : Prop where
  lt : st < 4096
  up : ds.Pairwise (· < ·)
  below : ∀ j ∈ ds, j < d
  dz : d ≤ Z
  z64 : Z ≤ 64
  nil : ds = [] → d = 0
  zero : ds ≠ [] → ds[0]? = some 0
theorem up_len : ∀ (ds : List Nat) (lo hi : Nat), ds.Pairwise (· < ·) → (∀ j ∈ ds, lo ≤ j ∧ j < hi) → ds.length + lo ≤ hi ∨ ds = [] := by
  intro ds
  induction ds with
  | nil => intro lo hi _ _; exact .inr rfl
  | cons x ds ih =>
    intro lo hi h hb
    left
    obtain ⟨h1, h2⟩ := List.pairwise_cons.1 h
    have hx := hb x (List.mem_cons_self ..)
    rcases ih (x + 1) hi h2 (fun j hj => ⟨h1 j hj, (hb j (List.mem_cons_of_mem _ hj)).2⟩) with e | e
    · simp only [List.length_cons]; omega
    · subst e; simp; omega
theorem HInv.len {Z st d : Nat} {ds : List Nat} (h : HInv Z st d ds) : ds.length ≤ d := by
  rcases up_len ds 0 d h.up (fun j hj => ⟨Nat.zero_le _, h.below j hj⟩) with e | e
  · omega
  · subst e; simp
theorem HInv.get {Z st d : Nat} {ds : List Nat} (h : HInv Z st d ds) {i j : Nat} (hij : i < j) {a b : Nat} (ha : ds[i]? = some a) (hb : ds[j]? = some b) : a < b := by
  obtain ⟨h1, rfl⟩ := List.getElem?_eq_some_iff.1 ha
  obtain ⟨h2, rfl⟩ := List.getElem?_eq_some_iff.1 hb
  exact List.pairwise_iff_getElem.1 h.up i j h1 h2 hij
theorem hinv_start (Z st : Nat) (h1 : st < 4096) (h2 : Z ≤ 64) : HInv Z st 0 [] := ⟨h1, List.Pairwise.nil, by simp, Nat.zero_le _, h2, fun _ => rfl, fun h => absurd rfl h⟩
theorem WH_room {Z st d : Nat} {ds : List Nat} (h : HInv Z st d ds) : room (WH Z st d ds) = max ((Z : Int) - (d : Int)) 0 := by
  have := h.lt; have := h.dz; have := h.z64
  have e : (atD st d - (st : Int)) % 4096 = (d : Int) := by unfold atD; omega
  simp only [room, WH, e]
theorem WH_next {Z st d : Nat} {ds : List Nat} (h : HInv Z st d ds) (hd : d < Z) : nextS (WH Z st d ds) = WH Z st (d + 1) (ds ++ [d]) ∧ HInv Z st (d + 1) (ds ++ [d]) := by
  constructor
  · have e : (atD st d + 1) % 4096 = atD st (d + 1) := by unfold atD; omega
    simp only [nextS, WH, e, List.map_append, List.map_cons, List.map_nil]
  · refine ⟨h.lt, ?_, ?_, hd, h.z64, fun e => by simp at e, fun _ => ?_⟩
    · rw [List.pairwise_append]
      refine ⟨h.up, List.pairwise_singleton _ _, ?_⟩
      intro a ha b hb
      simp at hb; subst hb
      exact h.below a ha
    · intro j hj
      rcases List.mem_append.1 hj with hj | hj
      · have := h.below j hj; omega
      · simp at hj; omega
    · cases ds with
      | nil => have := h.nil rfl; subst this; rfl
      | cons x ds => exact h.zero (by simp)
theorem WH_done {Z st d : Nat} {ds : List Nat} (h : HInv Z st d ds) (i : Nat) : ∃ st' d' ds', doneS (WH Z st d ds) i = WH Z st' d' ds' ∧ HInv Z st' d' ds' := by
  have hlt := h.lt; have hdz := h.dz; have h64 := h.z64
  have e0 : (ds.map (atD st)).eraseIdx i = (ds.eraseIdx i).map (atD st) := by
    apply List.ext_getElem?
    intro j
    simp only [List.getElem?_eraseIdx, List.getElem?_map]
    split <;> rfl
  have hup : (ds.eraseIdx i).Pairwise (· < ·) := h.up.sublist (List.eraseIdx_sublist ds i)
  have hbl : ∀ j ∈ ds.eraseIdx i, j < d := fun j hj => h.below j ((List.eraseIdx_sublist ds i).subset hj)
  cases hds : ds.eraseIdx i with
  | nil =>
    refine ⟨(st + d) % 4096, 0, [], ?_, hinv_start _ _ (Nat.mod_lt _ (by omega)) h64⟩
    have e1 : atD st d = (((st + d) % 4096 : Nat) : Int) := by unfold atD; omega
    have e2 : atD st d = atD ((st + d) % 4096) 0 := by unfold atD; omega
    simp only [doneS, WH, e0, hds, List.map_nil, List.headD_nil]
    rw [← e1, ← e2]
  | cons x ds1 =>
    rw [hds] at hup hbl
    obtain ⟨hx1, hx2⟩ := List.pairwise_cons.1 hup
    have hxd := hbl x (List.mem_cons_self ..)
    refine ⟨(st + x) % 4096, d - x, (x :: ds1).map (· - x), ?_, Nat.mod_lt _ (by omega), ?_, ?_, by omega, h64, fun e => by simp at e, fun _ => by simp⟩
    · have e1 : atD st x = (((st + x) % 4096 : Nat) : Int) := by unfold atD; omega
      have e2 : atD st d = atD ((st + x) % 4096) (d - x) := by unfold atD; omega
      have e3 : (x :: ds1).map (atD st) = ((x :: ds1).map (· - x)).map (atD ((st + x) % 4096)) := by
        rw [List.map_map]
        apply List.map_congr_left
        intro j hj
        have hxj : x ≤ j := by
          rcases List.mem_cons.1 hj with rfl | hj
          · exact Nat.le_refl _
          · exact Nat.le_of_lt (hx1 j hj)
        have := hbl j hj
        simp only [Function.comp]
        unfold atD; omega
      simp only [doneS, WH, e0, hds, List.map_cons, List.headD_cons] at *
      rw [← e1, ← e2]
      congr 1
    · rw [List.pairwise_map]
      refine hup.imp_of_mem ?_
      intro a b ha hb hab
      have hxa : x ≤ a := by
        rcases List.mem_cons.1 ha with rfl | ha
        · exact Nat.le_refl _
        · exact Nat.le_of_lt (hx1 a ha)
      omega
    · intro j hj
      obtain ⟨y, hy, rfl⟩ := List.mem_map.1 hj
      have hxy : x ≤ y := by
        rcases List.mem_cons.1 hy with rfl | hy
        · exact Nat.le_refl _
        · exact Nat.le_of_lt (hx1 y hy)
      have := hbl y hy
      omega
theorem WH_first {Z st d : Nat} {ds : List Nat} (h : HInv Z st d ds) {i a : Nat} (ha : ds[i]? = some a) : (WH Z st d ds).o[i]? = some (atD st a) ∧ ∀ j, j < i → (WH Z st d ds).o[j]? ≠ some (atD st a) := by
  have hlt := h.lt; have hdz := h.dz; have h64 := h.z64
  have had := h.below a (List.mem_of_getElem? ha)
  constructor
  · show (ds.map (atD st))[i]? = _
    rw [List.getElem?_map, ha]; rfl
  · intro j hj
    show (ds.map (atD st))[j]? ≠ _
    rw [List.getElem?_map]
    rcases hb : ds[j]? with _ | b
    · simp
    · have hba := h.get hj hb ha
      intro e
      have e' : atD st b = atD st a := Option.some.inj e
      unfold atD at e'
      omega
end Go.Proofs.YthjjneanabnjoaaDoor
