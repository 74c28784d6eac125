/-
  What goes together: the plain laws.
-/
import Derived.Test.YtnndmpanopnncaaAirPlain
namespace Go.Proofs.Ytnndmpanopnncaa
open Go.ChangeShapes Go.WideShapes Go.ChangeAt Go.RowKit
set_option linter.unusedVariables false

def wrongB (n : Int) : Bool := decide (n < 1) || decide (4095 < n)
def upP (n : Int) : Int := (n + 3) / 4 * 4
def aggS (a n : Int) : Int := upP a + 4 + max n 0
def aggP (L : List Int) : Int := L.foldl aggS 0
theorem wrong_no {n : Int} (h : wrongB n = false) : 1 ≤ n ∧ n ≤ 4095 := by
  simp [wrongB] at h; omega
theorem wrong_of {n : Int} (h0 : 1 ≤ n) (h1 : n ≤ 4095) : wrongB n = false := by
  simp [wrongB]; omega
theorem agg_snoc (L : List Int) (n : Int) : aggP (L ++ [n]) = aggS (aggP L) n := by simp [aggP]
theorem aggS_le (a n : Int) : a + 4 ≤ aggS a n := by unfold aggS upP; omega
theorem aggS_top {a n : Int} (h : n ≤ 4095) : aggS a n ≤ a + 4102 := by unfold aggS upP; omega
theorem agg_nonneg (L : List Int) : 0 ≤ aggP L := by
  have key : ∀ (L : List Int) (a : Int), 0 ≤ a → 0 ≤ L.foldl aggS a := by
    intro L
    induction L with
    | nil => intro a h; exact h
    | cons n L ih => intro a h; exact ih _ (by have := aggS_le a n; omega)
  exact key L 0 (Int.le_refl _)
theorem agg_top (L : List Int) (h : ∀ n ∈ L, n ≤ 4095) : aggP L ≤ 4102 * L.length := by
  have key : ∀ (L : List Int) (a : Int), (∀ n ∈ L, n ≤ 4095) → L.foldl aggS a ≤ a + 4102 * L.length := by
    intro L
    induction L with
    | nil => intro a _; simp
    | cons n L ih =>
      intro a h
      have h1 := ih (aggS a n) fun m hm => h m (List.mem_cons_of_mem _ hm)
      have h2 := aggS_top (a := a) (h n (List.mem_cons_self ..))
      simp only [List.foldl_cons, List.length_cons]
      omega
  have h1 := key L 0 h
  show L.foldl aggS 0 ≤ _
  omega
theorem agg_append (L M : List Int) : aggP L ≤ aggP (L ++ M) := by
  have key : ∀ (M : List Int) (a : Int), a ≤ M.foldl aggS a := by
    intro M
    induction M with
    | nil => intro a; exact Int.le_refl _
    | cons n M ih => intro a; have := ih (aggS a n); have := aggS_le a n; simp only [List.foldl_cons]; omega
  have := key M (aggP L)
  simpa [aggP] using this
theorem agg_take (L : List Int) {j k : Nat} (h : j ≤ k) : aggP (L.take j) ≤ aggP (L.take k) := by
  have e : L.take k = L.take j ++ (L.take k).drop j := by
    rw [show L.take j = (L.take k).take j by rw [List.take_take, Nat.min_eq_left h], List.take_append_drop]
  rw [e]; exact agg_append _ _

def fitsP (r : RT) (C B T : Int) (L : List Int) : Bool :=
  validP r && (decide (L ≠ []) && (!(L.any wrongB) && (decide ((L.length : Int) ≤ min C 64) && (decide (aggP L ≤ min B 65535) && decide (ppP r (aggP L) ≤ min T 54840)))))
theorem fits_iff {r : RT} {C B T : Int} {L : List Int} : fitsP r C B T L = true ↔
    validP r = true ∧ L ≠ [] ∧ L.any wrongB = false ∧ (L.length : Int) ≤ min C 64 ∧ aggP L ≤ min B 65535 ∧ ppP r (aggP L) ≤ min T 54840 := by
  simp only [fitsP, Bool.and_eq_true, decide_eq_true_eq, Bool.not_eq_true']
theorem any_take {L : List Int} {j k : Nat} (h : j ≤ k) (hk : (L.take k).any wrongB = false) : (L.take j).any wrongB = false := by
  rw [List.any_eq_false] at *
  intro x hx
  refine hk x ?_
  have : L.take j = (L.take k).take j := by rw [List.take_take, Nat.min_eq_left h]
  rw [this] at hx
  exact List.mem_of_mem_take hx
theorem any_le {L : List Int} (h : L.any wrongB = false) : ∀ n ∈ L, 1 ≤ n ∧ n ≤ 4095 := fun n hn => wrong_no (by rw [List.any_eq_false] at h; simpa using h n hn)
theorem fits_agg {r : RT} {C B T : Int} {L : List Int} (h : fitsP r C B T L = true) : okP r (aggP L) = true := by
  obtain ⟨h1, h2, h3, h4, h5, h6⟩ := fits_iff.1 h
  exact ok_of h1 (agg_nonneg L) (by omega)
theorem fits_take {r : RT} {C B T : Int} {L : List Int} {j k : Nat} (h : fitsP r C B T (L.take k) = true) (hj : 1 ≤ j) (hjk : j ≤ k) : fitsP r C B T (L.take j) = true := by
  obtain ⟨h1, h2, h3, h4, h5, h6⟩ := fits_iff.1 h
  have ha := agg_take L hjk
  have hn := agg_nonneg (L.take j)
  have hok : okP r (aggP (L.take j)) = true := ok_of h1 hn (by omega)
  have hp := pp_mono hok (fits_agg h) ha
  refine fits_iff.2 ⟨h1, ?_, any_take hjk h3, ?_, by omega, by omega⟩
  · intro e
    have : L = [] := by
      rcases L with _ | ⟨x, L⟩
      · rfl
      · obtain ⟨j, rfl⟩ : ∃ i, j = i + 1 := ⟨j - 1, by omega⟩
        simp at e
    subst this
    simp at h2
  · simp only [List.length_take] at h4 ⊢
    omega
theorem fits_wider {r : RT} {C B T C' B' T' : Int} {L : List Int} (h : fitsP r C B T L = true) (hC : C ≤ C') (hB : B ≤ B') (hT : T ≤ T') : fitsP r C' B' T' L = true := by
  obtain ⟨h1, h2, h3, h4, h5, h6⟩ := fits_iff.1 h
  exact fits_iff.2 ⟨h1, h2, h3, by omega, by omega, by omega⟩

/-- the greatest up to N -/
def bestP (f : Nat → Bool) : Nat → Nat
  | 0 => 0
  | n + 1 => if f (n + 1) then n + 1 else bestP f n
theorem best_le (f : Nat → Bool) (N : Nat) : bestP f N ≤ N := by
  induction N with
  | zero => exact Nat.le_refl _
  | succ n ih => simp only [bestP]; split <;> omega
theorem best_yes {f : Nat → Bool} {N : Nat} (h : bestP f N ≠ 0) : f (bestP f N) = true := by
  induction N with
  | zero => exact absurd rfl h
  | succ n ih =>
    simp only [bestP] at h ⊢
    split at h
    · rename_i hf; rw [if_pos hf]; exact hf
    · rename_i hf; rw [if_neg hf]; exact ih h
theorem best_no {f : Nat → Bool} {N j : Nat} (h : bestP f N < j) (hj : j ≤ N) : f j = false := by
  induction N with
  | zero => omega
  | succ n ih =>
    simp only [bestP] at h
    split at h
    · omega
    · rename_i hf
      rcases Nat.lt_or_ge n j with hn | hn
      · obtain rfl : j = n + 1 := by omega
        simpa using hf
      · exact ih h hn
theorem best_eq {f : Nat → Bool} {N k : Nat} (hk : k ≤ N) (h0 : k = 0 ∨ f k = true) (h1 : ∀ j, k < j → j ≤ N → f j = false) : bestP f N = k := by
  rcases Nat.lt_trichotomy (bestP f N) k with h | h | h
  · have := best_no h hk
    rcases h0 with h0 | h0
    · omega
    · rw [this] at h0; cases h0
  · exact h
  · have h2 := h1 _ h (best_le f N)
    have h3 := best_yes (f := f) (N := N) (by omega)
    rw [h3] at h2; cases h2
theorem best_step {f : Nat → Bool} {n : Nat} (h : f (n + 1) = false) : bestP f (n + 1) = bestP f n := by simp [bestP, h]
theorem best_top {f : Nat → Bool} {n : Nat} (h : f (n + 1) = true) : bestP f (n + 1) = n + 1 := by simp [bestP, h]

def fitF (r : RT) (C B T : Int) (L : List Int) (k : Nat) : Bool := fitsP r C B T (L.take k)
def chN (r : RT) (C B T : Int) (L : List Int) : Nat := bestP (fitF r C B T L) (min L.length 64)
def headOk (r : RT) (L : List Int) : Bool := match L with
  | [] => false
  | n :: _ => validP r && !(wrongB n)
def chP (r : RT) (C B T : Int) (L : List Int) : Int × Bool :=
  if chN r C B T L = 0 then (if headOk r L = true then (1, false) else (0, false)) else ((chN r C B T L : Int), true)
theorem fit_long {r : RT} {C B T : Int} {L : List Int} {k : Nat} (h : 64 < k) (hk : k ≤ L.length) : fitF r C B T L k = false := by
  rcases hf : fitF r C B T L k
  · rfl
  · have h4 := (fits_iff.1 hf).2.2.2.1
    simp only [List.length_take] at h4
    omega
theorem fit_down {r : RT} {C B T : Int} {L : List Int} {j k : Nat} (h : fitF r C B T L k = true) (hj : 1 ≤ j) (hjk : j ≤ k) : fitF r C B T L j = true := fits_take h hj hjk
/-- the document goes up as long as one more fits -/
theorem ch_up {r : RT} {C B T : Int} {L : List Int} {k : Nat} (hk : k ≤ L.length) (h : k = 0 ∨ fitF r C B T L k = true) (hn : k = L.length ∨ fitF r C B T L (k + 1) = false) : chN r C B T L = k := by
  have hk64 : k ≤ 64 := by
    rcases h with h | h
    · omega
    · rcases Nat.lt_or_ge 64 k with h2 | h2
      · rw [fit_long h2 hk] at h; cases h
      · exact h2
  refine best_eq (by omega) h fun j hj hjN => ?_
  rcases hn with hn | hn
  · omega
  · rcases hf : fitF r C B T L j
    · rfl
    · rw [fit_down hf (by omega) (by omega)] at hn; cases hn
theorem ch_fits {r : RT} {C B T : Int} {L : List Int} (h : chN r C B T L ≠ 0) : fitF r C B T L (chN r C B T L) = true := best_yes h
theorem ch_le (r : RT) (C B T : Int) (L : List Int) : chN r C B T L ≤ L.length ∧ chN r C B T L ≤ 64 := by
  have := best_le (fitF r C B T L) (min L.length 64)
  unfold chN; omega
theorem ch_more {r : RT} {C B T : Int} {L : List Int} {j : Nat} (h : chN r C B T L < j) (hj : j ≤ L.length) : fitF r C B T L j = false := by
  rcases Nat.lt_or_ge 64 j with h64 | h64
  · exact fit_long h64 hj
  · exact best_no h (by omega)
theorem ch_wider {r : RT} {C B T C' B' T' : Int} {L : List Int} (hC : C ≤ C') (hB : B ≤ B') (hT : T ≤ T') : chN r C B T L ≤ chN r C' B' T' L := by
  rcases Nat.lt_or_ge (chN r C' B' T' L) (chN r C B T L) with h | h
  · have h1 := ch_more h (ch_le r C B T L).1
    have h2 : fitF r C B T L (chN r C B T L) = true := ch_fits (by omega)
    have h3 : fitF r C' B' T' L (chN r C B T L) = true := fits_wider h2 hC hB hT
    rw [h3] at h1; cases h1
  · exact h
end Go.Proofs.Ytnndmpanopnncaa
