/-
  Air time: the plain laws.
-/
import Derived.Test.YtoagmehgiaamlaaDoorRatePlain
namespace Go.Proofs.YtoagmehgiaamlaaDoor
open Go.ChangeShapes Go.WideShapes Go.ChangeAt Go.RowKit
set_option linter.unusedVariables false

/-- how many symbols -/
def symsP (b n : Int) : Int := (22 + 8 * n + b - 1) / b
def okP (r : RT) (n : Int) : Bool := validP r && (decide (0 ≤ n) && decide (n ≤ 1048576))
def ppP (r : RT) (n : Int) : Int := if okP r n = true then preP r + symsP (bitsP r) n * symP r else 0
def totP (r : RT) (n : Int) : Int := if okP r n = true then ppP r n + 480 else 0
def canP (r : RT) (t : Int) : Bool := validP r && decide (ppP r 0 ≤ t)
def nP (r : RT) (t : Int) : Int := (t - preP r) / symP r
def mostP (r : RT) (t : Int) : Int := if canP r t = true then (if 8388608 ≤ nP r t then 1048576 else min ((nP r t * bitsP r - 22) / 8) 1048576) else -1

theorem ok_yes {r : RT} {n : Int} (h : okP r n = true) : validP r = true ∧ 0 ≤ n ∧ n ≤ 1048576 := by
  simp only [okP, Bool.and_eq_true, decide_eq_true_eq] at h; exact ⟨h.1, h.2.1, h.2.2⟩
theorem ok_of {r : RT} {n : Int} (h : validP r = true) (h0 : 0 ≤ n) (h1 : n ≤ 1048576) : okP r n = true := by
  simp only [okP, Bool.and_eq_true, decide_eq_true_eq]; exact ⟨h, h0, h1⟩
theorem ok_no1 {r : RT} {n : Int} (h : validP r = false) : okP r n = false := by simp [okP, h]
theorem ok_no2 {r : RT} {n : Int} (h : n < 0) : okP r n = false := by rw [okP, decide_eq_false (show ¬ 0 ≤ n by omega)]; simp
theorem ok_no3 {r : RT} {n : Int} (h : 1048576 < n) : okP r n = false := by rw [okP, decide_eq_false (show ¬ n ≤ 1048576 by omega)]; simp

/-- so many symbols serve, and no fewer -/
theorem syms_le {b n N : Int} (hb : 0 < b) : symsP b n ≤ N ↔ 22 + 8 * n ≤ N * b := by
  unfold symsP
  constructor
  · intro h
    have h1 := Int.lt_ediv_add_one_mul_self (22 + 8 * n + b - 1) hb
    have h2 : ((22 + 8 * n + b - 1) / b + 1) * b ≤ (N + 1) * b := Int.mul_le_mul_of_nonneg_right (by omega) (by omega)
    have h3 : (N + 1) * b = N * b + b := by rw [Int.add_mul, Int.one_mul]
    omega
  · intro h
    have : (22 + 8 * n + b - 1) / b < N + 1 := by
      rw [Int.ediv_lt_iff_lt_mul hb]
      have h3 : (N + 1) * b = N * b + b := by rw [Int.add_mul, Int.one_mul]
      omega
    omega
theorem syms_pos {b n : Int} (hb : 0 < b) (hn : 0 ≤ n) : 1 ≤ symsP b n := by
  rcases (show 1 ≤ symsP b n ∨ symsP b n ≤ 0 by omega) with h | h
  · exact h
  · have := (syms_le hb).1 h
    rw [Int.zero_mul] at this; omega
theorem syms_self {b n : Int} (hb : 0 < b) : 22 + 8 * n ≤ symsP b n * b := (syms_le hb).1 (Int.le_refl _)
theorem syms_less {b n : Int} (hb : 0 < b) : (symsP b n - 1) * b < 22 + 8 * n := by
  rcases (show (symsP b n - 1) * b < 22 + 8 * n ∨ 22 + 8 * n ≤ (symsP b n - 1) * b by omega) with h | h
  · exact h
  · have := (syms_le hb).2 h; omega
theorem syms_mono {b m n : Int} (hb : 0 < b) (h : m ≤ n) : symsP b m ≤ symsP b n := (syms_le hb).2 (by have := syms_self (b := b) (n := n) hb; omega)
theorem syms_bits {a b n : Int} (ha : 0 < a) (hb : 0 < b) (h : a ≤ b) (hn : 0 ≤ n) : symsP b n ≤ symsP a n := by
  refine (syms_le hb).2 ?_
  have h1 := syms_self (b := a) (n := n) ha
  have h2 := syms_pos (b := a) ha hn
  have h3 : symsP a n * a ≤ symsP a n * b := Int.mul_le_mul_of_nonneg_left h (by omega)
  omega
theorem syms_add {b m n : Int} (hb : 0 < b) : symsP b (m + n) ≤ symsP b m + symsP b n := by
  refine (syms_le hb).2 ?_
  rw [Int.add_mul]
  have h1 := syms_self (b := b) (n := m) hb
  have h2 := syms_self (b := b) (n := n) hb
  omega
theorem syms_top {b n : Int} (hb : 24 ≤ b) (hb1 : b ≤ 1000000) (hn : 0 ≤ n) (h1 : n ≤ 1048576) : symsP b n ≤ 9388630 := by
  unfold symsP
  have := Int.ediv_le_self b (show 0 ≤ 22 + 8 * n + b - 1 by omega)
  omega
theorem mul_nn {a b A B : Int} (h0 : 0 ≤ a) (hA : a ≤ A) (k0 : 0 ≤ b) (kB : b ≤ B) : 0 ≤ a * b ∧ a * b ≤ A * B :=
  ⟨Int.mul_nonneg h0 k0, Int.mul_le_mul hA kB k0 (by omega)⟩

theorem pp_bounds {r : RT} {n : Int} (h : okP r n = true) : 0 < ppP r n ∧ ppP r n ≤ 2000000000 := by
  obtain ⟨hv, h0, h1⟩ := ok_yes h
  rw [ppP, if_pos h]
  obtain ⟨b0, b1⟩ := bits_bounds hv
  obtain ⟨s0, s1⟩ := sym_bounds hv
  obtain ⟨p0, p1⟩ := pre_bounds hv
  have t1 := syms_top b0 b1 h0 h1
  have t0 := syms_pos (b := bitsP r) (n := n) (by omega) h0
  obtain ⟨m0, m1⟩ := mul_nn (a := symsP (bitsP r) n) (b := symP r) (by omega) t1 (by omega) s1
  omega
theorem pp_not {r : RT} {n : Int} (h : okP r n = false) : ppP r n = 0 := by rw [ppP, h]; rfl
theorem pp_zero (r : RT) (n : Int) : ppP r n = 0 ↔ okP r n = false := by
  rcases h : okP r n
  · simp [pp_not h]
  · have := pp_bounds h
    simp; omega
theorem pp_mono {r : RT} {m n : Int} (hm : okP r m = true) (hn : okP r n = true) (h : m ≤ n) : ppP r m ≤ ppP r n := by
  obtain ⟨hv, _, _⟩ := ok_yes hm
  rw [ppP, if_pos hm, ppP, if_pos hn]
  obtain ⟨b0, b1⟩ := bits_bounds hv
  obtain ⟨s0, s1⟩ := sym_bounds hv
  have h1 := syms_mono (b := bitsP r) (by omega) h
  have h2 : symsP (bitsP r) m * symP r ≤ symsP (bitsP r) n * symP r := Int.mul_le_mul_of_nonneg_right h1 (by omega)
  omega
theorem pp_add {r : RT} {m n : Int} (hm : okP r m = true) (hn : okP r n = true) (h : okP r (m + n) = true) : ppP r (m + n) < ppP r m + ppP r n := by
  obtain ⟨hv, _, _⟩ := ok_yes hm
  rw [ppP, if_pos h, ppP, if_pos hm, ppP, if_pos hn]
  obtain ⟨b0, b1⟩ := bits_bounds hv
  obtain ⟨s0, s1⟩ := sym_bounds hv
  obtain ⟨p0, p1⟩ := pre_bounds hv
  have h1 := syms_add (b := bitsP r) (m := m) (n := n) (by omega)
  have h2 : symsP (bitsP r) (m + n) * symP r ≤ (symsP (bitsP r) m + symsP (bitsP r) n) * symP r := Int.mul_le_mul_of_nonneg_right h1 (by omega)
  rw [Int.add_mul] at h2
  omega
theorem pp_faster {a b : RT} {n : Int} (ha : validP a = true) (hb : validP b = true) (hm : a.m = b.m) (hs : a.s = b.s) (h1 : bitsP b ≤ bitsP a) (h2 : symP a ≤ symP b) (h0 : 0 ≤ n) (hn : n ≤ 1048576) : ppP a n ≤ ppP b n := by
  rw [ppP, if_pos (ok_of ha h0 hn), ppP, if_pos (ok_of hb h0 hn)]
  have e : preP a = preP b := by rw [preP, if_pos ha, preP, if_pos hb, hm, hs]
  obtain ⟨b0, b1⟩ := bits_bounds ha
  obtain ⟨c0, c1⟩ := bits_bounds hb
  obtain ⟨s0, s1⟩ := sym_bounds ha
  have h3 := syms_bits (a := bitsP b) (b := bitsP a) (n := n) (by omega) (by omega) h1 h0
  have h4 := syms_pos (b := bitsP a) (n := n) (by omega) h0
  have h5 : symsP (bitsP a) n * symP a ≤ symsP (bitsP b) n * symP b := Int.mul_le_mul h3 h2 (by omega) (by omega)
  omega
theorem tot_eq {r : RT} {n : Int} (h : okP r n = true) : totP r n = ppP r n + 480 := by rw [totP, if_pos h]
theorem tot_not {r : RT} {n : Int} (h : okP r n = false) : totP r n = 0 := by rw [totP, h]; rfl

theorem can_yes {r : RT} {t : Int} (h : canP r t = true) : validP r = true ∧ ppP r 0 ≤ t := by
  simpa [canP, Bool.and_eq_true, decide_eq_true_eq] using h
/-- what such a time holds -/
theorem n_facts {r : RT} {t : Int} (h : canP r t = true) : 1 ≤ nP r t ∧ 22 ≤ nP r t * bitsP r ∧ ∀ n, 0 ≤ n → n ≤ 1048576 → (ppP r n ≤ t ↔ 22 + 8 * n ≤ nP r t * bitsP r) := by
  obtain ⟨hv, hp⟩ := can_yes h
  obtain ⟨b0, b1⟩ := bits_bounds hv
  obtain ⟨s0, s1⟩ := sym_bounds hv
  have key : ∀ n, 0 ≤ n → n ≤ 1048576 → (ppP r n ≤ t ↔ 22 + 8 * n ≤ nP r t * bitsP r) := by
    intro n h0 h1
    rw [ppP, if_pos (ok_of hv h0 h1), ← syms_le (b := bitsP r) (n := n) (N := nP r t) (by omega), nP, Int.le_ediv_iff_mul_le (by omega)]
    constructor <;> intro h <;> omega
  have h0 := (key 0 (by omega) (by omega)).1 hp
  refine ⟨?_, by omega, key⟩
  rcases (show 1 ≤ nP r t ∨ nP r t ≤ 0 by omega) with h | h
  · exact h
  · have : nP r t * bitsP r ≤ 0 * bitsP r := Int.mul_le_mul_of_nonneg_right h (by omega)
    rw [Int.zero_mul] at this; omega
theorem most_range {r : RT} {t : Int} (h : canP r t = true) : 0 ≤ mostP r t ∧ mostP r t ≤ 1048576 := by
  obtain ⟨h1, h2, _⟩ := n_facts h
  rw [mostP, if_pos h]
  split <;> omega
theorem most_iff {r : RT} {t : Int} (h : canP r t = true) {n : Int} (h0 : 0 ≤ n) (hn : n ≤ 1048576) : ppP r n ≤ t ↔ n ≤ mostP r t := by
  obtain ⟨h1, h2, h3⟩ := n_facts h
  obtain ⟨hv, _⟩ := can_yes h
  obtain ⟨b0, b1⟩ := bits_bounds hv
  rw [h3 n h0 hn, mostP, if_pos h]
  split
  · rename_i hN
    have : 8388608 * 24 ≤ nP r t * bitsP r := Int.mul_le_mul hN b0 (by omega) (by omega)
    constructor <;> intro _ <;> omega
  · generalize nP r t * bitsP r = X at *
    omega
theorem most_not {r : RT} {t : Int} (h : canP r t = false) : mostP r t = -1 := by rw [mostP, h]; rfl
theorem can_no {r : RT} {t : Int} (h : canP r t = false) (hv : validP r = true) : t < ppP r 0 := by
  simp [canP, hv] at h; omega
theorem can_mono {r : RT} {s t : Int} (h : s ≤ t) (hs : canP r s = true) : canP r t = true := by
  obtain ⟨hv, hp⟩ := can_yes hs
  simp [canP, hv]; omega
theorem most_mono {r : RT} {s t : Int} (h : s ≤ t) : mostP r s ≤ mostP r t := by
  rcases hs : canP r s
  · rw [most_not hs]
    rcases ht : canP r t
    · rw [most_not ht]; exact Int.le_refl _
    · have := most_range ht; omega
  · have ht := can_mono h hs
    obtain ⟨m0, m1⟩ := most_range hs
    exact (most_iff ht m0 m1).1 (by have := (most_iff hs m0 m1).2 (Int.le_refl _); omega)
end Go.Proofs.YtoagmehgiaamlaaDoor
