/-
  GramSays: what codes gram.Check may tell.
-/
import Derived.Test.YtoagmehgiaamlaaDoorGramStep
namespace Go.Proofs.YtoagmehgiaamlaaDoor
open Go.ChangeShapes Go.WideShapes Go.ChangeAt Go.RowKit
set_option linter.unusedVariables false

theorem part_code (b : List UInt8) {i : Nat} (h : partP b = .error i) : i ∈ allErr := by
  unfold partP at h
  split at h
  · injection h with h; subst h; decide
  · split at h
    · injection h with h; subst h; decide
    · split at h
      · injection h with h; subst h; decide
      · split at h
        · injection h with h; subst h; decide
        · cases h
theorem pts_code (b : List UInt8) : ∀ i, ptsP b = .error i → i ∈ allErr := by
  obtain ⟨n, hn⟩ : ∃ n, b.length ≤ n := ⟨_, Nat.le_refl _⟩
  induction n generalizing b with
  | zero =>
    intro i h
    rw [List.eq_nil_of_length_eq_zero (by omega : b.length = 0), pts_nil] at h
    cases h
  | succ n ih =>
    intro i h
    by_cases h0 : b = []
    · rw [h0, pts_nil] at h; cases h
    · rcases hp : partP b with j | x
      · rw [pts_err h0 hp] at h
        injection h with h
        subst h
        exact part_code b hp
      · have hx := part_ok hp
        rw [pts_ok hp] at h
        split at h
        · injection h with h; subst h; decide
        · split at h
          · injection h with h; subst h; decide
          · rcases hq : ptsP (b.drop (4 + up4 x.length)) with j | l
            · rw [hq] at h
              injection h with h
              subst h
              exact ih _ (by rw [List.length_drop]; omega) _ hq
            · rw [hq] at h; cases h
theorem parts_code (b : List UInt8) {i : Nat} (h : partsP b = .error i) : i ∈ allErr := by
  unfold partsP at h
  split at h
  · injection h with h; subst h; decide
  · rcases hq : ptsP b with j | l
    · rw [hq] at h
      injection h with h
      subst h
      exact pts_code b _ hq
    · rw [hq] at h
      simp only at h
      split at h
      · injection h with h; subst h; decide
      · cases h
theorem rd_code {x : List UInt8} {c : Nat} (h : rdErr x = some c) : c ∈ allErr := by
  unfold rdErr at h
  split at h
  · injection h with h; subst h; decide
  · split at h
    · injection h with h; subst h; decide
    · split at h
      · injection h with h; subst h; decide
      · split at h
        · injection h with h; subst h; decide
        · cases h
theorem partG_code {m : RulesP} {u : URead} {l : Option URead} {c : Nat} (h : partG m u l = some c) : c ∈ allErr := by
  unfold partG at h
  split at h
  · injection h with h; subst h; decide
  · split at h
    · injection h with h; subst h; decide
    · split at h
      · injection h with h; subst h; decide
      · cases h
theorem sent_code {m : RulesP} : ∀ (L : List (List UInt8)) (i : Nat) (s : SentP) (l : Option URead) (c j : Nat), sentL m L i s l = .error (c, j) → c ∈ allErr := by
  intro L
  induction L with
  | nil => intro i s l c j h; rw [sentL] at h; cases h
  | cons p ps ih =>
    intro i s l c j h
    rcases h1 : rdErr p with _ | d
    · rcases h2 : partG m (uread p) l with _ | d
      · rw [sent_next h1 h2] at h
        exact ih _ _ _ _ _ h
      · rw [sent_amiss h1 h2] at h
        injection h with h
        injection h with h3 h4
        subst h3
        exact partG_code h2
    · rw [sent_bad h1] at h
      injection h with h
      injection h with h3 h4
      subst h3
      exact rd_code h1
/-- the code that is told, if any -/
def SentR.code : SentR → Option Nat
  | .bare c => some c
  | .placed c _ => some c
  | .fine _ => none
theorem allR_code {m : RulesP} {ag : Bool} {n : Nat} {L : List (List UInt8)} {c : Nat} (hc : (allR m ag n L).code = some c) : c ∈ allErr := by
  unfold allR at hc
  rcases h : sentL m L 0 noSent none with x | s
  · rw [h] at hc
    injection hc with hc
    exact sent_code L 0 noSent none c x.2 (by rw [h, ← hc])
  · rw [h] at hc
    simp only at hc
    rcases hw : wholeP m ag (L.length : Int) (n : Int) with _ | d
    · rw [hw] at hc
      cases hc
    · rw [hw] at hc
      injection hc with hc
      subst hc
      unfold wholeP at hw
      split at hw
      · injection hw with hw; subst hw; decide
      · split at hw
        · injection hw with hw; subst hw; decide
        · cases hw
theorem check_code {m : RulesP} {ag : Bool} {b : List UInt8} {c : Nat} (hc : (checkP m ag b).code = some c) : c ∈ allErr := by
  unfold checkP at hc
  split at hc
  · split at hc
    · injection hc with hc; subst hc; decide
    · rcases hp : partsP b with d | L
      · rw [hp] at hc
        injection hc with hc
        subst hc
        exact parts_code b hp
      · rw [hp] at hc
        exact allR_code hc
  · exact allR_code hc
theorem bare_code {m : RulesP} {ag : Bool} {b : List UInt8} {c : Nat} (h : checkP m ag b = .bare c) : c ∈ allErr := check_code (m := m) (ag := ag) (b := b) (by rw [h]; rfl)
theorem placed_code {m : RulesP} {ag : Bool} {b : List UInt8} {c i : Nat} (h : checkP m ag b = .placed c i) : c ∈ allErr := check_code (m := m) (ag := ag) (b := b) (by rw [h]; rfl)
end Go.Proofs.YtoagmehgiaamlaaDoor
