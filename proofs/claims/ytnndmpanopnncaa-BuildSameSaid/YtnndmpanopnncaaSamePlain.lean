/-
  Frames of one length: the plain law.
-/
import Derived.Test.YtnndmpanopnncaaBuildPlain
namespace Go.Proofs.Ytnndmpanopnncaa
open Go.ChangeShapes Go.WideShapes Go.ChangeAt Go.RowKit
set_option linter.unusedVariables false

theorem chP_none' {r : RT} {C B T : Int} {L : List Int} (h : chN r C B T L = 0) : chP r C B T L = if headOk r L = true then (1, false) else (0, false) := by
  rw [chP, if_pos h]
theorem agg_rep (s : Int) (h : 1 ≤ s) (k : Nat) : aggP (List.replicate (k + 1) s) = (k : Int) * ((4 + s + 3) / 4 * 4) + 4 + s := by
  induction k with
  | zero =>
    show aggS 0 s = _
    unfold aggS upP; simp; omega
  | succ k ih =>
    rw [List.replicate_succ', agg_snoc, ih]
    unfold aggS upP
    have e : ((k + 1 : Nat) : Int) * ((4 + s + 3) / 4 * 4) = (k : Int) * ((4 + s + 3) / 4 * 4) + (4 + s + 3) / 4 * 4 := by
      rw [show ((k + 1 : Nat) : Int) = (k : Int) + 1 from rfl, Int.add_mul, Int.one_mul]
    rw [e]
    have e2 : (k : Int) * ((4 + s + 3) / 4 * 4) = ((k : Int) * ((4 + s + 3) / 4)) * 4 := by rw [Int.mul_assoc]
    rw [e2]
    generalize (k : Int) * ((4 + s + 3) / 4) = X
    omega
/-- does the k-th fit, by the tightest of the three? -/
def tight (r : RT) (C B T s : Int) (k : Nat) : Bool :=
  decide ((k : Int) + 1 ≤ C) && (decide ((k : Int) * ((4 + s + 3) / 4 * 4) + 4 + s ≤ B) && decide (ppP r ((k : Int) * ((4 + s + 3) / 4 * 4) + 4 + s) ≤ T))
/-- as many as the law's loop counts behind k rounds -/
def wantP (r : RT) (C B T s : Int) : Nat → Nat
  | 0 => 0
  | k + 1 => if tight r C B T s k = true ∧ wantP r C B T s k = k then k + 1 else wantP r C B T s k
theorem want_le (r : RT) (C B T s : Int) (k : Nat) : wantP r C B T s k ≤ k := by
  induction k with
  | zero => exact Nat.le_refl _
  | succ k ih => simp only [wantP]; split <;> omega
theorem tight_fits {r : RT} {C B T s : Int} (hv : validP r = true) (h1 : 1 ≤ s) (h2 : s ≤ 4095) (hC : C ≤ 69) (hB : B ≤ 65535) (hT : T ≤ 54840) {k : Nat} (hk : k < 64) :
    fitF r C B T (List.replicate 64 s) (k + 1) = tight r C B T s k := by
  have e : (List.replicate 64 s).take (k + 1) = List.replicate (k + 1) s := by rw [List.take_replicate, Nat.min_eq_left (by omega)]
  rw [fitF, e]
  have ha := agg_rep s h1 k
  rw [Bool.eq_iff_iff, fits_iff, ha, List.length_replicate]
  simp only [tight, Bool.and_eq_true, decide_eq_true_eq]
  have hw : (List.replicate (k + 1) s).any wrongB = false := by
    rw [List.any_eq_false]
    intro x hx
    rw [List.eq_of_mem_replicate hx, wrong_of h1 h2]
    simp
  constructor
  · rintro ⟨_, _, _, k4, k5, k6⟩
    refine ⟨by omega, by omega, by omega⟩
  · rintro ⟨k4, k5, k6⟩
    exact ⟨hv, by simp, hw, by omega, by omega, by omega⟩
theorem want_eq {r : RT} {C B T s : Int} (hv : validP r = true) (h1 : 1 ≤ s) (h2 : s ≤ 4095) (hC : C ≤ 69) (hB : B ≤ 65535) (hT : T ≤ 54840) :
    chN r C B T (List.replicate 64 s) = wantP r C B T s 64 := by
  have key : ∀ k, k ≤ 64 → (wantP r C B T s k = 0 ∨ fitF r C B T (List.replicate 64 s) (wantP r C B T s k) = true) ∧ (wantP r C B T s k < k → fitF r C B T (List.replicate 64 s) (wantP r C B T s k + 1) = false) := by
    intro k
    induction k with
    | zero => intro _; exact ⟨.inl rfl, fun h => by simp [wantP] at h⟩
    | succ k ih =>
      intro hk
      obtain ⟨a1, a2⟩ := ih (by omega)
      simp only [wantP]
      split
      · rename_i hh
        refine ⟨.inr ?_, fun h => by omega⟩
        rw [tight_fits hv h1 h2 hC hB hT (by omega)]; exact hh.1
      · rename_i hh
        refine ⟨a1, fun h => ?_⟩
        rcases Nat.lt_or_ge (wantP r C B T s k) k with hlt | hge
        · exact a2 hlt
        · have he : wantP r C B T s k = k := by have := want_le r C B T s k; omega
          rw [he, tight_fits hv h1 h2 hC hB hT (by omega)]
          rcases ht : tight r C B T s k
          · rfl
          · exact absurd ⟨ht, he⟩ hh
  obtain ⟨a1, a2⟩ := key 64 (Nat.le_refl _)
  have hw := want_le r C B T s 64
  refine ch_up (by rw [List.length_replicate]; exact hw) a1 ?_
  rcases Nat.lt_or_ge (wantP r C B T s 64) 64 with h | h
  · exact .inr (a2 h)
  · exact .inl (by rw [List.length_replicate]; omega)
theorem same_law {r : RT} {C B T s : Int} (hv : validP r = true) (h1 : 1 ≤ s) (h2 : s ≤ 4095) (hC : C ≤ 69) (hB : B ≤ 65535) (hT : T ≤ 54840) :
    chP r C B T (List.replicate 64 s) = (max (wantP r C B T s 64 : Int) 1, decide (0 < (wantP r C B T s 64 : Int))) := by
  have h := want_eq hv h1 h2 hC hB hT
  rcases hk : wantP r C B T s 64 with _ | k
  · rw [hk] at h
    rw [chP_none' h]
    have : headOk r (List.replicate 64 s) = true := by show (validP r && !(wrongB s)) = true; rw [hv, wrong_of h1 h2]; rfl
    rw [if_pos this]; rfl
  · rw [hk] at h
    rw [chP, if_neg (by omega), h]
    have e1 : max ((k + 1 : Nat) : Int) 1 = ((k + 1 : Nat) : Int) := by omega
    have e2 : decide (0 < ((k + 1 : Nat) : Int)) = true := decide_eq_true (by omega)
    rw [e1, e2]
end Go.Proofs.Ytnndmpanopnncaa
