/-
  The document's counters beside the program's, in plain terms.
-/
import Derived.Test.YtejlfifoehpljaaDoorEdcaPlain
namespace Go.Proofs.YtejlfifoehpljaaDoor.Edca

def ctOf (h : Nat → Bool) (l : Nat → Int) : Nat → Int := fun i => bif h i then l i + 1 else 0
theorem ctOf_set (h : Nat → Bool) (l : Nat → Int) (k : Nat) (v : Int) : ctOf (upd h k true) (upd l k v) = upd (ctOf h l) k (v + 1) := by
  funext i; unfold ctOf upd; split <;> rfl
theorem ctOf_clear (h : Nat → Bool) (l : Nat → Int) (k : Nat) : ctOf (upd h k false) (upd l k 0) = upd (ctOf h l) k 0 := by
  funext i; unfold ctOf upd; split <;> rfl
theorem ctOf_left {h : Nat → Bool} {l : Nat → Int} {k : Nat} {v : Int} (hk : h k = true) : ctOf h (upd l k v) = upd (ctOf h l) k (v + 1) := by
  funext i; unfold ctOf upd
  split
  · rename_i e; subst e; rw [hk]; rfl
  · rfl
theorem ctOf_yes {h : Nat → Bool} {l : Nat → Int} {k : Nat} (hk : h k = true) : ctOf h l k = l k + 1 := by unfold ctOf; rw [hk]; rfl
theorem ctOf_no {h : Nat → Bool} {l : Nat → Int} {k : Nat} (hk : h k = false) : ctOf h l k = 0 := by unfold ctOf; rw [hk]; rfl
theorem upd_comm {α : Type} (f : Nat → α) {j k : Nat} (u v : α) (h : j ≠ k) : upd (upd f j u) k v = upd (upd f k v) j u := by
  funext i; unfold upd
  by_cases e1 : i = k
  · subst e1; simp [Ne.symm h]
  · simp [e1]
theorem upd_upd' {α : Type} (f : Nat → α) (k : Nat) (u v : α) : upd (upd f k u) k v = upd f k v := by
  funext i; unfold upd; split <;> rfl

/-- the winner is the one of the least; who is ready has a counter -/
def Least (rd : Nat → Bool) (n : Nat) (a : A1) : Prop :=
  (∀ k, k < n → rd k = true → a.h k = true ∧ 0 ≤ a.w ∧ a.t ≤ wt k + a.l k) ∧ (0 ≤ a.w → ∃ j : Nat, j < n ∧ a.w = (j : Int) ∧ rd j = true ∧ a.t = wt j + a.l j)
theorem run1_least {rd : Nat → Bool} {dr g : Nat → Int} {s : A1} (hs : s.w = -1) : ∀ n, Least rd n (run1 rd dr g s n)
  | 0 => ⟨fun k hk => by omega, fun h => by have : (run1 rd dr g s 0).w = -1 := hs; omega⟩
  | n + 1 => by
    have ih := run1_least (rd := rd) (dr := dr) (g := g) (s := s) hs n
    show Least rd (n + 1) (step1 rd dr g n (run1 rd dr g s n))
    generalize run1 rd dr g s n = a at *
    obtain ⟨ih1, ih2⟩ := ih
    cases hr : rd n
    · rw [step1_skip hr]
      refine ⟨fun k hk hk2 => ?_, fun h => ?_⟩
      · by_cases e : k = n
        · subst e; rw [hr] at hk2; cases hk2
        · exact ih1 k (by omega) hk2
      · obtain ⟨j, h1, h2⟩ := ih2 h
        exact ⟨j, by omega, h2⟩
    · obtain ⟨L, hL⟩ : ∃ L, L = bif a.h n then a.l n else dr n % (win g n + 1) := ⟨_, rfl⟩
      by_cases hc : a.w < 0 ∨ wt n + L ≤ a.t
      · rw [step1_yes hr hL hc]
        refine ⟨fun k hk hk2 => ?_, fun _ => ⟨n, by omega, rfl, hr, by show wt n + L = wt n + upd a.l n L n; rw [upd_at]⟩⟩
        show upd a.h n true k = true ∧ (0 : Int) ≤ (n : Int) ∧ wt n + L ≤ wt k + upd a.l n L k
        by_cases e : k = n
        · subst e; rw [upd_at, upd_at]; exact ⟨rfl, by omega, by omega⟩
        · rw [upd_ne _ _ e, upd_ne _ _ e]
          obtain ⟨h1, h2, h3⟩ := ih1 k (by omega) hk2
          exact ⟨h1, by omega, by omega⟩
      · have hc1 : 0 ≤ a.w := by omega
        have hc2 : a.t < wt n + L := by omega
        rw [step1_no hr hL hc1 hc2]
        refine ⟨fun k hk hk2 => ?_, fun h => ?_⟩
        · show upd a.h n true k = true ∧ 0 ≤ a.w ∧ a.t ≤ wt k + upd a.l n L k
          by_cases e : k = n
          · subst e; rw [upd_at, upd_at]; exact ⟨rfl, by omega, by omega⟩
          · rw [upd_ne _ _ e, upd_ne _ _ e]; exact ih1 k (by omega) hk2
        · obtain ⟨j, h1, h2, h3, h4⟩ := ih2 h
          refine ⟨j, by omega, h2, h3, ?_⟩
          show a.t = wt j + upd a.l n L j
          rw [upd_ne _ _ (by omega)]; exact h4

theorem step2_at {rd : Nat → Bool} {w t : Int} {n k : Nat} {s : St} (hk : k ≠ n) : (step2 rd w t n s).h k = s.h k ∧ (step2 rd w t n s).l k = s.l k ∧ (step2 rd w t n s).g k = s.g k := by
  unfold step2
  cases rd n
  · exact ⟨rfl, rfl, rfl⟩
  · cases decide (t < wt n + s.l n)
    · cases ((n : Int) != w)
      · exact ⟨upd_ne _ _ hk, upd_ne _ _ hk, rfl⟩
      · exact ⟨upd_ne _ _ hk, upd_ne _ _ hk, upd_ne _ _ hk⟩
    · exact ⟨rfl, upd_ne _ _ hk, rfl⟩
theorem run2_at {rd : Nat → Bool} {w t : Int} {s : St} {k : Nat} : ∀ n, n ≤ k → (run2 rd w t s n).h k = s.h k ∧ (run2 rd w t s n).l k = s.l k ∧ (run2 rd w t s n).g k = s.g k
  | 0, _ => ⟨rfl, rfl, rfl⟩
  | n + 1, h => by
    have ih := run2_at (rd := rd) (w := w) (t := t) (s := s) (k := k) n (by omega)
    have := step2_at (rd := rd) (w := w) (t := t) (n := n) (k := k) (s := run2 rd w t s n) (by omega)
    exact ⟨this.1.trans ih.1, this.2.1.trans ih.2.1, this.2.2.trans ih.2.2⟩
/-- behind its round the winner has no counter -/
theorem run2_won {rd : Nat → Bool} {t : Int} {s : St} {j : Nat} (hr : rd j = true) (ht : t = wt j + s.l j) : ∀ n, j < n → (run2 rd (j : Int) t s n).h j = false
  | 0, h => by omega
  | n + 1, h => by
    show (step2 rd (j : Int) t n (run2 rd (j : Int) t s n)).h j = false
    by_cases e : j = n
    · subst e
      have h2 := run2_at (rd := rd) (w := (j : Int)) (t := t) (s := s) (k := j) j (Nat.le_refl _)
      rw [step2_win hr (by rw [h2.2.1]; omega) rfl]
      exact upd_at _ _ _
    · rw [(step2_at (by omega)).1]
      exact run2_won hr ht n (by omega)
end Go.Proofs.YtejlfifoehpljaaDoor.Edca
