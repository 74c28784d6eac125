/-
  One category alone, in plain terms.
-/
import Derived.Test.YtejlfifoehpljaaDoorEdcaPlain
namespace Go.Proofs.YtejlfifoehpljaaDoor.Edca

theorem run1_skip {rd : Nat → Bool} {dr g : Nat → Int} {s : A1} {ac : Nat} (hr : ∀ k, k < 4 → k ≠ ac → rd k = false) : ∀ n, n ≤ ac → n ≤ 4 → run1 rd dr g s n = s
  | 0, _, _ => rfl
  | n + 1, h, h4 => by
    show step1 rd dr g n (run1 rd dr g s n) = s
    rw [run1_skip hr n (by omega) (by omega), step1_skip (hr n (by omega) (by omega))]
theorem run1_after {rd : Nat → Bool} {dr g : Nat → Int} {s : A1} {ac : Nat} (hr : ∀ k, k < 4 → k ≠ ac → rd k = false) : ∀ n, ac < n → n ≤ 4 → run1 rd dr g s n = run1 rd dr g s (ac + 1)
  | 0, h, _ => by omega
  | n + 1, h, h4 => by
    by_cases e : n = ac
    · rw [e]
    · show step1 rd dr g n (run1 rd dr g s n) = _
      rw [step1_skip (hr n (by omega) e)]
      exact run1_after hr n (by omega) (by omega)
theorem run2_skip {rd : Nat → Bool} {w t : Int} {s : St} {ac : Nat} (hr : ∀ k, k < 4 → k ≠ ac → rd k = false) : ∀ n, n ≤ ac → n ≤ 4 → run2 rd w t s n = s
  | 0, _, _ => rfl
  | n + 1, h, h4 => by
    show step2 rd w t n (run2 rd w t s n) = s
    rw [run2_skip hr n (by omega) (by omega), step2_skip (hr n (by omega) (by omega))]
theorem run2_after {rd : Nat → Bool} {w t : Int} {s : St} {ac : Nat} (hr : ∀ k, k < 4 → k ≠ ac → rd k = false) : ∀ n, ac < n → n ≤ 4 → run2 rd w t s n = run2 rd w t s (ac + 1)
  | 0, h, _ => by omega
  | n + 1, h, h4 => by
    by_cases e : n = ac
    · rw [e]
    · show step2 rd w t n (run2 rd w t s n) = _
      rw [step2_skip (hr n (by omega) e)]
      exact run2_after hr n (by omega) (by omega)

theorem upd_upd {α : Type} (f : Nat → α) (k : Nat) (u v : α) : upd (upd f k u) k v = upd f k v := by
  funext i; unfold upd; split <;> rfl

theorem alone_law {rd : Nat → Bool} {dr : Nat → Int} {s : St} {ac : Nat} (hac : ac < 4) (hr : ∀ k, k < 4 → k ≠ ac → rd k = false) (hra : rd ac = true) (hh : s.h ac = false) (hl : s.l ac = 0) :
    conS rd dr s = s ∧ conW rd dr s = (ac : Int) ∧ conT rd dr s = wt ac + dr ac % (win s.g ac + 1) ∧ conB rd dr s = true := by
  have hm : mid rd dr s = { h := upd s.h ac true, l := upd s.l ac (dr ac % (win s.g ac + 1)), w := (ac : Int), t := wt ac + dr ac % (win s.g ac + 1) } := by
    unfold mid
    rw [run1_after hr 4 (by omega) (by omega)]
    show step1 rd dr s.g ac (run1 rd dr s.g _ ac) = _
    rw [run1_skip hr ac (by omega) (by omega)]
    refine step1_yes (L := dr ac % (win s.g ac + 1)) hra ?_ (Or.inl (show (-1 : Int) < 0 by omega))
    show _ = bif s.h ac then s.l ac else dr ac % (win s.g ac + 1)
    rw [hh]; rfl
  have hd : decide ((mid rd dr s).w < 0) = false := by rw [hm, decide_eq_false_iff_not]; show ¬ (ac : Int) < 0; omega
  refine ⟨?_, ?_, ?_, ?_⟩
  · unfold conS
    rw [hd, hm]
    show run2 rd (ac : Int) (wt ac + dr ac % (win s.g ac + 1)) { h := upd s.h ac true, l := upd s.l ac (dr ac % (win s.g ac + 1)), g := s.g } 4 = s
    rw [run2_after hr 4 (by omega) (by omega)]
    show step2 rd _ _ ac (run2 rd _ _ _ ac) = s
    rw [run2_skip hr ac (by omega) (by omega), step2_win hra (by show wt ac + upd s.l ac (dr ac % (win s.g ac + 1)) ac ≤ _; rw [upd_at]; omega) rfl]
    show St.mk (upd (upd s.h ac true) ac false) (upd (upd s.l ac _) ac 0) s.g = s
    rw [upd_upd, upd_upd, upd_same hh, upd_same hl]
  · unfold conW; rw [hd, hm]; rfl
  · unfold conT; rw [hd, hm]; rfl
  · unfold conB; rw [hd]; rfl

theorem grown_win (g : Nat → Int) (k : Nat) : win (upd g k (grown g k)) k = min (2 * win g k + 1) (ms k) := by
  unfold win
  rw [upd_at]
  unfold grown win
  omega
end Go.Proofs.YtejlfifoehpljaaDoor.Edca
