/-
  Chapter 18 in plain terms: the counters and windows, who wins, what is left.
-/
namespace Go.Proofs.YtejlfifoehpljaaDoor.Edca

def upd {α : Type} (f : Nat → α) (k : Nat) (v : α) : Nat → α := fun i => if i = k then v else f i
theorem upd_same {α : Type} {f : Nat → α} {k : Nat} {v : α} (h : f k = v) : upd f k v = f := by
  funext i
  unfold upd
  split
  · rename_i e; rw [e, h]
  · rfl
theorem upd_at {α : Type} (f : Nat → α) (k : Nat) (v : α) : upd f k v k = v := by simp [upd]
theorem upd_ne {α : Type} (f : Nat → α) {k i : Nat} (v : α) (h : i ≠ k) : upd f k v i = f i := by simp [upd, h]

def wt : Nat → Int | 0 => 7 | 1 => 3 | _ => 2
def fs : Nat → Int | 0 => 15 | 1 => 15 | 2 => 7 | _ => 3
def ms : Nat → Int | 0 => 1023 | 1 => 63 | 2 => 15 | _ => 7
theorem wt_le (k : Nat) : 2 ≤ wt k ∧ wt k ≤ 7 := by
  unfold wt; split <;> omega
/-- a category's window -/
def win (g : Nat → Int) (k : Nat) : Int := fs k + g k
def grown (g : Nat → Int) (k : Nat) : Int := min (2 * win g k + 1) (ms k) - fs k

/-- the counters; the windows less those at first -/
structure St where
  h : Nat → Bool
  l : Nat → Int
  g : Nat → Int
/-- ahead: the counters, the winner (-1: none yet), its slots -/
structure A1 where
  h : Nat → Bool
  l : Nat → Int
  w : Int
  t : Int

def step1 (rd : Nat → Bool) (dr g : Nat → Int) (k : Nat) (s : A1) : A1 :=
  bif rd k then
    { h := upd s.h k true, l := upd s.l k (bif s.h k then s.l k else dr k % (win g k + 1)),
      w := bif decide (s.w < 0) || decide (wt k + (bif s.h k then s.l k else dr k % (win g k + 1)) ≤ s.t) then (k : Int) else s.w,
      t := bif decide (s.w < 0) || decide (wt k + (bif s.h k then s.l k else dr k % (win g k + 1)) ≤ s.t) then wt k + (bif s.h k then s.l k else dr k % (win g k + 1)) else s.t }
  else s
def run1 (rd : Nat → Bool) (dr g : Nat → Int) (s : A1) : Nat → A1
  | 0 => s
  | k + 1 => step1 rd dr g k (run1 rd dr g s k)

def step2 (rd : Nat → Bool) (w t : Int) (k : Nat) (s : St) : St :=
  bif rd k then
    bif decide (t < wt k + s.l k) then { s with l := upd s.l k (max (s.l k - max (t - wt k) 0) 0) }
    else { h := upd s.h k false, l := upd s.l k 0, g := bif (k : Int) != w then upd s.g k (grown s.g k) else s.g }
  else s
def run2 (rd : Nat → Bool) (w t : Int) (s : St) : Nat → St
  | 0 => s
  | k + 1 => step2 rd w t k (run2 rd w t s k)

theorem step1_skip {rd : Nat → Bool} {dr g : Nat → Int} {k : Nat} {s : A1} (hr : rd k = false) : step1 rd dr g k s = s := by unfold step1; rw [hr]; rfl
theorem step1_yes {rd : Nat → Bool} {dr g : Nat → Int} {k : Nat} {s : A1} {L : Int} (hr : rd k = true) (hL : L = bif s.h k then s.l k else dr k % (win g k + 1)) (hc : s.w < 0 ∨ wt k + L ≤ s.t) :
    step1 rd dr g k s = { h := upd s.h k true, l := upd s.l k L, w := (k : Int), t := wt k + L } := by
  unfold step1
  rw [hr, ← hL]
  have : (decide (s.w < 0) || decide (wt k + L ≤ s.t)) = true := by simpa using hc
  rw [this]; rfl
theorem step1_no {rd : Nat → Bool} {dr g : Nat → Int} {k : Nat} {s : A1} {L : Int} (hr : rd k = true) (hL : L = bif s.h k then s.l k else dr k % (win g k + 1)) (h1 : 0 ≤ s.w) (h2 : s.t < wt k + L) :
    step1 rd dr g k s = { h := upd s.h k true, l := upd s.l k L, w := s.w, t := s.t } := by
  unfold step1
  rw [hr, ← hL]
  have : (decide (s.w < 0) || decide (wt k + L ≤ s.t)) = false := by simp; omega
  rw [this]; rfl
theorem step2_skip {rd : Nat → Bool} {w t : Int} {k : Nat} {s : St} (hr : rd k = false) : step2 rd w t k s = s := by unfold step2; rw [hr]; rfl
theorem step2_wait {rd : Nat → Bool} {w t : Int} {k : Nat} {s : St} (hr : rd k = true) (h : t < wt k + s.l k) : step2 rd w t k s = { s with l := upd s.l k (max (s.l k - max (t - wt k) 0) 0) } := by
  unfold step2; rw [hr]
  have : decide (t < wt k + s.l k) = true := by simpa using h
  rw [this]; rfl
theorem step2_win {rd : Nat → Bool} {w t : Int} {k : Nat} {s : St} (hr : rd k = true) (h : wt k + s.l k ≤ t) (hw : (k : Int) = w) : step2 rd w t k s = { h := upd s.h k false, l := upd s.l k 0, g := s.g } := by
  unfold step2; rw [hr]
  have : decide (t < wt k + s.l k) = false := by simp; omega
  have h2 : ((k : Int) != w) = false := by simp [hw]
  rw [this, h2]; rfl
theorem step2_lose {rd : Nat → Bool} {w t : Int} {k : Nat} {s : St} (hr : rd k = true) (h : wt k + s.l k ≤ t) (hw : ¬ (k : Int) = w) : step2 rd w t k s = { h := upd s.h k false, l := upd s.l k 0, g := upd s.g k (grown s.g k) } := by
  unfold step2; rw [hr]
  have : decide (t < wt k + s.l k) = false := by simp; omega
  have h2 : ((k : Int) != w) = true := by simpa using hw
  rw [this, h2]; rfl

def mid (rd : Nat → Bool) (dr : Nat → Int) (s : St) : A1 := run1 rd dr s.g { h := s.h, l := s.l, w := -1, t := 0 } 4
def conS (rd : Nat → Bool) (dr : Nat → Int) (s : St) : St :=
  bif decide ((mid rd dr s).w < 0) then { h := (mid rd dr s).h, l := (mid rd dr s).l, g := s.g }
  else run2 rd (mid rd dr s).w (mid rd dr s).t { h := (mid rd dr s).h, l := (mid rd dr s).l, g := s.g } 4
def conW (rd : Nat → Bool) (dr : Nat → Int) (s : St) : Int := bif decide ((mid rd dr s).w < 0) then 0 else (mid rd dr s).w
def conT (rd : Nat → Bool) (dr : Nat → Int) (s : St) : Int := bif decide ((mid rd dr s).w < 0) then 0 else (mid rd dr s).t
def conB (rd : Nat → Bool) (dr : Nat → Int) (s : St) : Bool := !decide ((mid rd dr s).w < 0)

/-- what holds of all counters -/
def Inv (s : St) : Prop := ∀ k, k < 4 → 0 ≤ s.l k ∧ s.l k ≤ 1023 ∧ 0 ≤ s.g k ∧ s.g k ≤ ms k - fs k
def s0 : St := { h := fun _ => false, l := fun _ => 0, g := fun _ => 0 }
theorem inv0 : Inv s0 := by
  intro k hk
  rcases (show k = 0 ∨ k = 1 ∨ k = 2 ∨ k = 3 by omega) with rfl | rfl | rfl | rfl <;> decide

theorem win_bounds {g : Nat → Int} {k : Nat} (hk : k < 4) (h0 : 0 ≤ g k) (h1 : g k ≤ ms k - fs k) : 3 ≤ win g k ∧ win g k ≤ 1023 := by
  unfold win
  rcases (show k = 0 ∨ k = 1 ∨ k = 2 ∨ k = 3 by omega) with rfl | rfl | rfl | rfl <;> simp only [fs, ms] at * <;> omega
theorem grown_bounds {g : Nat → Int} {k : Nat} (hk : k < 4) (h0 : 0 ≤ g k) (h1 : g k ≤ ms k - fs k) : 0 ≤ grown g k ∧ grown g k ≤ ms k - fs k := by
  unfold grown win
  rcases (show k = 0 ∨ k = 1 ∨ k = 2 ∨ k = 3 by omega) with rfl | rfl | rfl | rfl <;> simp only [fs, ms] at * <;> omega

def InvA (g : Nat → Int) (s : A1) : Prop := (∀ k, k < 4 → 0 ≤ s.l k ∧ s.l k ≤ 1023) ∧ -1 ≤ s.w ∧ s.w ≤ 3 ∧ 0 ≤ s.t ∧ s.t ≤ 1030
theorem step1_inv {rd : Nat → Bool} {dr g : Nat → Int} {k : Nat} {s : A1} (hk : k < 4) (hg : ∀ k, k < 4 → 0 ≤ g k ∧ g k ≤ ms k - fs k) (h : InvA g s) : InvA g (step1 rd dr g k s) := by
  unfold step1
  cases hr : rd k
  · exact h
  · obtain ⟨h1, h2, h3, h4, h5⟩ := h
    have hw := win_bounds hk (hg k hk).1 (hg k hk).2
    have e1 := Int.emod_nonneg (dr k) (show win g k + 1 ≠ 0 by omega)
    have e2 := Int.emod_lt_of_pos (dr k) (show 0 < win g k + 1 by omega)
    have hl : 0 ≤ (bif s.h k then s.l k else dr k % (win g k + 1)) ∧ (bif s.h k then s.l k else dr k % (win g k + 1)) ≤ 1023 := by
      cases s.h k
      · simp only [cond_false]; omega
      · simp only [cond_true]; exact h1 k hk
    have hwt : 2 ≤ wt k ∧ wt k ≤ 7 := by
      rcases (show k = 0 ∨ k = 1 ∨ k = 2 ∨ k = 3 by omega) with rfl | rfl | rfl | rfl <;> decide
    generalize (bif s.h k then s.l k else dr k % (win g k + 1)) = L at *
    simp only [cond_true]
    refine ⟨fun j hj => ?_, ?_, ?_, ?_, ?_⟩
    · by_cases e : j = k
      · subst e; simp only [upd_at]; exact hl
      · simp only [upd_ne _ _ e]; exact h1 j hj
    all_goals
      cases (decide (s.w < 0) || decide (wt k + L ≤ s.t)) <;> simp only [cond_true, cond_false] <;> omega
theorem run1_inv {rd : Nat → Bool} {dr g : Nat → Int} {s : A1} (hg : ∀ k, k < 4 → 0 ≤ g k ∧ g k ≤ ms k - fs k) (h : InvA g s) : ∀ n, n ≤ 4 → InvA g (run1 rd dr g s n)
  | 0, _ => h
  | n + 1, hn => step1_inv (by omega) hg (run1_inv hg h n (by omega))

theorem step2_inv {rd : Nat → Bool} {w t : Int} {k : Nat} {s : St} (hk : k < 4) (ht : 0 ≤ t) (h : Inv s) : Inv (step2 rd w t k s) := by
  unfold step2
  cases hr : rd k
  · exact h
  simp only [cond_true]
  have hk' := h k hk
  have hgb := grown_bounds hk hk'.2.2.1 hk'.2.2.2
  cases hd : decide (t < wt k + s.l k)
  · simp only [cond_false]
    intro j hj
    have hj' := h j hj
    by_cases e : j = k
    · subst e
      cases hn : ((j : Int) != w)
      · simp only [upd_at, cond_false]; exact ⟨by omega, by omega, hj'.2.2⟩
      · simp only [upd_at, cond_true]; exact ⟨by omega, by omega, hgb⟩
    · cases hn : ((k : Int) != w)
      · simp only [upd_ne _ _ e, cond_false]; exact hj'
      · simp only [upd_ne _ _ e, cond_true]; exact hj'
  · simp only [cond_true]
    intro j hj
    have hj' := h j hj
    by_cases e : j = k
    · subst e
      simp only [upd_at]
      exact ⟨by omega, by omega, hj'.2.2⟩
    · simp only [upd_ne _ _ e]; exact hj'
theorem run2_inv {rd : Nat → Bool} {w t : Int} {s : St} (ht : 0 ≤ t) (h : Inv s) : ∀ n, n ≤ 4 → Inv (run2 rd w t s n)
  | 0, _ => h
  | n + 1, hn => step2_inv (by omega) ht (run2_inv ht h n (by omega))

theorem inv_g {s : St} (h : Inv s) : ∀ k, k < 4 → 0 ≤ s.g k ∧ s.g k ≤ ms k - fs k := fun k hk => (h k hk).2.2
theorem invA_start {s : St} (h : Inv s) : InvA s.g { h := s.h, l := s.l, w := -1, t := 0 } :=
  ⟨fun k hk => ⟨(h k hk).1, (h k hk).2.1⟩, by simp, by simp, by simp, by simp⟩
theorem mid_inv {rd : Nat → Bool} {dr : Nat → Int} {s : St} (h : Inv s) : InvA s.g (mid rd dr s) := run1_inv (inv_g h) (invA_start h) 4 (by omega)
theorem conS_inv {rd : Nat → Bool} {dr : Nat → Int} {s : St} (h : Inv s) : Inv (conS rd dr s) := by
  have hm := mid_inv (rd := rd) (dr := dr) h
  have hi : Inv { h := (mid rd dr s).h, l := (mid rd dr s).l, g := s.g } := fun k hk => ⟨(hm.1 k hk).1, (hm.1 k hk).2, (h k hk).2.2⟩
  unfold conS
  cases decide ((mid rd dr s).w < 0)
  · exact run2_inv hm.2.2.2.1 hi 4 (by omega)
  · exact hi

/-! two draws are as good as one another where they leave the same -/
theorem run1_h {rd : Nat → Bool} {dr g : Nat → Int} {s : A1} {k : Nat} : ∀ n, n ≤ k → (run1 rd dr g s n).h k = s.h k
  | 0, _ => rfl
  | n + 1, hn => by
    have ih := run1_h (rd := rd) (dr := dr) (g := g) (s := s) (k := k) n (by omega)
    show (step1 rd dr g n (run1 rd dr g s n)).h k = s.h k
    unfold step1
    cases rd n
    · exact ih
    · simp only [cond_true]
      rw [upd_ne _ _ (by omega)]
      exact ih
theorem run1_congr {rd : Nat → Bool} {dr dr' g : Nat → Int} {s : A1} (h : ∀ k, k < 4 → rd k = true → s.h k = true ∨ dr k % (win g k + 1) = dr' k % (win g k + 1)) : ∀ n, n ≤ 4 → run1 rd dr g s n = run1 rd dr' g s n
  | 0, _ => rfl
  | n + 1, hn => by
    have ih := run1_congr h n (by omega)
    show step1 rd dr g n (run1 rd dr g s n) = step1 rd dr' g n (run1 rd dr' g s n)
    rw [ih]
    have hh := run1_h (rd := rd) (dr := dr') (g := g) (s := s) (k := n) n (Nat.le_refl _)
    unfold step1
    cases hr : rd n
    · rfl
    · rcases h n (by omega) hr with e | e
      · rw [hh, e]; rfl
      · rw [e]
theorem mid_congr {rd : Nat → Bool} {dr dr' : Nat → Int} {s : St} (h : ∀ k, k < 4 → rd k = true → s.h k = true ∨ dr k % (win s.g k + 1) = dr' k % (win s.g k + 1)) : mid rd dr s = mid rd dr' s :=
  run1_congr (s := { h := s.h, l := s.l, w := -1, t := 0 }) h 4 (by omega)
theorem con_congr {rd : Nat → Bool} {dr dr' : Nat → Int} {s : St} (h : ∀ k, k < 4 → rd k = true → s.h k = true ∨ dr k % (win s.g k + 1) = dr' k % (win s.g k + 1)) :
    conS rd dr s = conS rd dr' s ∧ conW rd dr s = conW rd dr' s ∧ conT rd dr s = conT rd dr' s ∧ conB rd dr s = conB rd dr' s := by
  unfold conS conW conT conB
  rw [mid_congr h]
  exact ⟨rfl, rfl, rfl, rfl⟩

/-- four bools, four numbers -/
def b4 (a b c d : Bool) : Nat → Bool | 0 => a | 1 => b | 2 => c | _ => d
def i4 (a b c d : Int) : Nat → Int | 0 => a | 1 => b | 2 => c | _ => d

theorem first_law : conW (b4 false true false false) (i4 0 0 0 0) s0 = 1 ∧ conT (b4 false true false false) (i4 0 0 0 0) s0 = 3 ∧ conB (b4 false true false false) (i4 0 0 0 0) s0 = true := by decide +kernel

def r2 : Nat → Bool := b4 false false true true
theorem first_fin : ∀ x : Fin 4, ∀ y : Fin 8, (conB r2 (i4 0 0 ((y.val : Nat) : Int) ((x.val : Nat) : Int)) s0 = true) ∧
    (y.val < x.val → conW r2 (i4 0 0 ((y.val : Nat) : Int) ((x.val : Nat) : Int)) s0 = 2 ∧ conT r2 (i4 0 0 ((y.val : Nat) : Int) ((x.val : Nat) : Int)) s0 = 2 + ((y.val : Nat) : Int) ∧
      (conS r2 (i4 0 0 ((y.val : Nat) : Int) ((x.val : Nat) : Int)) s0).h 3 = true ∧ (conS r2 (i4 0 0 ((y.val : Nat) : Int) ((x.val : Nat) : Int)) s0).l 3 = ((x.val : Nat) : Int) - ((y.val : Nat) : Int)) ∧
    (x.val = y.val → conW r2 (i4 0 0 ((y.val : Nat) : Int) ((x.val : Nat) : Int)) s0 = 3 ∧ conT r2 (i4 0 0 ((y.val : Nat) : Int) ((x.val : Nat) : Int)) s0 = 2 + ((x.val : Nat) : Int) ∧
      (conS r2 (i4 0 0 ((y.val : Nat) : Int) ((x.val : Nat) : Int)) s0).h 2 = false ∧ win (conS r2 (i4 0 0 ((y.val : Nat) : Int) ((x.val : Nat) : Int)) s0).g 2 = 15 ∧ win (conS r2 (i4 0 0 ((y.val : Nat) : Int) ((x.val : Nat) : Int)) s0).g 3 = 3) ∧
    (x.val < y.val → conW r2 (i4 0 0 ((y.val : Nat) : Int) ((x.val : Nat) : Int)) s0 = 3 ∧ conT r2 (i4 0 0 ((y.val : Nat) : Int) ((x.val : Nat) : Int)) s0 = 2 + ((x.val : Nat) : Int) ∧
      (conS r2 (i4 0 0 ((y.val : Nat) : Int) ((x.val : Nat) : Int)) s0).h 2 = true ∧ (conS r2 (i4 0 0 ((y.val : Nat) : Int) ((x.val : Nat) : Int)) s0).l 2 = ((y.val : Nat) : Int) - ((x.val : Nat) : Int) ∧ win (conS r2 (i4 0 0 ((y.val : Nat) : Int) ((x.val : Nat) : Int)) s0).g 2 = 7) := by decide +kernel

/-- EdcaNone: the second contention; the third; the fourth -/
def s2 (x y : Int) : St := conS (b4 true true false false) (i4 x y 0 0) s0
def w2 (x y : Int) : Int := conW (b4 true true false false) (i4 x y 0 0) s0
def t2 (x y : Int) : Int := conT (b4 true true false false) (i4 x y 0 0) s0
def o2 (x y : Int) : Nat := if w2 x y = 0 then 1 else 0
def s3 (x y c : Int) : St := conS (b4 false false false true) (i4 0 0 0 c) (s2 x y)
def rd4 (x y : Int) : Nat → Bool := b4 (w2 x y != 0) (w2 x y != 1) false false
theorem none_fin1 : ∀ x y : Fin 16, conB (b4 true true false false) (i4 ((x.val : Nat) : Int) ((y.val : Nat) : Int) 0 0) s0 = true ∧
    (¬ (7 + ((x.val : Nat) : Int) = 3 + ((y.val : Nat) : Int)) →
      (w2 ((x.val : Nat) : Int) ((y.val : Nat) : Int) = 0 ∨ w2 ((x.val : Nat) : Int) ((y.val : Nat) : Int) = 1) ∧
      ((w2 ((x.val : Nat) : Int) ((y.val : Nat) : Int) == 1) = decide (3 + ((y.val : Nat) : Int) < 7 + ((x.val : Nat) : Int))) ∧
      (s2 ((x.val : Nat) : Int) ((y.val : Nat) : Int)).h (o2 ((x.val : Nat) : Int) ((y.val : Nat) : Int)) = true ∧
      (s2 ((x.val : Nat) : Int) ((y.val : Nat) : Int)).l (o2 ((x.val : Nat) : Int) ((y.val : Nat) : Int)) =
        max ((if w2 ((x.val : Nat) : Int) ((y.val : Nat) : Int) = 0 then ((y.val : Nat) : Int) else ((x.val : Nat) : Int)) - max (t2 ((x.val : Nat) : Int) ((y.val : Nat) : Int) - wt (o2 ((x.val : Nat) : Int) ((y.val : Nat) : Int))) 0) 0 ∧
      win (s2 ((x.val : Nat) : Int) ((y.val : Nat) : Int)).g 3 = 3 ∧ (s2 ((x.val : Nat) : Int) ((y.val : Nat) : Int)).h 3 = false) := by decide +kernel
theorem none_fin2 : ∀ x y : Fin 16, ∀ c : Fin 4, ¬ (7 + ((x.val : Nat) : Int) = 3 + ((y.val : Nat) : Int)) →
    conB (b4 false false false true) (i4 0 0 0 ((c.val : Nat) : Int)) (s2 ((x.val : Nat) : Int) ((y.val : Nat) : Int)) = true ∧ conW (b4 false false false true) (i4 0 0 0 ((c.val : Nat) : Int)) (s2 ((x.val : Nat) : Int) ((y.val : Nat) : Int)) = 3 ∧
    conT (b4 false false false true) (i4 0 0 0 ((c.val : Nat) : Int)) (s2 ((x.val : Nat) : Int) ((y.val : Nat) : Int)) = 2 + ((c.val : Nat) : Int) ∧
    (s3 ((x.val : Nat) : Int) ((y.val : Nat) : Int) ((c.val : Nat) : Int)).h (o2 ((x.val : Nat) : Int) ((y.val : Nat) : Int)) = true ∧
    (s3 ((x.val : Nat) : Int) ((y.val : Nat) : Int) ((c.val : Nat) : Int)).l (o2 ((x.val : Nat) : Int) ((y.val : Nat) : Int)) = (s2 ((x.val : Nat) : Int) ((y.val : Nat) : Int)).l (o2 ((x.val : Nat) : Int) ((y.val : Nat) : Int)) ∧
    conB (rd4 ((x.val : Nat) : Int) ((y.val : Nat) : Int)) (fun _ => 0) (s3 ((x.val : Nat) : Int) ((y.val : Nat) : Int) ((c.val : Nat) : Int)) = true ∧
    conW (rd4 ((x.val : Nat) : Int) ((y.val : Nat) : Int)) (fun _ => 0) (s3 ((x.val : Nat) : Int) ((y.val : Nat) : Int) ((c.val : Nat) : Int)) = ((o2 ((x.val : Nat) : Int) ((y.val : Nat) : Int) : Nat) : Int) ∧
    conT (rd4 ((x.val : Nat) : Int) ((y.val : Nat) : Int)) (fun _ => 0) (s3 ((x.val : Nat) : Int) ((y.val : Nat) : Int) ((c.val : Nat) : Int)) = wt (o2 ((x.val : Nat) : Int) ((y.val : Nat) : Int)) + (s2 ((x.val : Nat) : Int) ((y.val : Nat) : Int)).l (o2 ((x.val : Nat) : Int) ((y.val : Nat) : Int)) := by decide +kernel
end Go.Proofs.YtejlfifoehpljaaDoor.Edca
