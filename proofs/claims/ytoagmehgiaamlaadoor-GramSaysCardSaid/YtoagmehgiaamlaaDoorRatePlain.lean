/-
  Rates: bits, all rates of a mode; the plain laws.
-/
import Derived.Test.YtoagmehgiaamlaaDoorRateMore
namespace Go.Proofs.YtoagmehgiaamlaaDoor
open Go.ChangeShapes Go.WideShapes Go.ChangeAt Go.RowKit
set_option linter.unusedVariables false

def ratePartP (c : Int) : Int × Int × Int := [((1 : Int), (1 : Int), (2 : Int)), (2, 1, 2), (2, 3, 4), (4, 1, 2), (4, 3, 4), (6, 2, 3), (6, 3, 4), (6, 5, 6), (8, 3, 4), (8, 5, 6), (10, 3, 4), (10, 5, 6)].getD c.toNat (0, 0, 1)
def carP (m w : Int) : Int := if m = 4 then (if w = 20 then 234 else if w = 40 then 468 else if w = 80 then 980 else 1960) else (if w = 20 then 52 else if w = 40 then 108 else if w = 80 then 234 else 468)
def legP (c : Int) : Int := [(24 : Int), 36, 48, 72, 96, 144, 192, 216].getD c.toNat 0
def bitsP (r : RT) : Int := if validP r = true then (if r.m = 1 then legP r.c else carP r.m r.w * (ratePartP r.c).1 * r.s * (ratePartP r.c).2.1 / (ratePartP r.c).2.2) else 0

theorem n12 {c : Int} (h0 : 0 ≤ c) (h1 : c ≤ 11) : ∃ k : Fin 12, c = (k.val : Int) := ⟨⟨c.toNat, by omega⟩, by simp; omega⟩
theorem part_bounds {c : Int} (h0 : 0 ≤ c) (h1 : c ≤ 11) : 1 ≤ (ratePartP c).1 ∧ (ratePartP c).1 ≤ 10 ∧ 1 ≤ (ratePartP c).2.1 ∧ (ratePartP c).2.1 ≤ 5 ∧ 2 ≤ (ratePartP c).2.2 ∧ (ratePartP c).2.2 ≤ 6 ∧ (ratePartP c).2.2 ≤ 2 * ((ratePartP c).1 * (ratePartP c).2.1) := by
  obtain ⟨k, rfl⟩ := n12 h0 h1
  revert k; decide +kernel
theorem part_mono {c d : Int} (h0 : 0 ≤ c) (hcd : c ≤ d) (h1 : d ≤ 11) : (ratePartP c).1 * (ratePartP c).2.1 * (ratePartP d).2.2 ≤ (ratePartP d).1 * (ratePartP d).2.1 * (ratePartP c).2.2 := by
  obtain ⟨k, rfl⟩ := n12 h0 (by omega : c ≤ 11)
  obtain ⟨l, rfl⟩ := n12 (by omega : 0 ≤ d) h1
  have hkl : k.val ≤ l.val := by omega
  clear h0 hcd h1
  revert hkl; revert k l; decide +kernel
theorem car_bounds (m w : Int) : 52 ≤ carP m w ∧ carP m w ≤ 1960 := by
  unfold carP
  constructor <;> (repeat' split) <;> omega
theorem car_mono (m : Int) {v w : Int} (h : v ≤ w) (hv : v = 20 ∨ v = 40 ∨ v = 80 ∨ v = 160) (hw : w = 20 ∨ w = 40 ∨ w = 80 ∨ w = 160) : carP m v ≤ carP m w := by
  unfold carP
  rcases hv with rfl | rfl | rfl | rfl <;> rcases hw with rfl | rfl | rfl | rfl <;> first | omega | (split <;> simp)
theorem div_mono {x y u v : Int} (hu : 0 < u) (hv : 0 < v) (h : x * v ≤ y * u) : x / u ≤ y / v := by
  rw [Int.le_ediv_iff_mul_le hv]
  have h1 : x / u * u ≤ x := Int.ediv_mul_le x (by omega)
  have h2 : x / u * u * v ≤ x * v := Int.mul_le_mul_of_nonneg_right h1 (by omega)
  have h3 : x / u * v * u ≤ y * u := by rw [Int.mul_right_comm]; omega
  exact Int.le_of_mul_le_mul_right h3 hu

theorem valid_parts {r : RT} (h : validP r = true) : 0 ≤ r.c ∧ r.c ≤ (topsP r.m).1 ∧ 1 ≤ r.s ∧ r.s ≤ (topsP r.m).2.1 ∧ 0 ≤ r.g ∧ r.g ≤ (topsP r.m).2.2 ∧ r.w ∈ widthsP r.m := by
  simp only [validP, Bool.and_eq_true, decide_eq_true_eq] at h
  obtain ⟨⟨⟨⟨⟨⟨h1, h2⟩, h3⟩, h4⟩, h5⟩, h6⟩, h7⟩ := h
  exact ⟨h1, h2, h3, h4, h5, h6, h7⟩
theorem valid_of {r : RT} (h1 : 0 ≤ r.c) (h2 : r.c ≤ (topsP r.m).1) (h3 : 1 ≤ r.s) (h4 : r.s ≤ (topsP r.m).2.1) (h5 : 0 ≤ r.g) (h6 : r.g ≤ (topsP r.m).2.2) (h7 : r.w ∈ widthsP r.m) : validP r = true := by
  simp only [validP, Bool.and_eq_true, decide_eq_true_eq]
  exact ⟨⟨⟨⟨⟨⟨h1, h2⟩, h3⟩, h4⟩, h5⟩, h6⟩, h7⟩
theorem valid_w {r : RT} (h : validP r = true) : r.w = 20 ∨ r.w = 40 ∨ r.w = 80 ∨ r.w = 160 := by
  have h7 := (valid_parts h).2.2.2.2.2.2
  rcases (valid_gi h).2.2.2.2.2.2 with m | m | m | m <;> (rw [m] at h7; simp [widthsP] at h7; omega)
theorem valid_leg {r : RT} (h : validP r = true) (hm : r.m = 1) : r.c ≤ 7 ∧ r.s = 1 ∧ r.w = 20 ∧ r.g = 0 := by
  obtain ⟨h1, h2, h3, h4, h5, h6, h7⟩ := valid_parts h
  rw [hm] at h2 h4 h6 h7
  simp [topsP, widthsP] at h2 h4 h6 h7
  omega
theorem mul4 (K b s o : Int) : K * b * s * o = (K * s) * (b * o) := by ac_rfl
/-- the bits of a rate that is not of the eldest -/
theorem bits_new {r : RT} (h : validP r = true) (hm : r.m ≠ 1) : bitsP r = (carP r.m r.w * r.s) * ((ratePartP r.c).1 * (ratePartP r.c).2.1) / (ratePartP r.c).2.2 := by
  rw [bitsP, if_pos h, if_neg hm, mul4]
theorem car_s (m w s : Int) (h1 : 1 ≤ s) (h8 : s ≤ 8) : 52 ≤ carP m w * s ∧ carP m w * s ≤ 15680 := by
  have hb := car_bounds m w
  rcases (show s = 1 ∨ s = 2 ∨ s = 3 ∨ s = 4 ∨ s = 5 ∨ s = 6 ∨ s = 7 ∨ s = 8 by omega) with rfl | rfl | rfl | rfl | rfl | rfl | rfl | rfl <;> omega
theorem leg_bounds {c : Int} (h0 : 0 ≤ c) (h1 : c ≤ 7) : 24 ≤ legP c ∧ legP c ≤ 216 := by
  obtain ⟨k, hk, rfl⟩ : ∃ k : Nat, k < 8 ∧ c = (k : Int) := ⟨c.toNat, by omega, by omega⟩
  clear h0 h1
  revert hk; revert k; decide +kernel
theorem leg_mono {c d : Int} (h0 : 0 ≤ c) (h : c ≤ d) (h1 : d ≤ 7) : legP c ≤ legP d := by
  obtain ⟨k, hk, rfl⟩ : ∃ k : Fin 8, k.val < 8 ∧ c = (k.val : Int) := ⟨⟨c.toNat, by omega⟩, by simp; omega, by simp; omega⟩
  obtain ⟨l, hl, rfl⟩ : ∃ k : Fin 8, k.val < 8 ∧ d = (k.val : Int) := ⟨⟨d.toNat, by omega⟩, by simp; omega, by simp; omega⟩
  have hkl : k.val ≤ l.val := by omega
  clear h0 h h1 hk hl
  revert hkl; revert k l; decide +kernel
theorem bits_bounds {r : RT} (h : validP r = true) : 24 ≤ bitsP r ∧ bitsP r ≤ 1000000 := by
  by_cases hm : r.m = 1
  · have := valid_leg h hm
    rw [bitsP, if_pos h, if_pos hm]
    have := leg_bounds (valid_gi h).2.2.2.2.1 this.1
    omega
  · rw [bits_new h hm]
    obtain ⟨_, _, s0, s1, c0, c1, _⟩ := valid_gi h
    obtain ⟨p1, p2, p3, p4, p5, p6, p7⟩ := part_bounds c0 c1
    obtain ⟨k1, k2⟩ := car_s r.m r.w r.s s0 s1
    generalize carP r.m r.w * r.s = K at *
    have hbo : 1 ≤ (ratePartP r.c).1 * (ratePartP r.c).2.1 ∧ (ratePartP r.c).1 * (ratePartP r.c).2.1 ≤ 50 := by
      clear p7
      generalize (ratePartP r.c).1 = b at *
      generalize (ratePartP r.c).2.1 = o at *
      rcases (show o = 1 ∨ o = 2 ∨ o = 3 ∨ o = 4 ∨ o = 5 by omega) with rfl | rfl | rfl | rfl | rfl <;> omega
    generalize (ratePartP r.c).1 * (ratePartP r.c).2.1 = B at *
    generalize (ratePartP r.c).2.2 = u at *
    have e1 : 52 * B ≤ K * B := Int.mul_le_mul_of_nonneg_right k1 (by omega)
    have e2 : K * B ≤ 15680 * B := Int.mul_le_mul_of_nonneg_right k2 (by omega)
    constructor
    · rw [Int.le_ediv_iff_mul_le (by omega)]; omega
    · have : K * B / u ≤ K * B := Int.ediv_le_self _ (by omega)
      omega
theorem bits_mono {a b : RT} (ha : validP a = true) (hb : validP b = true) (hm : a.m = b.m) (hc : a.c ≤ b.c) (hs : a.s ≤ b.s) (hw : a.w ≤ b.w) : bitsP a ≤ bitsP b := by
  by_cases h1 : a.m = 1
  · rw [bitsP, if_pos ha, if_pos h1, bitsP, if_pos hb, if_pos (hm ▸ h1)]
    exact leg_mono (valid_gi ha).2.2.2.2.1 hc (valid_leg hb (hm ▸ h1)).1
  · rw [bits_new ha h1, bits_new hb (hm ▸ h1)]
    obtain ⟨_, _, s0, s1, c0, c1, _⟩ := valid_gi ha
    obtain ⟨_, _, t0, t1, d0, d1, _⟩ := valid_gi hb
    obtain ⟨p1, p2, p3, p4, p5, p6, p7⟩ := part_bounds c0 c1
    obtain ⟨q1, q2, q3, q4, q5, q6, q7⟩ := part_bounds d0 d1
    have hpm := part_mono c0 hc d1
    have hcm := car_mono a.m hw (valid_w ha) (valid_w hb)
    rw [← hm]
    have hb1 := car_bounds a.m a.w
    have e1 : carP a.m a.w * a.s ≤ carP a.m b.w * b.s := Int.mul_le_mul hcm hs (by omega) (by omega)
    have k1 := (car_s a.m a.w a.s s0 s1).1
    refine div_mono (by omega) (by omega) ?_
    rw [Int.mul_assoc (carP a.m a.w * a.s), Int.mul_assoc (carP a.m b.w * b.s)]
    have hx : 0 ≤ (ratePartP a.c).1 * (ratePartP a.c).2.1 * (ratePartP b.c).2.2 := by
      refine Int.mul_nonneg (by omega) (by omega)
    exact Int.mul_le_mul e1 hpm hx (by omega)
theorem bits_gi {r : RT} (g : Int) (h : validP r = true) (h' : validP { r with g := g } = true) : bitsP { r with g := g } = bitsP r := by
  rw [bitsP, if_pos h', bitsP, if_pos h]
theorem pre_gi {r : RT} (g : Int) (h : validP r = true) (h' : validP { r with g := g } = true) : preP { r with g := g } = preP r := by
  rw [preP, if_pos h', preP, if_pos h]
theorem sym_gi {r : RT} (h : validP r = true) (h' : validP { r with g := r.g + 1 } = true) : symP { r with g := r.g + 1 } < symP r := by
  rw [symP, if_pos h', symP, if_pos h]
  obtain ⟨h1, h2, h3, h4, h5, h6, h7⟩ := valid_parts h
  obtain ⟨k1, k2, k3, k4, k5, k6, k7⟩ := valid_parts h'
  simp only at k5 k6 ⊢
  rcases (valid_gi h).2.2.2.2.2.2 with m | m | m | m <;> rw [m] at k6 h6 ⊢ <;> simp [topsP] at k6 h6 <;> (repeat' split) <;> omega
theorem sym_bounds {r : RT} (h : validP r = true) : 36 ≤ symP r ∧ symP r ≤ 160 := by
  rw [symP, if_pos h]; constructor <;> (repeat' split) <;> omega
theorem train (s : Int) (h1 : 1 ≤ s) (h8 : s ≤ 8) : 1 ≤ s + s % 2 * min (s - 1) 1 ∧ s + s % 2 * min (s - 1) 1 ≤ 8 := by
  rcases (show s = 1 ∨ s = 2 ∨ s = 3 ∨ s = 4 ∨ s = 5 ∨ s = 6 ∨ s = 7 ∨ s = 8 by omega) with rfl | rfl | rfl | rfl | rfl | rfl | rfl | rfl <;> decide
theorem train_mono {s t : Int} (h1 : 1 ≤ s) (hst : s ≤ t) (h8 : t ≤ 8) : s + s % 2 * min (s - 1) 1 ≤ t + t % 2 * min (t - 1) 1 := by
  rcases (show s = 1 ∨ s = 2 ∨ s = 3 ∨ s = 4 ∨ s = 5 ∨ s = 6 ∨ s = 7 ∨ s = 8 by omega) with rfl | rfl | rfl | rfl | rfl | rfl | rfl | rfl <;>
  rcases (show t = 1 ∨ t = 2 ∨ t = 3 ∨ t = 4 ∨ t = 5 ∨ t = 6 ∨ t = 7 ∨ t = 8 by omega) with rfl | rfl | rfl | rfl | rfl | rfl | rfl | rfl <;> first | decide | omega
theorem pre_bounds {r : RT} (h : validP r = true) : 200 ≤ preP r ∧ preP r ≤ 1000 := by
  obtain ⟨_, _, s0, s1, _⟩ := valid_gi h
  obtain ⟨t1, t2⟩ := train r.s s0 s1
  rw [preP, if_pos h]
  generalize r.s + r.s % 2 * min (r.s - 1) 1 = T at *
  constructor <;> (repeat' split) <;> omega
theorem pre_mono {a b : RT} (ha : validP a = true) (hb : validP b = true) (hm : a.m = b.m) (hs : a.s ≤ b.s) : preP a ≤ preP b := by
  obtain ⟨_, _, s0, s1, _⟩ := valid_gi ha
  obtain ⟨_, _, t0, t1, _⟩ := valid_gi hb
  have ht := train_mono s0 hs t1
  rw [preP, if_pos ha, preP, if_pos hb, ← hm]
  generalize a.s + a.s % 2 * min (a.s - 1) 1 = T at *
  generalize b.s + b.s % 2 * min (b.s - 1) 1 = U at *
  (repeat' split) <;> omega

/-- all rates of a mode: the loops, from the inmost on -/
def rowG (m c s w : Int) (n : Nat) : List RT := (List.range n).map fun (g : Nat) => ⟨m, c, s, w, (g : Int)⟩
def rowW (m c s : Int) (ws : List Int) (n : Nat) : List RT := ws.flatMap fun w => rowG m c s w n
def rowS (m c : Int) (ws : List Int) (n k : Nat) : List RT := (List.range k).flatMap fun (s : Nat) => rowW m c ((s : Int) + 1) ws n
def rowM (m : Int) (ws : List Int) (n k l : Nat) : List RT := (List.range l).flatMap fun (c : Nat) => rowS m (c : Int) ws n k
def allP (m : Int) : List RT := rowM m (widthsP m) ((topsP m).2.2 + 1).toNat (topsP m).2.1.toNat ((topsP m).1 + 1).toNat
theorem rowG_snoc (m c s w : Int) (n : Nat) : rowG m c s w (n + 1) = rowG m c s w n ++ [⟨m, c, s, w, (n : Int)⟩] := by simp [rowG, List.range_succ]
theorem rowS_snoc (m c : Int) (ws : List Int) (n k : Nat) : rowS m c ws n (k + 1) = rowS m c ws n k ++ rowW m c ((k : Int) + 1) ws n := by simp [rowS, List.range_succ]
theorem rowM_snoc (m : Int) (ws : List Int) (n k l : Nat) : rowM m ws n k (l + 1) = rowM m ws n k l ++ rowS m (l : Int) ws n k := by simp [rowM, List.range_succ]
theorem rowW_snoc (m c s : Int) (ws : List Int) (n j : Nat) (w : Int) (h : ws[j]? = some w) : rowW m c s (ws.take (j + 1)) n = rowW m c s (ws.take j) n ++ rowG m c s w n := by
  obtain ⟨hj, rfl⟩ := List.getElem?_eq_some_iff.1 h
  unfold rowW
  rw [List.take_succ_eq_append_getElem hj, List.flatMap_append, List.flatMap_cons, List.flatMap_nil, List.append_nil]
theorem all_mem {m : Int} {r : RT} (h : r ∈ allP m) : r.m = m ∧ validP r = true := by
  simp only [allP, rowM, rowS, rowW, rowG, List.mem_flatMap, List.mem_map, List.mem_range] at h
  obtain ⟨c, hc, s, hs, w, hw, g, hg, rfl⟩ := h
  refine ⟨rfl, valid_of ?_ ?_ ?_ ?_ ?_ ?_ hw⟩ <;> simp only <;> omega
theorem mem_all {r : RT} (h : validP r = true) : r ∈ allP r.m := by
  obtain ⟨h1, h2, h3, h4, h5, h6, h7⟩ := valid_parts h
  simp only [allP, rowM, rowS, rowW, rowG, List.mem_flatMap, List.mem_map, List.mem_range]
  refine ⟨r.c.toNat, by omega, (r.s - 1).toNat, by omega, r.w, h7, r.g.toNat, by omega, ?_⟩
  obtain ⟨m, c, s, w, g⟩ := r
  simp only [RT.mk.injEq] at *
  refine ⟨trivial, by omega, by omega, trivial, by omega⟩
def manyP (m : Int) : Nat := if m = 1 then 8 else if m = 2 then 128 else if m = 3 then 640 else if m = 4 then 1152 else 0
theorem all_other {m : Int} (h1 : m ≠ 1) (h2 : m ≠ 2) (h3 : m ≠ 3) (h4 : m ≠ 4) : allP m = [] := by
  simp [allP, topsP, widthsP, h1, h2, h3, h4, rowM]
theorem rowG_len (m c s w : Int) (n : Nat) : (rowG m c s w n).length = n := by simp [rowG]
theorem rowW_len (m c s : Int) (ws : List Int) (n : Nat) : (rowW m c s ws n).length = ws.length * n := by
  induction ws with
  | nil => simp [rowW]
  | cons w ws ih =>
    have : rowW m c s (w :: ws) n = rowG m c s w n ++ rowW m c s ws n := by simp [rowW]
    rw [this, List.length_append, ih, rowG_len, List.length_cons, Nat.succ_mul]; omega
theorem rowS_len (m c : Int) (ws : List Int) (n k : Nat) : (rowS m c ws n k).length = k * (ws.length * n) := by
  induction k with
  | zero => simp [rowS]
  | succ k ih => rw [rowS_snoc, List.length_append, ih, rowW_len, Nat.succ_mul]
theorem rowM_len (m : Int) (ws : List Int) (n k l : Nat) : (rowM m ws n k l).length = l * (k * (ws.length * n)) := by
  induction l with
  | zero => simp [rowM]
  | succ l ih => rw [rowM_snoc, List.length_append, ih, rowS_len, Nat.succ_mul]
theorem all_len (m : Int) : (allP m).length = manyP m := by
  rw [allP, rowM_len]
  unfold manyP topsP widthsP
  (repeat' split) <;> first | rfl | simp_all
theorem all_pos {m : Int} (h1 : 1 ≤ m) (h4 : m ≤ 4) : 8 ≤ (allP m).length ∧ (allP m).length ≤ 1152 := by
  rw [all_len]; unfold manyP; constructor <;> (repeat' split) <;> omega
theorem many_le (m : Int) : manyP m ≤ 1152 := by unfold manyP; (repeat' split) <;> omega
/-- the same rate? -/
def sameP (a b : RT) : Bool := decide (a.m = b.m) && decide (a.c = b.c) && decide (a.s = b.s) && decide (a.w = b.w) && decide (a.g = b.g)
theorem sameP_self (a : RT) : sameP a a = true := by simp [sameP]
/-- no two that follow each other are the same -/
def adj : List RT → Bool
  | a :: b :: l => !(sameP a b) && adj (b :: l)
  | _ => true
theorem adj_at {l : List RT} (h : adj l = true) {k : Nat} {a b : RT} (ha : l[k]? = some a) (hb : l[k + 1]? = some b) : sameP a b = false := by
  induction l generalizing k with
  | nil => simp at ha
  | cons x l ih =>
    cases l with
    | nil => simp at hb
    | cons y l =>
      simp only [adj, Bool.and_eq_true, Bool.not_eq_true'] at h
      rcases k with _ | k
      · simp at ha hb; subst ha hb; exact h.1
      · exact ih h.2 (by simpa using ha) (by simpa using hb)
theorem all_adj (m : Int) : adj (allP m) = true := by
  by_cases h1 : m = 1
  · subst h1; decide +kernel
  by_cases h2 : m = 2
  · subst h2; decide +kernel
  by_cases h3 : m = 3
  · subst h3; decide +kernel
  by_cases h4 : m = 4
  · subst h4; decide +kernel
  · rw [all_other h1 h2 h3 h4]; rfl
end Go.Proofs.YtoagmehgiaamlaaDoor
