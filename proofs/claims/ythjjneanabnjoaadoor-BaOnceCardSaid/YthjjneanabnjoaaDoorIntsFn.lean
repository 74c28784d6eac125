/-
  slices.Clone, slices.Delete at []int. (The walk of Delete follows the library's own at []int.)
-/
import Derived.Test.YthjjneanabnjoaaDoorIdx
import Derived.Lib.SlicesDelete
import Derived.Lib.SliceRun
import Derived.Lib.Walk
import Derived.Deep.LoopGhost
import Derived.Shelf.RegionOpenPlain
namespace Go.Proofs.YthjjneanabnjoaaDoor
open Go.ChangeShapes Go.WideShapes Go.ChangeAt Go.RowKit
set_option linter.unusedVariables false

/-- cells written over a list, from a place on -/
def overL : List Value → Nat → List Value → List Value
  | vs, _, [] => vs
  | vs, o, u :: us => overL (vs.set o u) (o + 1) us
theorem overL_get (us : List Value) : ∀ (vs : List Value) (o j : Nat), o + us.length ≤ vs.length → (overL vs o us)[j]? = if j < o then vs[j]? else if j < o + us.length then us[j - o]? else vs[j]? := by
  induction us with
  | nil => intro vs o j h; simp only [overL, List.length_nil, Nat.add_zero]; split <;> rfl
  | cons u us ih =>
    intro vs o j h
    simp only [List.length_cons] at h
    simp only [overL]
    rw [ih (vs.set o u) (o + 1) j (by simp; omega)]
    simp only [List.length_cons]
    by_cases h1 : j < o
    · rw [if_pos (by omega), if_pos h1, List.getElem?_set_ne (by omega)]
    · by_cases h2 : j = o
      · subst h2
        rw [if_pos (by omega), if_neg h1, if_pos (by omega), List.getElem?_set_self (by omega), Nat.sub_self]
        rfl
      · rw [if_neg (by omega), if_neg h1]
        by_cases h3 : j < o + (us.length + 1)
        · rw [if_pos (by omega), if_pos h3, show j - o = (j - (o + 1)) + 1 by omega]
          rfl
        · rw [if_neg (by omega), if_neg h3, List.getElem?_set_ne (by omega)]
theorem overL_len (us : List Value) : ∀ (vs : List Value) (o : Nat), (overL vs o us).length = vs.length := by
  induction us with
  | nil => intro vs o; rfl
  | cons u us ih => intro vs o; simp only [overL]; rw [ih]; simp
theorem own_setCells {base sz n C g : Nat} {e : TypeId} (us : List Value) : ∀ (w : World) (vs : List Value) (o : Nat), w.ownsRow base e sz (.slice (some ⟨g, 0, none⟩) n C) n vs →
    (w.setCells g o us).ownsRow base e sz (.slice (some ⟨g, 0, none⟩) n C) n (overL vs o us) := by
  induction us with
  | nil => intro w vs o h; exact h
  | cons u us ih => intro w vs o h; exact ih _ _ _ (World.ownsRow.stored h o u).1
theorem grown_setCells (g : Nat) (us : List Value) : ∀ (w : World) (o : Nat), w.grownBy (w.setCells g o us) (some g) := by
  induction us with
  | nil => intro w o; exact World.grownBy.refl w _
  | cons u us ih =>
    intro w o
    have h1 : w.grownBy (w.setCell ⟨g, o, none⟩ u) (some g) := ⟨rfl, rfl, rfl, by simp [World.setCell], fun k _ hk => Below.heap_setCell w ⟨g, o, none⟩ u k (by intro e; exact hk (by rw [e]))⟩
    exact h1.trans (ih _ _)
theorem own_take {w : World} {base sz n C g m : Nat} {e : TypeId} {vs : List Value} (h : w.ownsRow base e sz (.slice (some ⟨g, 0, none⟩) n C) n vs) (hm : m ≤ n) : w.ownsRow base e sz (.slice (some ⟨g, 0, none⟩) m C) m (vs.take (m * sz)) := by
  refine ⟨by rw [List.length_take, h.1]; exact Nat.min_eq_left (Nat.mul_le_mul_right _ hm), ?_⟩
  rcases h.2 with ⟨hv, _⟩ | ⟨g', cap, cur, hv, hb, hg, h1, h2, h3, h4⟩
  · cases hv
  · injection hv with e1 e2 e3
    injection e1 with e1; injection e1 with e1
    subst e1 e3
    refine .inr ⟨g, C, cur, rfl, hb, hg, by omega, h2, h3, ?_⟩
    rw [← h4, List.take_take, Nat.min_eq_left (Nat.mul_le_mul_right _ hm)]

set_option maxHeartbeats 400000 in
theorem cloneI_any (a : Option Addr) (len cap : Nat) (xs : List Int) (w : World) (h : Row w 1 a len cap (xs.map (Value.int .i64))) (hl : len ≤ 1000000) :
    Calls Tryd.prog 68 #[.slice a len cap] w fun e w' => ∃ A C, e = .returned (.slice A len C) ∧ OwnI w' w.heap.size A len C xs ∧ Below w.heap.size w w' := by
  have hm := h.len_le
  rcases a with _ | a
  · have h0 : cap = 0 := h.2.2.2.1 rfl
    have h1 : len = 0 := by have := h.2.1; omega
    have h2 : xs = [] := List.eq_nil_of_length_eq_zero (by simpa [h1] using h.1)
    subst h0 h1 h2
    have hn := fun (w : World) => Lib.run_eql_slice_nil (P := Tryd.prog) w 39 3 none 0 0 0 0 Tryd.underlying39
    go_enter Tryd.func68, Tryd.ntmps68
    go_wp2_with fail
    go_ret
    exact ⟨none, 0, rfl, ownI_nil _ _, Below.refl _ _⟩
  · have hn := fun (w : World) => Lib.run_eql_slice_nil (P := Tryd.prog) w 39 3 (some a) len cap 0 0 Tryd.underlying39
    go_enter Tryd.func68, Tryd.ntmps68
    go_wp2_with (at_builtin; refine append_int _ rfl (.tmp 5) (.tmp 6) rfl w.heap.size _ 0 0 [] rfl (ownI_made w) (some a) len cap xs rfl (h.alloc _) (by omega) (by simp) ?_; intro A2 C2 w2 hown2 hg2 hat2)
    go_ret
    exact ⟨A2, C2, rfl, by simpa using hown2, below_grown ((Below.refl _ _).alloc (Nat.le_refl _) _) (ownI_made w) (Nat.le_refl _) (by simp) hg2⟩

set_option maxRecDepth 100000 in
set_option maxHeartbeats 4000000 in
theorem delete_j {w : World} {base g n C i j : Nat} {xs : List Int} (h : OwnI w base (some ⟨g, 0, none⟩) n C xs) (hi : i < n) (hj : j = i + 1) (hjn : j ≤ n) (hC : n ≤ C) (hm : C ≤ 9223372036854775807) :
    Calls Tryd.prog 67 #[.slice (some ⟨g, 0, none⟩) n C, .int .i64 i, .int .i64 (j : Int)] w fun e w' => e = .returned (.slice (some ⟨g, 0, none⟩) (n - 1) C) ∧
      OwnI w' base (some ⟨g, 0, none⟩) (n - 1) C (xs.eraseIdx i) ∧ w.grownBy w' (some g) := by
  obtain ⟨i0, hi0, hz0, hz1, hz2⟩ := info_parts info_int
  have hxl := h.len
  obtain ⟨vs, hvs⟩ : ∃ vs, vs = xs.map (Value.int .i64) := ⟨_, rfl⟩
  have hown : w.ownsRow base 3 1 (.slice (some ⟨g, 0, none⟩) n C) n vs := by rw [hvs]; exact h
  have hvl : vs.length = n := by rw [hvs]; simpa using hxl
  have hv1 : ∀ u ∈ vs, u.oneCell' = true := by
    intro u hu
    rw [hvs] at hu
    obtain ⟨x, _, rfl⟩ := List.mem_map.1 hu
    rfl
  obtain ⟨news, hnews⟩ : ∃ news, news = vs.drop j := ⟨_, rfl⟩
  have hlen : news.length = n - j := by rw [hnews]; simp [hvl]
  have hown' : w.drew.ownsRow base 3 1 (.slice (some ⟨g, 0, none⟩) n C) n vs := hown
  obtain ⟨g', hA', _, _, _, hcell, hfr, _⟩ := own_open hown' (by omega)
  injection hA' with hA'; injection hA' with hA'; subst hA'
  obtain ⟨A, hA, hsrc⟩ : ∃ A : Addr, (if C = j then some (⟨g, 0, none⟩ : Addr) else some ⟨g, j, none⟩) = some A ∧ Hid (∀ t u, news[t]? = some u → w.drew.cell? (A.add t) = some u) := by
    by_cases hh : C = j
    · refine ⟨⟨g, 0, none⟩, by simp [hh], Lib.hid fun t u hu => ?_⟩
      have h0 : news.length = 0 := by rw [hlen]; omega
      rw [List.length_eq_zero_iff.1 h0] at hu
      simp at hu
    · refine ⟨⟨g, j, none⟩, by simp [hh], Lib.hid fun t u hu => ?_⟩
      rw [hnews, List.getElem?_drop] at hu
      rw [add_at]
      exact hcell _ _ hu
  have s1 := Lib.hid (show news.length = (n - j) * 1 by rw [Nat.mul_one]; exact hlen)
  have s2 := Lib.hid (show ∀ u ∈ news, u.oneCell' = true from fun u hu => hv1 u (List.mem_of_mem_drop (hnews ▸ hu)))
  have s3 := Lib.hid (show ∀ t, t < news.length → (w.drew.cell? ⟨g, 0 + i * 1 + t, none⟩).isSome = true ∧ w.drew.frozen? ⟨g, 0 + i * 1 + t, none⟩ = false by
    intro t ht
    rw [hlen] at ht
    refine ⟨?_, hfr _⟩
    rw [hcell (0 + i * 1 + t) vs[0 + i * 1 + t] (List.getElem?_eq_getElem (by omega))]
    rfl)
  obtain ⟨W1, hW1⟩ : ∃ W1, W1 = w.drew.setCells g (0 + i * 1) news := ⟨_, rfl⟩
  have hown1 : W1.ownsRow base 3 1 (.slice (some ⟨g, 0, none⟩) n C) n (overL vs i news) := by
    rw [hW1, Nat.zero_add, Nat.mul_one]
    exact own_setCells news _ _ _ hown'
  obtain ⟨g', hA', _, _, _, hcell1, hfr1, _⟩ := own_open hown1 (by omega)
  injection hA' with hA'; injection hA' with hA'; subst hA'
  have hcl : ∀ ty, (Builtin.clear_ #[39] ty #[.slice (some ⟨g, i + (n - j), none⟩) (n - (i + (n - j))) (C - (i + (n - j)))]).run Tryd.prog W1 = .ok (.tuple #[]) (W1.setCells g (i + (n - j)) (List.replicate (n - (i + (n - j))) (.int .i64 0))) :=
    fun ty => Lib.run_clear_slice W1 _ _ ty _ Tryd.underlying39 (fun w => by simp [zeroValue, typeInfo, hi0, hz0, go_sem]) rfl rfl g (i + (n - j)) _ _ (by omega)
      (fun t ht => by rw [hcell1 _ ((overL vs i news)[i + (n - j) + t]'(by rw [overL_len, hvl]; omega)) (List.getElem?_eq_getElem _)]; rfl) (fun t ht => hfr1 _)
  have hW := Lib.hid hW1
  have HO := Lib.hid hown1
  have hic : i ≤ C := by omega
  have hjc : j ≤ C := by omega
  have fin : OwnI (W1.setCells g (i + (n - j)) (List.replicate (n - (i + (n - j))) (.int .i64 0))) base (some ⟨g, 0, none⟩) (n - 1) C (xs.eraseIdx i) := by
    have h1 := own_take (own_setCells (List.replicate (n - (i + (n - j))) (.int .i64 0)) _ _ (i + (n - j)) hown1) (m := n - 1) (by omega)
    have key : (xs.eraseIdx i).map (Value.int .i64) = (overL (overL vs i news) (i + (n - j)) (List.replicate (n - (i + (n - j))) (.int .i64 0))).take ((n - 1) * 1) := by
     apply List.ext_getElem?
     intro q
     rw [List.getElem?_take, Nat.mul_one]
     have hel : (List.replicate (n - (i + (n - j))) (Value.int .i64 0)).length = 1 := by simp; omega
     by_cases hq : q < n - 1
     · rw [if_pos hq, overL_get _ _ _ _ (by rw [hel, overL_len, hvl]; omega), if_pos (by omega), overL_get _ _ _ _ (by omega), hlen, List.getElem?_map, List.getElem?_eraseIdx]
       by_cases hqi : q < i
       · rw [if_pos hqi, if_pos hqi, hvs, List.getElem?_map]
       · rw [if_neg hqi, if_neg hqi, if_pos (by omega), hnews, List.getElem?_drop, hvs, List.getElem?_map, show j + (q - i) = q + 1 by omega]
     · rw [if_neg hq, List.getElem?_eq_none (by simp [List.length_eraseIdx, hxl]; split <;> omega)]
    unfold OwnI
    rw [key]
    exact h1
  have fing : w.grownBy (W1.setCells g (i + (n - j)) (List.replicate (n - (i + (n - j))) (.int .i64 0))) (some g) := by
    have h0 : w.grownBy w.drew (some g) := ⟨rfl, rfl, rfl, Nat.le_refl _, fun _ _ _ => rfl⟩
    have h1 : w.drew.grownBy W1 (some g) := by rw [hW1]; exact grown_setCells _ _ _ _
    exact (h0.trans h1).trans (grown_setCells _ _ _ _)
  have HF := Lib.hid fin
  have HG := Lib.hid fing
  have hij : i < j := by omega
  have HJ := Lib.hid (show n - 1 = i + (n - j) by omega)
  clear hj
  clear fin fing hW1 hown1 hown' hown h hcell hcell1 hfr hfr1 hnews hlen hvs hvl hv1
  go_enter Tryd.func67, Tryd.ntmps67
  go_wp2_with fail
  go_region_law (refine step_append_room rfl (.tmp 22) (.tmp 25) 39 rfl 3 i0 1 Tryd.underlying39 hi0 hz1 g 0 i C (by simp [Act.eval, Act.put]) A (n - j) (C - j) news (by simp [Act.eval, Act.put]) s1.out hsrc.out s2.out (by omega) s3.out ?_; rw [← hW.out])
  go_wp2
  go_ret
  refine ⟨by rw [HJ.out]; rfl, HF.out, HG.out⟩
theorem delete_any {w : World} {base g n C i : Nat} {xs : List Int} (h : OwnI w base (some ⟨g, 0, none⟩) n C xs) (hi : i < n) (hC : n ≤ C) (hm : C ≤ 9223372036854775807) :
    Calls Tryd.prog 67 #[.slice (some ⟨g, 0, none⟩) n C, .int .i64 i, .int .i64 ((i : Int) + 1)] w fun e w' => e = .returned (.slice (some ⟨g, 0, none⟩) (n - 1) C) ∧
      OwnI w' base (some ⟨g, 0, none⟩) (n - 1) C (xs.eraseIdx i) ∧ w.grownBy w' (some g) := by
  have := delete_j (j := i + 1) h hi rfl (by omega) hC hm
  rwa [show ((i + 1 : Nat) : Int) = (i : Int) + 1 by omega] at this
end Go.Proofs.YthjjneanabnjoaaDoor
