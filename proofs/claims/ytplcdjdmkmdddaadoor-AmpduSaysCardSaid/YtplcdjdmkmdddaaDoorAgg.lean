/-
  How long parts are together: plain; ampdu.Len; the document's AggLen.
-/
import Derived.Test.YtplcdjdmkmdddaaDoorPartsWalk
import Derived.Test.YtplcdjdmkmdddaaDoorInts
import Derived.Test.YtplcdjdmkmdddaaDoorZeros
import Derived.Test.YtplcdjdmkmdddaaDoorSeal
namespace Go.Proofs.YtplcdjdmkmdddaaDoor
open Go.ChangeShapes Go.WideShapes Go.ChangeAt Go.RowKit
set_option linter.unusedVariables false

def upP (n : Int) : Int := (n + 3) / 4 * 4
def aggS (a n : Int) : Int := upP a + 4 + max n 0
def aggP (L : List Int) : Int := L.foldl aggS 0
theorem agg_snoc (L : List Int) (n : Int) : aggP (L ++ [n]) = aggS (aggP L) n := by simp [aggP]
theorem aggS_le (a n : Int) : a + 4 ≤ aggS a n := by unfold aggS upP; omega
theorem aggS_top {a n : Int} (h : n ≤ 4095) : aggS a n ≤ a + 4102 := by unfold aggS upP; omega
theorem agg_nonneg (L : List Int) : 0 ≤ aggP L := by
  have key : ∀ (L : List Int) (a : Int), 0 ≤ a → 0 ≤ L.foldl aggS a := by
    intro L
    induction L with
    | nil => intro a h; exact h
    | cons n L ih => intro a h; exact ih _ (by have := aggS_le a n; omega)
  exact key L 0 (Int.le_refl _)
theorem agg_top (L : List Int) (h : ∀ n ∈ L, n ≤ 4095) : aggP L ≤ 4102 * L.length := by
  have key : ∀ (L : List Int) (a : Int), (∀ n ∈ L, n ≤ 4095) → L.foldl aggS a ≤ a + 4102 * L.length := by
    intro L
    induction L with
    | nil => intro a _; simp
    | cons n L ih =>
      intro a h
      have h1 := ih (aggS a n) fun m hm => h m (List.mem_cons_of_mem _ hm)
      have h2 := aggS_top (a := a) (h n (List.mem_cons_self ..))
      simp only [List.foldl_cons, List.length_cons]
      omega
  have h1 := key L 0 h
  show L.foldl aggS 0 ≤ _
  omega
theorem agg_append (L M : List Int) : aggP L ≤ aggP (L ++ M) := by
  have key : ∀ (M : List Int) (a : Int), a ≤ M.foldl aggS a := by
    intro M
    induction M with
    | nil => intro a; exact Int.le_refl _
    | cons n M ih => intro a; have := ih (aggS a n); have := aggS_le a n; simp only [List.foldl_cons]; omega
  have := key M (aggP L)
  simpa [aggP] using this

set_option maxHeartbeats 400000 in
theorem up_any (n : Int) (w : World) (h0 : 0 ≤ n) (h1 : n ≤ 1000000000000) : Calls Tryd.prog 23 #[.int .i64 n] w fun e w' => e = .returned (.int .i64 (upP n)) ∧ w = w' := by
  have HU := Lib.hid (show upP n = (n + 3) / 4 * 4 from rfl)
  go_enter Tryd.func23, Tryd.ntmps23
  go_wp2_with fail
  go_ret
  exact ⟨ret_i64 (by rw [HU.out]; omega), rfl⟩

/-- lengths that are read -/
def RowN (w : World) (A : Option Addr) (n C : Nat) (L : List Int) : Prop := n = L.length ∧ Row w 1 A n C (L.map (Value.int .i64))
section
variable {w w' : World} {A : Option Addr} {n C : Nat} {L : List Int}
theorem RowN.below (h : RowN w A n C L) {B : Nat} (hb : Below B w w') (hB : w.heap.size ≤ B) : RowN w' A n C L := ⟨h.1, h.2.below hb hB⟩
theorem RowN.take (h : RowN w A n C L) {k : Nat} (hk : k ≤ n) : RowN w A k C (L.take k) := by
  refine ⟨by rw [List.length_take]; have := h.1; omega, ?_⟩
  have := Row.take h.2 hk
  rwa [Nat.mul_one, ← List.map_take] at this
theorem RowN.at_ (h : RowN w A n C L) {k : Nat} (hk : k < n) : ∃ b off z, A = some ⟨b, off, none⟩ ∧ b < w.heap.size ∧ L[k]? = some z ∧ w.cell? ⟨b, off + k, none⟩ = some (.int .i64 z) := by
  obtain ⟨b, off, hA, hlt, hc⟩ := h.2.at_ (by omega)
  have hL := h.1
  refine ⟨b, off, L[k]'(by omega), hA, hlt, List.getElem?_eq_getElem (by omega), hc k _ ?_⟩
  rw [List.getElem?_map, List.getElem?_eq_getElem (by omega)]; rfl
end
theorem take_at {L : List Int} {k : Nat} {z : Int} (h : L[k]? = some z) : L.take (k + 1) = L.take k ++ [z] := by
  obtain ⟨hk, rfl⟩ := List.getElem?_eq_some_iff.1 h
  exact List.take_succ_eq_append_getElem hk

set_option maxHeartbeats 1600000 in
theorem len_any (A : Option Addr) (n C : Nat) (L : List Int) (w : World) (h : RowN w A n C L) (hn : n ≤ 1000) (hL : ∀ z ∈ L, -1000000 ≤ z ∧ z ≤ 4095) :
    Calls Tryd.prog 20 #[.slice A n C] w fun e w' => e = .returned (.int .i64 (aggP L)) ∧ w = w' := by
  have H := Lib.hid h
  have HL := Lib.hid hL
  have HN := Lib.hid h.1
  clear h hL
  go_enter Tryd.func20, Tryd.ntmps20
  go_wp2_with fail
  go_loopw [3, 8] (fun t i wr => ∃ k : Nat, k ≤ n ∧ i = .int .i64 k ∧ t = .int .i64 (aggP (L.take k)) ∧ wr = w) (fun _ i _ => n - (intOf i).toNat)
  case atStart => exact ⟨0, Nat.zero_le _, rfl, rfl, rfl⟩
  case round =>
    obtain ⟨k, hk, rfl, rfl, rfl⟩ := hrel
    by_cases hlt : k < n
    · obtain ⟨b, off, z, rfl, hb, hz, hc⟩ := H.out.at_ hlt
      obtain ⟨z0, z1⟩ := HL.out z (List.mem_of_getElem? hz)
      have a0 := agg_nonneg (L.take k)
      have a1 := agg_top (L.take k) (fun m hm => (HL.out m (List.mem_of_mem_take hm)).2)
      have a2 : (L.take k).length ≤ k := List.length_take_le _ _
      have HS := Lib.hid (show aggP (L.take (k + 1)) = upP (aggP (L.take k)) + 4 + max z 0 by rw [take_at hz, agg_snoc]; rfl)
      clear hz
      generalize aggP (L.take k) = a at *
      have a3 : a ≤ 4102 * 1000 := by omega
      clear a1 a2
      have u0 : 0 ≤ upP a ∧ upP a ≤ a + 3 := by unfold upP; omega
      go_wp2_with fail
      refine (up_any a _ a0 (by omega)).mono ?_
      rintro e w1 ⟨rfl, rfl⟩
      generalize upP a = u at *
      by_cases hz0 : z < 0
      · go_wp2_with fail
        go_roundw
        case rel => exact ⟨k + 1, by omega, by go_num, by rw [HS.out]; go_num, by trivial⟩
        case measure => simp [intOf]; omega
      · go_wp2_with fail
        go_roundw
        case rel => exact ⟨k + 1, by omega, by go_num, by rw [HS.out]; go_num, by trivial⟩
        case measure => simp [intOf]; omega
    · obtain rfl : k = n := by omega
      go_wp2_with fail
      go_ret
      exact ⟨ret_i64 (by rw [List.take_of_length_le (by rw [HN.out]; exact Nat.le_refl _)]), by trivial⟩

set_option maxHeartbeats 1600000 in
theorem aggLen_any (A : Option Addr) (n C : Nat) (L : List Int) (w : World) (h : RowN w A n C L) (hn : n ≤ 1000) (hL : ∀ z ∈ L, -1000000 ≤ z ∧ z ≤ 4095) :
    Calls Tryd.prog 22 #[.slice A n C] w fun e w' => e = .returned (.int .i64 (aggP L)) ∧ w = w' := by
  have H := Lib.hid h
  have HL := Lib.hid hL
  have HN := Lib.hid h.1
  clear h hL
  go_enter Tryd.func22, Tryd.ntmps22
  go_wp2_with fail
  go_loopw [3, 4] (fun t i wr => ∃ k : Nat, k ≤ n ∧ i = .int .i64 k ∧ t = .int .i64 (aggP (L.take k)) ∧ wr = w) (fun _ i _ => n - (intOf i).toNat)
  case atStart => exact ⟨0, Nat.zero_le _, rfl, rfl, rfl⟩
  case round =>
    obtain ⟨k, hk, rfl, rfl, rfl⟩ := hrel
    by_cases hlt : k < n
    · obtain ⟨b, off, z, rfl, hb, hz, hc⟩ := H.out.at_ hlt
      obtain ⟨z0, z1⟩ := HL.out z (List.mem_of_getElem? hz)
      have a0 := agg_nonneg (L.take k)
      have a1 := agg_top (L.take k) (fun m hm => (HL.out m (List.mem_of_mem_take hm)).2)
      have a2 : (L.take k).length ≤ k := List.length_take_le _ _
      have HS := Lib.hid (show aggP (L.take (k + 1)) = (aggP (L.take k) + 3) / 4 * 4 + 4 + max z 0 by rw [take_at hz, agg_snoc]; rfl)
      clear hz
      generalize aggP (L.take k) = a at *
      have a3 : a ≤ 4102 * 1000 := by omega
      clear a1 a2
      by_cases hz0 : z < 0
      · go_wp2_with fail
        go_roundw
        case rel => exact ⟨k + 1, by omega, by go_num, by rw [HS.out]; go_num, by trivial⟩
        case measure => simp [intOf]; omega
      · go_wp2_with fail
        go_roundw
        case rel => exact ⟨k + 1, by omega, by go_num, by rw [HS.out]; go_num, by trivial⟩
        case measure => simp [intOf]; omega
    · obtain rfl : k = n := by omega
      go_wp2_with fail
      go_ret
      exact ⟨ret_i64 (by rw [List.take_of_length_le (by rw [HN.out]; exact Nat.le_refl _)]), by trivial⟩
end Go.Proofs.YtplcdjdmkmdddaaDoor
