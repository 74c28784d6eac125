/-
  ampdu.up, Len; build.wrong; slices.ContainsFunc at it; the document's AggLen.
-/
import Derived.Test.YtnndmpanopnncaaBuildPlain
import Derived.Test.YtnndmpanopnncaaInts
namespace Go.Proofs.Ytnndmpanopnncaa
open Go.ChangeShapes Go.WideShapes Go.ChangeAt Go.RowKit
set_option linter.unusedVariables false

set_option maxHeartbeats 400000 in
theorem up_any (n : Int) (w : World) (h0 : 0 ≤ n) (h1 : n ≤ 1000000000000) : Calls Try.prog 32 #[.int .i64 n] w fun e w' => e = .returned (.int .i64 (upP n)) ∧ w = w' := by
  have HU := Lib.hid (show upP n = (n + 3) / 4 * 4 from rfl)
  go_enter Try.func32, Try.ntmps32
  go_wp2_with fail
  go_ret
  exact ⟨ret_i64 (by rw [HU.out]; omega), rfl⟩

/-- lengths that are read -/
def RowN (w : World) (A : Option Addr) (n C : Nat) (L : List Int) : Prop := n = L.length ∧ Row w 1 A n C (L.map (Value.int .i64))
section
variable {w w' : World} {A : Option Addr} {n C : Nat} {L : List Int}
theorem RowN.below (h : RowN w A n C L) {B : Nat} (hb : Below B w w') (hB : w.heap.size ≤ B) : RowN w' A n C L := ⟨h.1, h.2.below hb hB⟩
theorem RowN.take (h : RowN w A n C L) {k : Nat} (hk : k ≤ n) : RowN w A k C (L.take k) := by
  refine ⟨by rw [List.length_take]; have := h.1; omega, ?_⟩
  have := Row.take h.2 hk
  rwa [Nat.mul_one, ← List.map_take] at this
theorem RowN.at_ (h : RowN w A n C L) {k : Nat} (hk : k < n) : ∃ b off z, A = some ⟨b, off, none⟩ ∧ b < w.heap.size ∧ L[k]? = some z ∧ w.cell? ⟨b, off + k, none⟩ = some (.int .i64 z) := by
  obtain ⟨b, off, hA, hlt, hc⟩ := h.2.at_ (by omega)
  have hL := h.1
  refine ⟨b, off, L[k]'(by omega), hA, hlt, List.getElem?_eq_getElem (by omega), hc k _ ?_⟩
  rw [List.getElem?_map, List.getElem?_eq_getElem (by omega)]; rfl
end
theorem take_at {L : List Int} {k : Nat} {z : Int} (h : L[k]? = some z) : L.take (k + 1) = L.take k ++ [z] := by
  obtain ⟨hk, rfl⟩ := List.getElem?_eq_some_iff.1 h
  exact List.take_succ_eq_append_getElem hk

set_option maxHeartbeats 1600000 in
theorem len_any (A : Option Addr) (n C : Nat) (L : List Int) (w : World) (h : RowN w A n C L) (hn : n ≤ 1000) (hL : ∀ z ∈ L, -1000000 ≤ z ∧ z ≤ 4095) :
    Calls Try.prog 21 #[.slice A n C] w fun e w' => e = .returned (.int .i64 (aggP L)) ∧ w = w' := by
  have H := Lib.hid h
  have HL := Lib.hid hL
  have HN := Lib.hid h.1
  clear h hL
  go_enter Try.func21, Try.ntmps21
  go_wp2_with fail
  go_loopw [3, 8] (fun t i wr => ∃ k : Nat, k ≤ n ∧ i = .int .i64 k ∧ t = .int .i64 (aggP (L.take k)) ∧ wr = w) (fun _ i _ => n - (intOf i).toNat)
  case atStart => exact ⟨0, Nat.zero_le _, rfl, rfl, rfl⟩
  case round =>
    obtain ⟨k, hk, rfl, rfl, rfl⟩ := hrel
    by_cases hlt : k < n
    · obtain ⟨b, off, z, rfl, hb, hz, hc⟩ := H.out.at_ hlt
      obtain ⟨z0, z1⟩ := HL.out z (List.mem_of_getElem? hz)
      have a0 := agg_nonneg (L.take k)
      have a1 := agg_top (L.take k) (fun m hm => (HL.out m (List.mem_of_mem_take hm)).2)
      have a2 : (L.take k).length ≤ k := List.length_take_le _ _
      have HS := Lib.hid (show aggP (L.take (k + 1)) = upP (aggP (L.take k)) + 4 + max z 0 by rw [take_at hz, agg_snoc]; rfl)
      clear hz
      generalize aggP (L.take k) = a at *
      have a3 : a ≤ 4102 * 1000 := by omega
      clear a1 a2
      have u0 : 0 ≤ upP a ∧ upP a ≤ a + 3 := by unfold upP; omega
      go_wp2_with fail
      refine (up_any a _ a0 (by omega)).mono ?_
      rintro e w1 ⟨rfl, rfl⟩
      generalize upP a = u at *
      by_cases hz0 : z < 0
      · go_wp2_with fail
        go_roundw
        case rel => exact ⟨k + 1, by omega, by go_num, by rw [HS.out]; go_num, by trivial⟩
        case measure => simp [intOf]; omega
      · go_wp2_with fail
        go_roundw
        case rel => exact ⟨k + 1, by omega, by go_num, by rw [HS.out]; go_num, by trivial⟩
        case measure => simp [intOf]; omega
    · obtain rfl : k = n := by omega
      go_wp2_with fail
      go_ret
      exact ⟨ret_i64 (by rw [List.take_of_length_le (by rw [HN.out]; exact Nat.le_refl _)]), by trivial⟩

set_option maxHeartbeats 400000 in
theorem wrong_any (z : Int) (w : World) : Calls Try.prog 18 #[.int .i64 z] w fun e w' => e = .returned (.bool (wrongB z)) ∧ w = w' := by
  have HU := Lib.hid (show wrongB z = (decide (z < 1) || decide (4095 < z)) from rfl)
  by_cases h1 : z < 1
  · go_enter Try.func18, Try.ntmps18
    go_wp2_with fail
    go_ret
    exact ⟨ret_bool (by rw [HU.out]; simp [h1]), rfl⟩
  · go_enter Try.func18, Try.ntmps18
    go_wp2_with fail
    go_ret
    exact ⟨ret_bool (by rw [HU.out, decide_eq_false (show ¬ z < 1 by omega), Bool.false_or]), rfl⟩

set_option maxHeartbeats 1600000 in
theorem indexWrong_any (A : Option Addr) (n C : Nat) (L : List Int) (w : World) (h : RowN w A n C L) (F : Value) (hF : F = .func (.func 18) #[] #[]) :
    Calls Try.prog 31 #[.slice A n C, F] w fun e w' => ∃ i : Int, e = .returned (.int .i64 i) ∧ (decide (0 ≤ i) = L.any wrongB) ∧ w = w' := by
  have hm := h.2.len_le
  have H := Lib.hid h
  clear h
  subst hF
  go_enter Try.func31, Try.ntmps31
  go_wp2_with fail
  go_loopw [8] (fun i wr => ∃ k : Nat, k ≤ n ∧ i = .int .i64 k ∧ (L.take k).any wrongB = false ∧ wr = w) (fun i _ => n - (intOf i).toNat)
  case atStart => exact ⟨0, Nat.zero_le _, rfl, rfl, rfl⟩
  case round =>
    obtain ⟨k, hk, rfl, hno, rfl⟩ := hrel
    have HNO := Lib.hid hno
    clear hno
    by_cases hlt : k < n
    · obtain ⟨b, off, z, rfl, hb, hz, hc⟩ := H.out.at_ hlt
      go_wp2_with fail
      refine (wrong_any z _).mono ?_
      rintro e w1 ⟨rfl, rfl⟩
      rcases hw : wrongB z
      · have HK := Lib.hid (show (L.take (k + 1)).any wrongB = false by rw [take_at hz, List.any_append, HNO.out]; simp [hw])
        clear hw hz
        go_wp2_with fail
        go_roundw
        case rel => exact ⟨k + 1, by omega, by go_num, HK.out, by trivial⟩
        case measure => simp [intOf]; omega
      · have HK := Lib.hid (show L.any wrongB = true from List.any_eq_true.2 ⟨z, List.mem_of_getElem? hz, hw⟩)
        clear hw hz
        go_wp2_with fail
        go_ret
        exact ⟨(k : Int), rfl, by rw [HK.out]; exact decide_eq_true (by omega), by trivial⟩
    · obtain rfl : k = n := by omega
      go_wp2_with fail
      go_ret
      refine ⟨-1, rfl, ?_, by trivial⟩
      have := HNO.out
      rw [List.take_of_length_le (by rw [H.out.1]; exact Nat.le_refl _)] at this
      rw [this]; decide

set_option maxHeartbeats 800000 in
theorem anyWrong_any (A : Option Addr) (n C : Nat) (L : List Int) (w : World) (h : RowN w A n C L) (F : Value) (hF : F = .func (.func 18) #[] #[]) :
    Calls Try.prog 20 #[.slice A n C, F] w fun e w' => e = .returned (.bool (L.any wrongB)) ∧ w = w' := by
  have HC := Lib.hid (indexWrong_any A n C L w h F hF)
  clear hF h
  go_enter Try.func20, Try.ntmps20
  go_wp2_with fail
  refine HC.out.mono ?_
  rintro e w1 ⟨i, rfl, hi, rfl⟩
  have HI := Lib.hid hi
  clear hi
  go_wp2_with fail
  go_ret
  exact ⟨ret_bool HI.out, rfl⟩

set_option maxHeartbeats 1600000 in
theorem aggLen_any (A : Option Addr) (n C : Nat) (L : List Int) (w : World) (h : RowN w A n C L) (hn : n ≤ 1000) (hL : ∀ z ∈ L, -1000000 ≤ z ∧ z ≤ 4095) :
    Calls Try.prog 16 #[.slice A n C] w fun e w' => e = .returned (.int .i64 (aggP L)) ∧ w = w' := by
  have H := Lib.hid h
  have HL := Lib.hid hL
  have HN := Lib.hid h.1
  clear h hL
  go_enter Try.func16, Try.ntmps16
  go_wp2_with fail
  go_loopw [3, 4] (fun t i wr => ∃ k : Nat, k ≤ n ∧ i = .int .i64 k ∧ t = .int .i64 (aggP (L.take k)) ∧ wr = w) (fun _ i _ => n - (intOf i).toNat)
  case atStart => exact ⟨0, Nat.zero_le _, rfl, rfl, rfl⟩
  case round =>
    obtain ⟨k, hk, rfl, rfl, rfl⟩ := hrel
    by_cases hlt : k < n
    · obtain ⟨b, off, z, rfl, hb, hz, hc⟩ := H.out.at_ hlt
      obtain ⟨z0, z1⟩ := HL.out z (List.mem_of_getElem? hz)
      have a0 := agg_nonneg (L.take k)
      have a1 := agg_top (L.take k) (fun m hm => (HL.out m (List.mem_of_mem_take hm)).2)
      have a2 : (L.take k).length ≤ k := List.length_take_le _ _
      have HS := Lib.hid (show aggP (L.take (k + 1)) = (aggP (L.take k) + 3) / 4 * 4 + 4 + max z 0 by rw [take_at hz, agg_snoc]; rfl)
      clear hz
      generalize aggP (L.take k) = a at *
      have a3 : a ≤ 4102 * 1000 := by omega
      clear a1 a2
      by_cases hz0 : z < 0
      · go_wp2_with fail
        go_roundw
        case rel => exact ⟨k + 1, by omega, by go_num, by rw [HS.out]; go_num, by trivial⟩
        case measure => simp [intOf]; omega
      · go_wp2_with fail
        go_roundw
        case rel => exact ⟨k + 1, by omega, by go_num, by rw [HS.out]; go_num, by trivial⟩
        case measure => simp [intOf]; omega
    · obtain rfl : k = n := by omega
      go_wp2_with fail
      go_ret
      exact ⟨ret_i64 (by rw [List.take_of_length_le (by rw [HN.out]; exact Nat.le_refl _)]), by trivial⟩
end Go.Proofs.Ytnndmpanopnncaa
