/-
  How long parts are together, whatever their lengths are: both sums go round alike.
-/
import Derived.Test.YtplcdjdmkmdddaaDoorAgg
namespace Go.Proofs.YtplcdjdmkmdddaaDoor
open Go.ChangeShapes Go.WideShapes Go.ChangeAt Go.RowKit
set_option linter.unusedVariables false

def upW (n : Int) : Int := wrap64 (wrap64 ((wrap64 (n + 3)).tdiv 4) * 4)
def aggWS (a z : Int) : Int := wrap64 (wrap64 (upW a + 4) + z)
def aggW (L : List Int) : Int := L.foldl aggWS 0
theorem aggW_snoc (L : List Int) (n : Int) : aggW (L ++ [n]) = aggWS (aggW L) n := by simp [aggW]
theorem wrap64_in (n : Int) : -9223372036854775808 ≤ wrap64 n ∧ wrap64 n ≤ 9223372036854775807 := by
  unfold wrap64; omega
theorem wrap64_less (n : Int) : wrap64 (wrap64 (n + 4) - 1) = wrap64 (n + 3) := by unfold wrap64; omega
theorem aggW_in (L : List Int) : -9223372036854775808 ≤ aggW L ∧ aggW L ≤ 9223372036854775807 := by
  have key : ∀ (L : List Int) (a : Int), -9223372036854775808 ≤ a ∧ a ≤ 9223372036854775807 → -9223372036854775808 ≤ L.foldl aggWS a ∧ L.foldl aggWS a ≤ 9223372036854775807 := by
    intro L
    induction L with
    | nil => intro a h; exact h
    | cons n L ih => intro a _; exact ih _ (wrap64_in _)
  exact key L 0 (by omega)

set_option maxHeartbeats 400000 in
theorem upW_any (n : Int) (w : World) (h0 : -9223372036854775808 ≤ n) (h1 : n ≤ 9223372036854775807) : Calls Tryd.prog 23 #[.int .i64 n] w fun e w' => e = .returned (.int .i64 (upW n)) ∧ w = w' := by
  go_enter Tryd.func23, Tryd.ntmps23
  go_wp2_with fail
  go_ret
  exact ⟨ret_i64 (by rw [wrap64_less]; rfl), rfl⟩

set_option maxHeartbeats 1600000 in
theorem lenW_any (A : Option Addr) (n C : Nat) (L : List Int) (w : World) (h : RowN w A n C L) (hn : n ≤ 1000) (hL : ∀ z ∈ L, 0 ≤ z ∧ z ≤ 9223372036854775807) :
    Calls Tryd.prog 20 #[.slice A n C] w fun e w' => e = .returned (.int .i64 (aggW L)) ∧ w = w' := by
  have H := Lib.hid h
  have HL := Lib.hid hL
  have HN := Lib.hid h.1
  clear h hL
  go_enter Tryd.func20, Tryd.ntmps20
  go_wp2_with fail
  go_loopw [3, 8] (fun t i wr => ∃ k : Nat, k ≤ n ∧ i = .int .i64 k ∧ t = .int .i64 (aggW (L.take k)) ∧ wr = w) (fun _ i _ => n - (intOf i).toNat)
  case atStart => exact ⟨0, Nat.zero_le _, rfl, rfl, rfl⟩
  case round =>
    obtain ⟨k, hk, rfl, rfl, rfl⟩ := hrel
    by_cases hlt : k < n
    · obtain ⟨b, off, z, rfl, hb, hz, hc⟩ := H.out.at_ hlt
      obtain ⟨z0, z1⟩ := HL.out z (List.mem_of_getElem? hz)
      obtain ⟨a0, a1⟩ := aggW_in (L.take k)
      have HS := Lib.hid (show aggW (L.take (k + 1)) = wrap64 (wrap64 (upW (aggW (L.take k)) + 4) + z) by rw [take_at hz, aggW_snoc]; rfl)
      clear hz
      generalize aggW (L.take k) = a at *
      go_wp2_with fail
      refine (upW_any a _ a0 a1).mono ?_
      rintro e w1 ⟨rfl, rfl⟩
      generalize upW a = u at *
      have hz0 : ¬ z < 0 := by omega
      go_wp2_with fail
      go_roundw
      case rel => exact ⟨k + 1, by omega, by go_num, by rw [HS.out], by trivial⟩
      case measure => simp [intOf]; omega
    · obtain rfl : k = n := by omega
      go_wp2_with fail
      go_ret
      exact ⟨ret_i64 (by rw [List.take_of_length_le (by rw [HN.out]; exact Nat.le_refl _)]), by trivial⟩

set_option maxHeartbeats 1600000 in
theorem aggLenW_any (A : Option Addr) (n C : Nat) (L : List Int) (w : World) (h : RowN w A n C L) (hn : n ≤ 1000) (hL : ∀ z ∈ L, 0 ≤ z ∧ z ≤ 9223372036854775807) :
    Calls Tryd.prog 22 #[.slice A n C] w fun e w' => e = .returned (.int .i64 (aggW L)) ∧ w = w' := by
  have H := Lib.hid h
  have HL := Lib.hid hL
  have HN := Lib.hid h.1
  clear h hL
  go_enter Tryd.func22, Tryd.ntmps22
  go_wp2_with fail
  go_loopw [3, 4] (fun t i wr => ∃ k : Nat, k ≤ n ∧ i = .int .i64 k ∧ t = .int .i64 (aggW (L.take k)) ∧ wr = w) (fun _ i _ => n - (intOf i).toNat)
  case atStart => exact ⟨0, Nat.zero_le _, rfl, rfl, rfl⟩
  case round =>
    obtain ⟨k, hk, rfl, rfl, rfl⟩ := hrel
    by_cases hlt : k < n
    · obtain ⟨b, off, z, rfl, hb, hz, hc⟩ := H.out.at_ hlt
      obtain ⟨z0, z1⟩ := HL.out z (List.mem_of_getElem? hz)
      obtain ⟨a0, a1⟩ := aggW_in (L.take k)
      have HS := Lib.hid (show aggW (L.take (k + 1)) = wrap64 (wrap64 (wrap64 (wrap64 ((wrap64 (aggW (L.take k) + 3)).tdiv 4) * 4) + 4) + z) by rw [take_at hz, aggW_snoc]; rfl)
      clear hz
      generalize aggW (L.take k) = a at *
      have hz0 : ¬ z < 0 := by omega
      go_wp2_with fail
      go_roundw
      case rel => exact ⟨k + 1, by omega, by go_num, by rw [HS.out], by trivial⟩
      case measure => simp [intOf]; omega
    · obtain rfl : k = n := by omega
      go_wp2_with fail
      go_ret
      exact ⟨ret_i64 (by rw [List.take_of_length_le (by rw [HN.out]; exact Nat.le_refl _)]), by trivial⟩
end Go.Proofs.YtplcdjdmkmdddaaDoor
