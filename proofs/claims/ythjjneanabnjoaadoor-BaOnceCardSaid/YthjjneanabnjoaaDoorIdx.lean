/-
  slices.Index at []int.
-/
import Derived.Test.YthjjneanabnjoaaDoorInts
namespace Go.Proofs.YthjjneanabnjoaaDoor
open Go.ChangeShapes Go.WideShapes Go.ChangeAt Go.RowKit
set_option linter.unusedVariables false

/-- the place of a number, or -1 -/
def posOf (xs : List Int) (s : Int) : Option Nat := xs.findIdx? (· == s)

set_option maxHeartbeats 800000 in
theorem index_no (a : Option Addr) (len cap : Nat) (xs : List Int) (s : Int) (w : World) (h : Row w 1 a len cap (xs.map (Value.int .i64))) (hs : s ∉ xs) :
    Calls Tryd.prog 58 #[.slice a len cap, .int .i64 s] w fun e w' => e = .returned (.int .i64 (-1)) ∧ w = w' := by
  have hm := h.len_le
  have hL : xs.length = len := by simpa using h.1
  have H := Lib.hid h
  have HS := Lib.hid hs
  clear h hs
  go_enter Tryd.func58, Tryd.ntmps58
  go_wp2_with fail
  go_loopw [8] (fun i wr => ∃ k : Nat, k ≤ len ∧ i = .int .i64 k ∧ wr = w) (fun i _ => len - (intOf i).toNat)
  case atStart => exact ⟨0, Nat.zero_le _, rfl, rfl⟩
  case round =>
    obtain ⟨k, hk, rfl, rfl⟩ := hrel
    by_cases hlt : k < len
    · obtain ⟨b, off, rfl, hb, hc⟩ := H.out.at_ (by omega)
      obtain ⟨z, hz⟩ : ∃ z, xs[k]? = some z := ⟨_, List.getElem?_eq_getElem (by omega)⟩
      have hcz : wr.cell? ⟨b, off + k, none⟩ = some (.int .i64 z) := hc k _ (by rw [List.getElem?_map, hz]; rfl)
      have hne : ¬ s = z := fun e => HS.out (e ▸ List.mem_of_getElem? hz)
      clear hc hz
      go_wp2_with fail
      go_roundw
      case rel => exact ⟨k + 1, by omega, by go_num, by trivial⟩
      case measure => simp [intOf]; omega
    · go_wp2_with fail
      go_ret
      first | exact ⟨rfl, rfl⟩ | exact ⟨rfl, trivial⟩

set_option maxHeartbeats 800000 in
theorem index_yes (a : Option Addr) (len cap : Nat) (xs : List Int) (s : Int) (w : World) (h : Row w 1 a len cap (xs.map (Value.int .i64))) (i : Nat) (hi : xs[i]? = some s) (hfst : ∀ j, j < i → xs[j]? ≠ some s) :
    Calls Tryd.prog 58 #[.slice a len cap, .int .i64 s] w fun e w' => e = .returned (.int .i64 (i : Int)) ∧ w = w' := by
  have hm := h.len_le
  have hL : xs.length = len := by simpa using h.1
  have hil : i < len := by rw [← hL]; exact (List.getElem?_eq_some_iff.1 hi).1
  have H := Lib.hid h
  have HI := Lib.hid hi
  have HF := Lib.hid hfst
  clear h hi hfst
  go_enter Tryd.func58, Tryd.ntmps58
  go_wp2_with fail
  go_loopw [8] (fun j wr => ∃ k : Nat, k ≤ i ∧ j = .int .i64 k ∧ wr = w) (fun j _ => len - (intOf j).toNat)
  case atStart => exact ⟨0, Nat.zero_le _, rfl, rfl⟩
  case round =>
    obtain ⟨k, hk, rfl, rfl⟩ := hrel
    have hlt : k < len := by omega
    obtain ⟨b, off, rfl, hb, hc⟩ := H.out.at_ (by omega)
    by_cases hki : k = i
    · subst hki
      have hcz : wr.cell? ⟨b, off + k, none⟩ = some (.int .i64 s) := hc k _ (by rw [List.getElem?_map, HI.out]; rfl)
      clear hc
      go_wp2_with fail
      go_ret
      first | exact ⟨rfl, rfl⟩ | exact ⟨rfl, trivial⟩
    · obtain ⟨z, hz⟩ : ∃ z, xs[k]? = some z := ⟨_, List.getElem?_eq_getElem (by omega)⟩
      have hcz : wr.cell? ⟨b, off + k, none⟩ = some (.int .i64 z) := hc k _ (by rw [List.getElem?_map, hz]; rfl)
      have hne : ¬ s = z := fun e => HF.out k (by omega) (e ▸ hz)
      clear hc hz
      go_wp2_with fail
      go_roundw
      case rel => exact ⟨k + 1, by omega, by go_num, by trivial⟩
      case measure => simp [intOf]; omega
end Go.Proofs.YthjjneanabnjoaaDoor
