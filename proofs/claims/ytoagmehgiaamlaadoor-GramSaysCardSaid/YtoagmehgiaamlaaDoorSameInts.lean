/-
  muezzinref.SameInts, SameBools of two lists that are the same.
-/
import Derived.Test.YtoagmehgiaamlaaDoorMc
import Derived.Test.YtoagmehgiaamlaaDoorMg
import Derived.BigQuiet
namespace Go.Proofs.YtoagmehgiaamlaaDoor
open Go.ChangeShapes Go.WideShapes Go.ChangeAt Go.RowKit
set_option linter.unusedVariables false

theorem drewN_two (w : World) (n m : Nat) : ∃ k, (w.drewN n).drewN m = w.drewN k := ⟨n + m, by simp⟩

set_option maxHeartbeats 800000 in
theorem sameInts_any (a a' : Option Addr) (len cap cap' : Nat) (xs : List Int) (w : World) (h : Row w 1 a len cap (xs.map (Value.int .i64))) (h' : Row w 1 a' len cap' (xs.map (Value.int .i64))) :
    Calls Tryd.prog 14 #[.slice a len cap, .slice a' len cap'] w fun e w' => e = .returned (.bool true) ∧ ∃ n, w' = w.drewN n := by
  have hm := h.len_le
  have hL : xs.length = len := by simpa using h.1
  have H := Lib.hid h
  have H' := Lib.hid h'
  clear h h'
  go_enter Tryd.func14, Tryd.ntmps14
  go_wp2_with fail
  go_loopw [5] (fun i wr => ∃ k : Nat, k ≤ len ∧ i = .int .i64 k ∧ ∃ n, wr = w.drewN n) (fun i _ => len - (intOf i).toNat)
  case atStart => exact ⟨0, Nat.zero_le _, rfl, 0, rfl⟩
  case round =>
    obtain ⟨k, hk, rfl, nn, hw⟩ := hrel
    have HW := Lib.hid hw
    clear hw
    by_cases hlt : k < len
    · obtain ⟨b, off, rfl, hb, hc⟩ := H.out.at_ (by omega)
      obtain ⟨b', off', rfl, hb', hc'⟩ := H'.out.at_ (by omega)
      obtain ⟨z, hz⟩ : ∃ z, xs[k]? = some z := ⟨_, List.getElem?_eq_getElem (by omega)⟩
      have hcz : wr.cell? ⟨b, off + k, none⟩ = some (.int .i64 z) := by rw [HW.out]; exact hc k _ (by rw [List.getElem?_map, hz]; rfl)
      have hcz' : wr.cell? ⟨b', off' + k, none⟩ = some (.int .i64 z) := by rw [HW.out]; exact hc' k _ (by rw [List.getElem?_map, hz]; rfl)
      clear hc hc' hz
      go_wp2_with fail
      go_quiet (fail)
      go_wp2_with fail
      go_roundw
      case rel => exact ⟨k + 1, by omega, by go_num, by rw [HW.out]; exact drewN_two _ _ _⟩
      case measure => simp [intOf]; omega
    · go_wp2_with fail
      go_ret
      exact ⟨rfl, _, HW.out⟩

end Go.Proofs.YtoagmehgiaamlaaDoor
