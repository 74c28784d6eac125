/-
  muezzinref.Bytes: a copy in new memory.
-/
import Derived.Test.YtidgomffmeplaaaDoorMem
namespace Go.Proofs.YtidgomffmeplaaaDoor
open Go.ChangeShapes Go.WideShapes Go.ChangeAt Go.RowKit
set_option linter.unusedVariables false

theorem take_snoc {xs : List UInt8} {k : Nat} (h : k < xs.length) : xs.take (k + 1) = xs.take k ++ [xs[k]] := List.take_succ_eq_append_getElem h

set_option maxHeartbeats 400000 in
theorem bytes_any (a : Option Addr) (len cap : Nat) (xs : List UInt8) (w : World) (h : Row w 1 a len cap (xs.map u8v)) (hl : len ≤ 1048576) :
    Calls Tryd.prog 13 #[.slice a len cap] w fun e w' => GivesU8 w xs e w' := by
  have hm := h.len_le
  have HL := Lib.hid (show xs.length = len by simpa using h.1)
  have hlt0 := fun (b : Nat) (hb : 0 < len ∧ blk a = some b) => (show b < w.heap.size by obtain ⟨b', off, ha, h1, _⟩ := h.at_ hb.1; rw [ha] at hb; simp [blk] at hb; omega)
  go_enter Tryd.func13, Tryd.ntmps13
  go_wp2_with (at_make; refine make_u8 _ rfl _ _ rfl .i64 .i64 len rfl rfl (by omega) ?_; intro w1 hown1 hg1)
  have hb1 : Below w.heap.size w w1 := (Below.refl _ _).grown hg1 (Nat.le_refl _) (by simp)
  clear hg1
  go_loopw [3, 4] (fun out i wr => ∃ k : Nat, k ≤ len ∧ i = .int .i64 k ∧ ∃ A C, out = .slice A k C ∧ OwnU8 wr w.heap.size A k C (xs.take k) ∧ Below w.heap.size w wr) (fun _ i _ => len - (intOf i).toNat)
  case atStart => exact ⟨0, Nat.zero_le _, rfl, _, _, rfl, hown1, hb1⟩
  case round =>
    obtain ⟨k, hk, rfl, A, C, rfl, hown, hbw⟩ := hrel
    by_cases hlt : k < len
    · obtain ⟨b1, off1, rfl, hb1, hc1⟩ := h.at_ (by omega)
      have hkx : k < xs.length := by rw [HL.out]; exact hlt
      have hcell1 : wr.cell? ⟨b1, off1 + k, none⟩ = some (.int .u8 ((xs[k]'hkx).toNat : Int)) := (hbw.cell (p := ⟨b1, off1 + k, none⟩) hb1).trans (hc1 k _ (u8_get hkx))
      have HS := Lib.hid (take_snoc hkx)
      generalize (xs[k]'hkx) = X at *
      clear hc1
      have hsz := hbw.size
      go_wp2_with (at_builtin; refine append_u8 _ rfl (.tmp 14) (.tmp 19) rfl w.heap.size A k C _ rfl (hown.alloc _) _ 1 1 [X] rfl (row_one _ _ _) (by omega) (by simp; omega) ?_; intro A2 C2 w2 hown2 hg2 hat2)
      go_roundw
      case rel => exact ⟨k + 1, by omega, by go_num, A2, C2, rfl, by rw [HS.out]; exact hown2, below_grown (hbw.alloc hsz _) (hown.alloc _) (Nat.le_refl _) (by simp; omega) hg2⟩
      case measure => simp [intOf]; omega
    · have hke : k = len := by omega
      have HF := Lib.hid (show xs.take k = xs by rw [List.take_of_length_le]; rw [HL.out]; omega)
      clear hke
      go_wp2_with fail
      go_ret
      exact ⟨_, _, _, rfl, by rw [← HF.out]; exact hown, hbw⟩
end Go.Proofs.YtidgomffmeplaaaDoor
