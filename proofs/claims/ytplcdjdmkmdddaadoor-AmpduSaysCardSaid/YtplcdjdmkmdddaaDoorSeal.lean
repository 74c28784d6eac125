/-
  crc.Seal and crc.Fits.
-/
import Derived.Test.YtplcdjdmkmdddaaDoorCrc
import Derived.Test.YtplcdjdmkmdddaaDoorClone
namespace Go.Proofs.YtplcdjdmkmdddaaDoor
open Go.ChangeShapes Go.WideShapes Go.ChangeAt Go.RowKit
set_option linter.unusedVariables false

set_option maxHeartbeats 400000 in
theorem seal_any (a : Option Addr) (len cap : Nat) (xs : List UInt8) (w : World) (h : Row w 1 a len cap (xs.map u8v)) (hl : len ≤ 1048576) :
    Calls Tryd.prog 24 #[.slice a len cap] w fun e w' => GivesU8 w (Crc.sealed xs) e w' := by
  go_enter Tryd.func24, Tryd.ntmps24
  go_wp2_with fail
  refine (clone_any a len cap xs _ h hl).mono ?_
  rintro e w1 ⟨⟨A1, n1, C1, rfl, hown1, hb1⟩, -⟩
  have hn1 := hown1.len
  have hlx : xs.length = len := by simpa using h.1
  have hsz := hb1.size
  have HN := Lib.hid hn1
  have HX := Lib.hid hlx
  have hn2 : n1 ≤ 1048576 := by omega
  clear hn1 hlx
  go_wp2_with fail
  refine (crcSum_any a len cap xs _ (h.below hb1 (Nat.le_refl _))).mono ?_
  rintro e w2 ⟨rfl, rfl⟩
  go_wp2_with (at_builtin; refine append_u8 _ rfl (.tmp 4) (.tmp 7) rfl w.heap.size A1 n1 C1 _ rfl (hown1.alloc _) _ 1 1 [Crc.sum xs] rfl (row_one _ _ _) (by omega) (by simp; omega) ?_; intro A2 C2 w2 hown2 hg2 hat2)
  go_ret
  exact ⟨_, _, _, rfl, hown2, below_grown (hb1.alloc hsz _) (hown1.alloc _) (Nat.le_refl _) (by simp; omega) hg2⟩

theorem fits_pos {xs : List UInt8} {k : Nat} (h : xs.length = k + 1) (hk : k < xs.length) : Crc.fits xs = decide (xs[k] = Crc.sum (xs.take k)) := by
  unfold Crc.fits
  have hne : xs ≠ [] := by intro e; simp [e] at h
  rw [List.getLastD_eq_getLast?, List.getLast?_eq_some_getLast hne, List.getLast_eq_getElem hne, List.dropLast_eq_take]
  simp only [Option.getD_some, h, Nat.add_sub_cancel]
  rw [Bool.eq_iff_iff]; simp
theorem fits_nil : Crc.fits [] = false := rfl

set_option maxHeartbeats 400000 in
theorem fits_any (a : Option Addr) (len cap : Nat) (xs : List UInt8) (w : World) (h : Row w 1 a len cap (xs.map u8v)) :
    Calls Tryd.prog 40 #[.slice a len cap] w fun e w' => e = .returned (.bool (Crc.fits xs)) ∧ ∃ n, w' = w.drewN n := by
  have hm := h.len_cap
  have hlx : xs.length = len := by simpa using h.1
  by_cases h0 : len = 0
  · have hx : xs = [] := List.eq_nil_of_length_eq_zero (by omega)
    subst h0 hx
    have hd : decide ((0 : Int) < 0) = false := by decide
    go_enter Tryd.func40, Tryd.ntmps40
    go_wp2_with fail
    go_quiet (fail)
    go_wp2_with fail
    go_ret
    exact ⟨rfl, _, rfl⟩
  · obtain ⟨k, rfl⟩ : ∃ k, len = k + 1 := ⟨len - 1, by omega⟩
    obtain ⟨b1, off1, rfl, hb1, hc1⟩ := h.at_ (by omega)
    have hkx : k < xs.length := by omega
    have hcell1 : w.cell? ⟨b1, off1 + k, none⟩ = some (.int .u8 ((xs[k]'hkx).toNat : Int)) := hc1 k _ (u8_get hkx)
    have hr : Row w 1 (some ⟨b1, off1, none⟩) k cap ((xs.take k).map u8v) := by
      have := h.take (n := k) (by omega)
      rwa [Nat.mul_one, ← List.map_take] at this
    have HP := Lib.hid (fits_pos hlx hkx)
    generalize (xs[k]'hkx) = X at *
    clear hc1 h hlx
    have hd : decide ((0 : Int) < (k : Int) + 1) = true := by simp; try omega
    have hk0 : 0 ≤ (k : Int) := by omega
    have hk1 : (k : Int) < (k : Int) + 1 := by omega
    have hw1 : IntKind.i64.wrap ((k : Int) + 1 - 1) = k := by rw [Int.add_sub_cancel]; exact IntWalk.i64_in _ (by omega)
    go_enter Tryd.func40, Tryd.ntmps40
    go_wp2_with fail
    go_quiet ((go_at_call 36; exact quiet_same (crcSum_any _ _ _ _ _ (hr.drewN _))))
    go_wp2_with fail
    go_ret
    refine ⟨ret_bool ?_, _, rfl⟩
    rw [HP.out, toNat_beq]
end Go.Proofs.YtplcdjdmkmdddaaDoor
