/-
  slices.ContainsFunc at 'is not zero'.
-/
import Derived.Test.YtplcdjdmkmdddaaDoorUnpack
namespace Go.Proofs.YtplcdjdmkmdddaaDoor
open Go.ChangeShapes Go.WideShapes Go.ChangeAt Go.RowKit
set_option linter.unusedVariables false

set_option maxHeartbeats 400000 in
theorem nz_any (c : UInt8) (w : World) : Calls Tryd.prog 32 #[.int .u8 (c.toNat : Int)] w fun e w' => e = .returned (.bool (c != 0)) ∧ w = w' := by
  have HU := Lib.hid (show ((c.toNat : Int) != 0) = (c != 0) by
    rw [Bool.eq_iff_iff]; simp [← UInt8.toNat_inj])
  go_enter Tryd.func32, Tryd.ntmps32
  go_wp2_with fail
  go_ret
  exact ⟨ret_bool HU.out, rfl⟩

set_option maxHeartbeats 1600000 in
theorem indexNz_any (A : Option Addr) (n C : Nat) (L : List UInt8) (w : World) (h : Row w 1 A n C (L.map u8v)) (F : Value) (hF : F = .func (.func 32) #[] #[]) :
    Calls Tryd.prog 41 #[.slice A n C, F] w fun e w' => ∃ i : Int, e = .returned (.int .i64 i) ∧ (decide (0 ≤ i) = L.any (fun c => c != 0)) ∧ w = w' := by
  have hm := h.len_le
  have hlx : L.length = n := by simpa using h.1
  have HL := Lib.hid hlx
  have H := Lib.hid h
  clear h hlx
  subst hF
  go_enter Tryd.func41, Tryd.ntmps41
  go_wp2_with fail
  go_loopw [8] (fun i wr => ∃ k : Nat, k ≤ n ∧ i = .int .i64 k ∧ (L.take k).any (fun c => c != 0) = false ∧ wr = w) (fun i _ => n - (intOf i).toNat)
  case atStart => exact ⟨0, Nat.zero_le _, rfl, rfl, rfl⟩
  case round =>
    obtain ⟨k, hk, rfl, hno, rfl⟩ := hrel
    have HNO := Lib.hid hno
    clear hno
    by_cases hlt : k < n
    · obtain ⟨b, off, rfl, hb, -⟩ := H.out.at_ (by omega)
      have hc := cell4 H.out hlt
      obtain ⟨z, hz⟩ : ∃ z, L[k]? = some z := ⟨_, List.getElem?_eq_getElem (by rw [HL.out]; exact hlt)⟩
      rw [List.getD_eq_getElem?_getD, hz] at hc
      have hc' : wr.cell? ⟨b, off + k, none⟩ = some (.int .u8 (z.toNat : Int)) := hc
      clear hc
      have HT := Lib.hid (show L.take (k + 1) = L.take k ++ [z] by obtain ⟨h1, rfl⟩ := List.getElem?_eq_some_iff.1 hz; exact List.take_succ_eq_append_getElem h1)
      have HM := Lib.hid (List.mem_of_getElem? hz)
      clear hz
      go_wp2_with fail
      refine (nz_any z _).mono ?_
      rintro e w1 ⟨rfl, rfl⟩
      rcases hw : (z != 0)
      · have HK := Lib.hid (show (L.take (k + 1)).any (fun c => c != 0) = false by rw [HT.out, List.any_append, HNO.out]; simpa using hw)
        clear hw
        go_wp2_with fail
        go_roundw
        case rel => exact ⟨k + 1, by omega, by go_num, HK.out, by trivial⟩
        case measure => simp [intOf]; omega
      · have HK := Lib.hid (show L.any (fun c => c != 0) = true from List.any_eq_true.2 ⟨z, HM.out, hw⟩)
        clear hw
        go_wp2_with fail
        go_ret
        exact ⟨(k : Int), rfl, by rw [HK.out]; exact decide_eq_true (by omega), by trivial⟩
    · obtain rfl : k = n := by omega
      go_wp2_with fail
      go_ret
      refine ⟨-1, rfl, ?_, by trivial⟩
      have := HNO.out
      rw [List.take_of_length_le (by rw [HL.out]; exact Nat.le_refl _)] at this
      rw [this]; decide

set_option maxHeartbeats 800000 in
theorem anyNz_any (A : Option Addr) (n C : Nat) (L : List UInt8) (w : World) (h : Row w 1 A n C (L.map u8v)) (F : Value) (hF : F = .func (.func 32) #[] #[]) :
    Calls Tryd.prog 31 #[.slice A n C, F] w fun e w' => e = .returned (.bool (L.any (fun c => c != 0))) ∧ w = w' := by
  have HC := Lib.hid (indexNz_any A n C L w h F hF)
  clear hF h
  go_enter Tryd.func31, Tryd.ntmps31
  go_wp2_with fail
  refine HC.out.mono ?_
  rintro e w1 ⟨i, rfl, hi, rfl⟩
  have HI := Lib.hid hi
  clear hi
  go_wp2_with fail
  go_ret
  exact ⟨ret_bool HI.out, rfl⟩
end Go.Proofs.YtplcdjdmkmdddaaDoor
