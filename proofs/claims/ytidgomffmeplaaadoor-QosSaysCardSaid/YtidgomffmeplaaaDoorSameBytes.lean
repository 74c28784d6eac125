/-
  muezzinref.SameBytes: are two slices of bytes the same list?
-/
import Derived.Test.YtidgomffmeplaaaDoorBase
namespace Go.Proofs.YtidgomffmeplaaaDoor
open Go.ChangeShapes Go.WideShapes Go.ChangeAt Go.RowKit
set_option linter.unusedVariables false

def sameB (xs ys : List UInt8) : Bool := decide (xs = ys)
theorem sameB_yes {xs ys : List UInt8} (hl : xs.length = ys.length) (h : ∀ j, j < xs.length → xs[j]? = ys[j]?) : sameB xs ys = true := by
  unfold sameB
  rw [decide_eq_true_eq]
  apply List.ext_getElem? fun i => ?_
  by_cases hi : i < xs.length
  · exact h i hi
  · rw [List.getElem?_eq_none (by omega), List.getElem?_eq_none (by omega)]
theorem sameB_no {xs ys : List UInt8} (j : Nat) (h : ¬ xs[j]? = ys[j]?) : sameB xs ys = false := by
  unfold sameB
  rw [decide_eq_false_iff_not]
  rintro rfl
  exact h rfl

set_option maxHeartbeats 400000 in
theorem sameBytes_any (a : Option Addr) (len cap : Nat) (xs : List UInt8) (b : Option Addr) (lenb capb : Nat) (ys : List UInt8) (w : World) (h : Row w 1 a len cap (xs.map u8v)) (hb : Row w 1 b lenb capb (ys.map u8v)) :
    Calls Tryd.prog 17 #[.slice a len cap, .slice b lenb capb] w fun e w' => e = .returned (.bool (sameB xs ys)) ∧ ∃ n, w' = w.drewN n := by
  have hm := h.len_le
  have hmb := hb.len_le
  have HL := Lib.hid (show xs.length = len by simpa using h.1)
  have HB := Lib.hid (show ys.length = lenb by simpa using hb.1)
  by_cases hll : len = lenb
  · subst hll
    have hne : (!((len : Int) == (len : Int))) = false := by simp
    go_enter Tryd.func17, Tryd.ntmps17
    go_wp2_with fail
    go_loopw [5, 6] (fun i s wr => ∃ k : Nat, k ≤ len ∧ i = .int .i64 k ∧ Hid (∀ j, j < k → xs[j]? = ys[j]?) ∧ ∃ n, wr = w.drewN n) (fun i _ _ => len - (intOf i).toNat)
    case atStart => exact ⟨0, Nat.zero_le _, rfl, fun j hj => by omega, 0, rfl⟩
    case round =>
      obtain ⟨k, hk, rfl, HE, nd, rfl⟩ := hrel
      by_cases hlt : k < len
      · obtain ⟨b1, off1, rfl, hb1, hc1⟩ := h.at_ (by omega)
        obtain ⟨b2, off2, rfl, hb2, hc2⟩ := hb.at_ (by omega)
        have hkx : k < xs.length := by rw [HL.out]; exact hlt
        have hky : k < ys.length := by rw [HB.out]; exact hlt
        have hcell1 : w.cell? ⟨b1, off1 + k, none⟩ = some (.int .u8 ((xs[k]'hkx).toNat : Int)) := hc1 k _ (u8_get hkx)
        have hcell2 : w.cell? ⟨b2, off2 + k, none⟩ = some (.int .u8 ((ys[k]'hky).toNat : Int)) := hc2 k _ (u8_get hky)
        have HX := Lib.hid (show xs[k]? = some (xs[k]'hkx) from List.getElem?_eq_getElem hkx)
        have HY := Lib.hid (show ys[k]? = some (ys[k]'hky) from List.getElem?_eq_getElem hky)
        generalize (xs[k]'hkx) = X at *
        generalize (ys[k]'hky) = Y at *
        have HQ := Lib.hid (toNat_beq X Y)
        clear hc1 hc2
        have e1 : 0 ≤ (k : Int) := by omega
        have e2 : (k : Int) < (len : Int) := by omega
        go_wp2_with fail
        go_quiet (fail)
        go_wp2_with fail
        · have hy : (!((X.toNat : Int) == (Y.toNat : Int))) = true := by assumption
          go_ret
          refine ⟨ret_bool ?_, _, rfl⟩
          rw [HQ.out] at hy
          refine (sameB_no k ?_).symm
          rw [HX.out, HY.out]
          intro e
          injection e with e
          simp [e] at hy
        · have hy : (!((X.toNat : Int) == (Y.toNat : Int))) = false := by assumption
          go_roundw
          case rel =>
            refine ⟨k + 1, by omega, by go_num, fun j hj => ?_, _, rfl⟩
            rw [HQ.out] at hy
            by_cases hjk : j = k
            · subst hjk
              rw [HX.out, HY.out]
              simpa using hy
            · exact HE.out j (by omega)
          case measure => simp [intOf]; omega
      · have hke : k = len := by omega
        have HF := Lib.hid (show sameB xs ys = true from sameB_yes (by rw [HL.out, HB.out]) fun j hj => HE.out j (by rw [HL.out] at hj; omega))
        clear hke
        go_wp2_with fail
        go_ret
        exact ⟨ret_bool HF.out.symm, _, rfl⟩
  · have hne : (!((len : Int) == (lenb : Int))) = true := by simp; omega
    go_enter Tryd.func17, Tryd.ntmps17
    go_wp2_with fail
    go_ret
    refine ⟨ret_bool ?_, 0, rfl⟩
    symm
    unfold sameB
    rw [decide_eq_false_iff_not]
    rintro rfl
    exact hll (HL.out.symm.trans HB.out)
end Go.Proofs.YtidgomffmeplaaaDoor
