/-
  What the functions of package crc, and their kin of the references, hand back.
-/
import Derived.Test.YtplcdjdmkmdddaaDoorCrcPlain
namespace Go.Proofs.YtplcdjdmkmdddaaDoor
open Go.ChangeShapes Go.WideShapes Go.ChangeAt Go.RowKit
set_option linter.unusedVariables false


set_option maxRecDepth 100000 in
set_option maxHeartbeats 400000 in
theorem rev8_any (x : BitVec 8) (w : World) :
    Calls Tryd.prog 42 #[.int .u8 (x.toNat : Int)] w fun e w' => e = .returned (.int .u8 ((Crc.rev x).toNat : Int)) ∧ w = w' := by
  have hx : x.toNat < 256 := x.isLt
  go_enter Tryd.func42, Tryd.ntmps42
  go_wp2_with fail
  go_ret
  refine ⟨ret_u8 ?_, rfl⟩
  clear hx w
  revert x
  decide +kernel

set_option maxHeartbeats 400000 in
theorem crcSum_any (a : Option Addr) (len cap : Nat) (xs : List UInt8) (w : World) (h : Row w 1 a len cap (xs.map u8v)) :
    Calls Tryd.prog 36 #[.slice a len cap] w fun e w' => e = .returned (.int .u8 ((Crc.sum xs).toNat : Int)) ∧ w = w' := by
  have hm := h.len_le
  have HL := Lib.hid (show xs.length = len by simpa using h.1)
  go_enter Tryd.func36, Tryd.ntmps36
  go_wp2_with fail
  go_loop [3, 5, 6, 9] (fun r x is i => ∃ k : Nat, k ≤ len ∧ i = .int .i64 k ∧ r = .int .u8 ((Crc.run 255#8 (xs.take k)).toNat : Int)) (fun _ _ _ i => len - (intOf i).toNat)
  case atStart => exact ⟨0, Nat.zero_le _, rfl, rfl⟩
  case round =>
    obtain ⟨k, hk, rfl, rfl⟩ := hrel
    by_cases hlt : k < len
    · obtain ⟨h1, h2, h3, h4, h5⟩ := h
      obtain ⟨b, off, rfl, hb, hc⟩ := h5 (by omega)
      have hkx : k < xs.length := by rw [HL.out]; exact hlt
      have hcell : w.cell? ⟨b, off + k, none⟩ = some (.int .u8 ((xs[k]'hkx).toBitVec.toNat : Int)) := by
        apply hc; simp [u8v, List.getElem?_eq_getElem hkx]
      have HS := Lib.hid (Crc.run_snoc 255#8 xs k hkx)
      generalize Crc.run 255#8 (xs.take k) = R at *
      generalize (xs[k]'hkx).toBitVec = X at *
      clear hc h4 h1
      go_wp2_with fail
      go_loop [3, 5, 6, 13] (fun r x is i => ∃ j : Nat, j ≤ 8 ∧ i = .int .i64 j ∧ r = .int .u8 ((Crc.part R X j).toNat : Int) ∧ x = .int .u8 ((X.toNat / 2 ^ j : Nat) : Int)) (fun _ _ _ i => 8 - (intOf i).toNat)
      case atStart => exact ⟨0, Nat.zero_le _, rfl, rfl, by simp⟩
      case round =>
        obtain ⟨j, hj, rfl, rfl, rfl⟩ := hrel
        have hm8 : X.toNat / 2 ^ j < 256 := Nat.lt_of_le_of_lt (Nat.div_le_self _ _) X.isLt
        have hp8 : (Crc.part R X j).toNat < 256 := (Crc.part R X j).isLt
        by_cases hlt : j < 8
        · have HP := Lib.hid (Crc.part_succ R X j hlt)
          have HH := Lib.hid (Crc.half X.toNat j)
          have HI := Lib.hid (Crc.is_go (Crc.part R X j) _ hm8)
          generalize Crc.part R X j = P at *
          generalize hq : X.toNat / 2 ^ j = q at *
          clear hq
          go_wp2_with fail
          · have hy : (bits BinOp.xor IntKind.u8 ((P.toNat : Int) / 128) (bits BinOp.and IntKind.u8 (q : Int) 1) == 1) = true := by assumption
            rw [HI.out] at hy
            go_round
            case rel => exact ⟨j + 1, by omega, by go_num, by rw [HP.out, Crc.yes_go _ _ hy], by rw [HH.out]⟩
            case measure => simp [intOf]; omega
          · have hy : (bits BinOp.xor IntKind.u8 ((P.toNat : Int) / 128) (bits BinOp.and IntKind.u8 (q : Int) 1) == 1) = false := by assumption
            rw [HI.out] at hy
            go_round
            case rel => exact ⟨j + 1, by omega, by go_num, by rw [HP.out, Crc.no_go _ _ hy], by rw [HH.out]⟩
            case measure => simp [intOf]; omega
        · obtain rfl : j = 8 := by omega
          go_wp2_with fail
          go_round
          case rel => exact ⟨k + 1, by omega, by go_num, by rw [HS.out]; rfl⟩
          case measure => simp [intOf]; omega
    · have hke : k = len := by omega
      have HT := Lib.hid (show xs.take k = xs by rw [List.take_of_length_le]; have := HL.out; omega)
      clear hke
      go_wp2_with fail
      rw [HT.out, Crc.not_go]
      refine (rev8_any _ _).mono ?_
      rintro e w' ⟨rfl, rfl⟩
      go_wp2_with fail
      go_ret
      exact ⟨rfl, rfl⟩
end Go.Proofs.YtplcdjdmkmdddaaDoor
