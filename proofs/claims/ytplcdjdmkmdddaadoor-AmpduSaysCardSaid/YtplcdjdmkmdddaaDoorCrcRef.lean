/-
  The reference's sum.
-/
import Derived.Test.YtplcdjdmkmdddaaDoorCrcPlain
namespace Go.Proofs.YtplcdjdmkmdddaaDoor
open Go.ChangeShapes Go.WideShapes Go.ChangeAt Go.RowKit
set_option linter.unusedVariables false

set_option maxHeartbeats 400000 in
theorem refSum_any (a : Option Addr) (len cap : Nat) (xs : List UInt8) (w : World) (h : Row w 1 a len cap (xs.map u8v)) :
    Calls Tryd.prog 30 #[.slice a len cap] w fun e w' => e = .returned (.int .u8 ((Crc.sum xs).toNat : Int)) ∧ w = w' := by
  have hm := h.len_le
  have HL := Lib.hid (show xs.length = len by simpa using h.1)
  go_enter Tryd.func30, Tryd.ntmps30
  go_wp2_with fail
  go_loop [3, 4, 5, 6] (fun r i jj is => ∃ k : Nat, k ≤ len ∧ i = .int .i64 k ∧ r = .int .i64 ((Crc.run 255#8 (xs.take k)).toNat : Int)) (fun _ i _ _ => len - (intOf i).toNat)
  case atStart => exact ⟨0, Nat.zero_le _, rfl, rfl⟩
  case round =>
    obtain ⟨k, hk, rfl, rfl⟩ := hrel
    by_cases hlt : k < len
    · obtain ⟨h1, h2, h3, h4, h5⟩ := h
      obtain ⟨b, off, rfl, hb, hc⟩ := h5 (by omega)
      have hkx : k < xs.length := by rw [HL.out]; exact hlt
      have hcell : w.cell? ⟨b, off + k, none⟩ = some (.int .u8 ((xs[k]'hkx).toBitVec.toNat : Int)) := by
        apply hc; simp [u8v, List.getElem?_eq_getElem hkx]
      have HS := Lib.hid (Crc.run_snoc 255#8 xs k hkx)
      generalize Crc.run 255#8 (xs.take k) = R at *
      generalize (xs[k]'hkx).toBitVec = X at *
      have hX : X.toNat < 256 := X.isLt
      clear hc h4 h1
      go_wp2_with fail
      go_loop [3, 5, 6] (fun r j is => ∃ jn : Nat, jn ≤ 8 ∧ j = .int .i64 jn ∧ r = .int .i64 ((Crc.part R X jn).toNat : Int)) (fun _ j _ => 8 - (intOf j).toNat)
      case atStart => exact ⟨0, Nat.zero_le _, rfl, rfl⟩
      case round =>
        obtain ⟨j, hj, rfl, rfl⟩ := hrel
        have hp8 : (Crc.part R X j).toNat < 256 := (Crc.part R X j).isLt
        by_cases hlt : j < 8
        · have HP := Lib.hid (Crc.part_succ R X j hlt)
          generalize Crc.part R X j = P at *
          have HI := Lib.hid (Crc.is64_go P X j)
          go_wp2_with fail
          · have hy : (bits BinOp.xor IntKind.i64 (bits BinOp.and IntKind.i64 ((P.toNat : Int) / 128) 1) (bits BinOp.and IntKind.i64 ((X.toNat : Int) / 2 ^ j) 1) == 1) = true := by assumption
            rw [HI.out] at hy
            go_round
            case rel => exact ⟨j + 1, by omega, by go_num, by rw [HP.out, Crc.yes64_go _ _ hy]⟩
            case measure => simp [intOf]; omega
          · have hy : (bits BinOp.xor IntKind.i64 (bits BinOp.and IntKind.i64 ((P.toNat : Int) / 128) 1) (bits BinOp.and IntKind.i64 ((X.toNat : Int) / 2 ^ j) 1) == 1) = false := by assumption
            rw [HI.out] at hy
            go_round
            case rel => exact ⟨j + 1, by omega, by go_num, by rw [HP.out, Crc.no64_go _ _ hy]⟩
            case measure => simp [intOf]; omega
        · obtain rfl : j = 8 := by omega
          go_wp2_with fail
          go_round
          case rel => exact ⟨k + 1, by omega, by go_num, by rw [HS.out]; rfl⟩
          case measure => simp [intOf]; omega
    · have hke : k = len := by omega
      have HT := Lib.hid (show xs.take k = xs by rw [List.take_of_length_le]; have := HL.out; omega)
      clear hke
      go_wp2_with fail
      rw [HT.out]
      have HF := Lib.hid (show ((Crc.mirror (Crc.run 255#8 xs) 8 : Nat) : Int) = ((Crc.sum xs).toNat : Int) by rw [Crc.mirror_all]; rfl)
      generalize Crc.run 255#8 xs = R at *
      have hR : R.toNat < 256 := R.isLt
      go_loop [7, 8] (fun out i => ∃ k : Nat, k ≤ 8 ∧ i = .int .i64 k ∧ out = .int .i64 (Crc.mirror R k : Nat)) (fun _ i => 8 - (intOf i).toNat)
      case atStart => exact ⟨0, by omega, rfl, rfl⟩
      case round =>
        obtain ⟨k, hk, rfl, rfl⟩ := hrel
        have hlt8 := Crc.mirror_lt R k
        by_cases hlt : k < 8
        · have HT := Lib.hid (Crc.mirror_test R k)
          have HO := Lib.hid (Crc.mirror_or R k)
          have HM : Hid _ := Lib.hid (show Crc.mirror R (k + 1) = if R.toNat / 2 ^ k % 2 = 0 then Crc.mirror R k ||| (128 / 2 ^ k) else Crc.mirror R k from rfl)
          generalize Crc.mirror R k = M at *
          go_wp2_with fail
          · have hy : (bits BinOp.and IntKind.i64 ((R.toNat : Int) / 2 ^ k) 1 == 0) = true := by assumption
            rw [HT.out] at hy
            go_round
            case rel => exact ⟨k + 1, by omega, by go_num, by rw [HO.out, HM.out, if_pos (by simpa using hy)]⟩
            case measure => simp [intOf]; omega
          · have hy : (bits BinOp.and IntKind.i64 ((R.toNat : Int) / 2 ^ k) 1 == 0) = false := by assumption
            rw [HT.out] at hy
            go_round
            case rel => exact ⟨k + 1, by omega, by go_num, by rw [HM.out, if_neg (by simpa using hy)]⟩
            case measure => simp [intOf]; omega
        · obtain rfl : k = 8 := by omega
          generalize Crc.mirror R 8 = M at *
          go_wp2_with fail
          go_ret
          exact ⟨ret_u8 HF.out, rfl⟩
end Go.Proofs.YtplcdjdmkmdddaaDoor
