/-
  Crc  CrcRef  Clone  Bytes  See  Fits.
-/
import Derived.Test.YtoagmehgiaamlaaDoorMa
namespace Go.Proofs.YtoagmehgiaamlaaDoor
open Go.ChangeShapes Go.WideShapes Go.ChangeAt Go.RowKit
set_option linter.unusedVariables false


set_option maxRecDepth 100000 in
set_option maxHeartbeats 400000 in
theorem rev8_any (x : BitVec 8) (w : World) :
    Calls Tryd.prog 80 #[.int .u8 (x.toNat : Int)] w fun e w' => e = .returned (.int .u8 ((Crc.rev x).toNat : Int)) ∧ w = w' := by
  have hx : x.toNat < 256 := x.isLt
  go_enter Tryd.func80, Tryd.ntmps80
  go_wp2_with fail
  go_ret
  refine ⟨ret_u8 ?_, rfl⟩
  clear hx w
  revert x
  decide +kernel

set_option maxHeartbeats 400000 in
theorem crcSum_any (a : Option Addr) (len cap : Nat) (xs : List UInt8) (w : World) (h : Row w 1 a len cap (xs.map u8v)) :
    Calls Tryd.prog 76 #[.slice a len cap] w fun e w' => e = .returned (.int .u8 ((Crc.sum xs).toNat : Int)) ∧ w = w' := by
  have hm := h.len_le
  have HL := Lib.hid (show xs.length = len by simpa using h.1)
  go_enter Tryd.func76, Tryd.ntmps76
  go_wp2_with fail
  go_loop [3, 5, 6, 9] (fun r x is i => ∃ k : Nat, k ≤ len ∧ i = .int .i64 k ∧ r = .int .u8 ((Crc.run 255#8 (xs.take k)).toNat : Int)) (fun _ _ _ i => len - (intOf i).toNat)
  case atStart => exact ⟨0, Nat.zero_le _, rfl, rfl⟩
  case round =>
    obtain ⟨k, hk, rfl, rfl⟩ := hrel
    by_cases hlt : k < len
    · obtain ⟨h1, h2, h3, h4, h5⟩ := h
      obtain ⟨b, off, rfl, hb, hc⟩ := h5 (by omega)
      have hkx : k < xs.length := by rw [HL.out]; exact hlt
      have hcell : w.cell? ⟨b, off + k, none⟩ = some (.int .u8 ((xs[k]'hkx).toBitVec.toNat : Int)) := by
        apply hc; simp [u8v, List.getElem?_eq_getElem hkx]
      have HS := Lib.hid (Crc.run_snoc 255#8 xs k hkx)
      generalize Crc.run 255#8 (xs.take k) = R at *
      generalize (xs[k]'hkx).toBitVec = X at *
      clear hc h4 h1
      go_wp2_with fail
      go_loop [3, 5, 6, 13] (fun r x is i => ∃ j : Nat, j ≤ 8 ∧ i = .int .i64 j ∧ r = .int .u8 ((Crc.part R X j).toNat : Int) ∧ x = .int .u8 ((X.toNat / 2 ^ j : Nat) : Int)) (fun _ _ _ i => 8 - (intOf i).toNat)
      case atStart => exact ⟨0, Nat.zero_le _, rfl, rfl, by simp⟩
      case round =>
        obtain ⟨j, hj, rfl, rfl, rfl⟩ := hrel
        have hm8 : X.toNat / 2 ^ j < 256 := Nat.lt_of_le_of_lt (Nat.div_le_self _ _) X.isLt
        have hp8 : (Crc.part R X j).toNat < 256 := (Crc.part R X j).isLt
        by_cases hlt : j < 8
        · have HP := Lib.hid (Crc.part_succ R X j hlt)
          have HH := Lib.hid (Crc.half X.toNat j)
          have HI := Lib.hid (Crc.is_go (Crc.part R X j) _ hm8)
          generalize Crc.part R X j = P at *
          generalize hq : X.toNat / 2 ^ j = q at *
          clear hq
          go_wp2_with fail
          · have hy : (bits BinOp.xor IntKind.u8 ((P.toNat : Int) / 128) (bits BinOp.and IntKind.u8 (q : Int) 1) == 1) = true := by assumption
            rw [HI.out] at hy
            go_round
            case rel => exact ⟨j + 1, by omega, by go_num, by rw [HP.out, Crc.yes_go _ _ hy], by rw [HH.out]⟩
            case measure => simp [intOf]; omega
          · have hy : (bits BinOp.xor IntKind.u8 ((P.toNat : Int) / 128) (bits BinOp.and IntKind.u8 (q : Int) 1) == 1) = false := by assumption
            rw [HI.out] at hy
            go_round
            case rel => exact ⟨j + 1, by omega, by go_num, by rw [HP.out, Crc.no_go _ _ hy], by rw [HH.out]⟩
            case measure => simp [intOf]; omega
        · obtain rfl : j = 8 := by omega
          go_wp2_with fail
          go_round
          case rel => exact ⟨k + 1, by omega, by go_num, by rw [HS.out]; rfl⟩
          case measure => simp [intOf]; omega
    · have hke : k = len := by omega
      have HT := Lib.hid (show xs.take k = xs by rw [List.take_of_length_le]; have := HL.out; omega)
      clear hke
      go_wp2_with fail
      rw [HT.out, Crc.not_go]
      refine (rev8_any _ _).mono ?_
      rintro e w' ⟨rfl, rfl⟩
      go_wp2_with fail
      go_ret
      exact ⟨rfl, rfl⟩
end Go.Proofs.YtoagmehgiaamlaaDoor

namespace Go.Proofs.YtoagmehgiaamlaaDoor
open Go.ChangeShapes Go.WideShapes Go.ChangeAt Go.RowKit
set_option linter.unusedVariables false

set_option maxHeartbeats 400000 in
theorem refSum_any (a : Option Addr) (len cap : Nat) (xs : List UInt8) (w : World) (h : Row w 1 a len cap (xs.map u8v)) :
    Calls Tryd.prog 44 #[.slice a len cap] w fun e w' => e = .returned (.int .u8 ((Crc.sum xs).toNat : Int)) ∧ w = w' := by
  have hm := h.len_le
  have HL := Lib.hid (show xs.length = len by simpa using h.1)
  go_enter Tryd.func44, Tryd.ntmps44
  go_wp2_with fail
  go_loop [3, 4, 5, 6] (fun r i jj is => ∃ k : Nat, k ≤ len ∧ i = .int .i64 k ∧ r = .int .i64 ((Crc.run 255#8 (xs.take k)).toNat : Int)) (fun _ i _ _ => len - (intOf i).toNat)
  case atStart => exact ⟨0, Nat.zero_le _, rfl, rfl⟩
  case round =>
    obtain ⟨k, hk, rfl, rfl⟩ := hrel
    by_cases hlt : k < len
    · obtain ⟨h1, h2, h3, h4, h5⟩ := h
      obtain ⟨b, off, rfl, hb, hc⟩ := h5 (by omega)
      have hkx : k < xs.length := by rw [HL.out]; exact hlt
      have hcell : w.cell? ⟨b, off + k, none⟩ = some (.int .u8 ((xs[k]'hkx).toBitVec.toNat : Int)) := by
        apply hc; simp [u8v, List.getElem?_eq_getElem hkx]
      have HS := Lib.hid (Crc.run_snoc 255#8 xs k hkx)
      generalize Crc.run 255#8 (xs.take k) = R at *
      generalize (xs[k]'hkx).toBitVec = X at *
      have hX : X.toNat < 256 := X.isLt
      clear hc h4 h1
      go_wp2_with fail
      go_loop [3, 5, 6] (fun r j is => ∃ jn : Nat, jn ≤ 8 ∧ j = .int .i64 jn ∧ r = .int .i64 ((Crc.part R X jn).toNat : Int)) (fun _ j _ => 8 - (intOf j).toNat)
      case atStart => exact ⟨0, Nat.zero_le _, rfl, rfl⟩
      case round =>
        obtain ⟨j, hj, rfl, rfl⟩ := hrel
        have hp8 : (Crc.part R X j).toNat < 256 := (Crc.part R X j).isLt
        by_cases hlt : j < 8
        · have HP := Lib.hid (Crc.part_succ R X j hlt)
          generalize Crc.part R X j = P at *
          have HI := Lib.hid (Crc.is64_go P X j)
          go_wp2_with fail
          · have hy : (bits BinOp.xor IntKind.i64 (bits BinOp.and IntKind.i64 ((P.toNat : Int) / 128) 1) (bits BinOp.and IntKind.i64 ((X.toNat : Int) / 2 ^ j) 1) == 1) = true := by assumption
            rw [HI.out] at hy
            go_round
            case rel => exact ⟨j + 1, by omega, by go_num, by rw [HP.out, Crc.yes64_go _ _ hy]⟩
            case measure => simp [intOf]; omega
          · have hy : (bits BinOp.xor IntKind.i64 (bits BinOp.and IntKind.i64 ((P.toNat : Int) / 128) 1) (bits BinOp.and IntKind.i64 ((X.toNat : Int) / 2 ^ j) 1) == 1) = false := by assumption
            rw [HI.out] at hy
            go_round
            case rel => exact ⟨j + 1, by omega, by go_num, by rw [HP.out, Crc.no64_go _ _ hy]⟩
            case measure => simp [intOf]; omega
        · obtain rfl : j = 8 := by omega
          go_wp2_with fail
          go_round
          case rel => exact ⟨k + 1, by omega, by go_num, by rw [HS.out]; rfl⟩
          case measure => simp [intOf]; omega
    · have hke : k = len := by omega
      have HT := Lib.hid (show xs.take k = xs by rw [List.take_of_length_le]; have := HL.out; omega)
      clear hke
      go_wp2_with fail
      rw [HT.out]
      have HF := Lib.hid (show ((Crc.mirror (Crc.run 255#8 xs) 8 : Nat) : Int) = ((Crc.sum xs).toNat : Int) by rw [Crc.mirror_all]; rfl)
      generalize Crc.run 255#8 xs = R at *
      have hR : R.toNat < 256 := R.isLt
      go_loop [7, 8] (fun out i => ∃ k : Nat, k ≤ 8 ∧ i = .int .i64 k ∧ out = .int .i64 (Crc.mirror R k : Nat)) (fun _ i => 8 - (intOf i).toNat)
      case atStart => exact ⟨0, by omega, rfl, rfl⟩
      case round =>
        obtain ⟨k, hk, rfl, rfl⟩ := hrel
        have hlt8 := Crc.mirror_lt R k
        by_cases hlt : k < 8
        · have HT := Lib.hid (Crc.mirror_test R k)
          have HO := Lib.hid (Crc.mirror_or R k)
          have HM : Hid _ := Lib.hid (show Crc.mirror R (k + 1) = if R.toNat / 2 ^ k % 2 = 0 then Crc.mirror R k ||| (128 / 2 ^ k) else Crc.mirror R k from rfl)
          generalize Crc.mirror R k = M at *
          go_wp2_with fail
          · have hy : (bits BinOp.and IntKind.i64 ((R.toNat : Int) / 2 ^ k) 1 == 0) = true := by assumption
            rw [HT.out] at hy
            go_round
            case rel => exact ⟨k + 1, by omega, by go_num, by rw [HO.out, HM.out, if_pos (by simpa using hy)]⟩
            case measure => simp [intOf]; omega
          · have hy : (bits BinOp.and IntKind.i64 ((R.toNat : Int) / 2 ^ k) 1 == 0) = false := by assumption
            rw [HT.out] at hy
            go_round
            case rel => exact ⟨k + 1, by omega, by go_num, by rw [HM.out, if_neg (by simpa using hy)]⟩
            case measure => simp [intOf]; omega
        · obtain rfl : k = 8 := by omega
          generalize Crc.mirror R 8 = M at *
          go_wp2_with fail
          go_ret
          exact ⟨ret_u8 HF.out, rfl⟩
end Go.Proofs.YtoagmehgiaamlaaDoor

namespace Go.Proofs.YtoagmehgiaamlaaDoor
open Go.ChangeShapes Go.WideShapes Go.ChangeAt Go.RowKit
set_option linter.unusedVariables false

set_option maxHeartbeats 400000 in
theorem clone_any (a : Option Addr) (len cap : Nat) (xs : List UInt8) (w : World) (h : Row w 1 a len cap (xs.map u8v)) (hl : len ≤ 1048576) :
    Calls Tryd.prog 49 #[.slice a len cap] w fun e w' => GivesU8 w xs e w' ∧ (a = none → e = .returned (.slice none 0 0)) := by
  have hm := h.len_le
  rcases a with _ | a
  · have h0 : cap = 0 := h.2.2.2.1 rfl
    have h1 : len = 0 := by have := h.2.1; omega
    have h2 : xs = [] := List.eq_nil_of_length_eq_zero (by simpa [h1] using h.1)
    subst h0 h1 h2
    have hn := fun (w : World) => Lib.run_eql_slice_nil (P := Tryd.prog) w 22 5 none 0 0 0 0 Tryd.underlying22
    go_enter Tryd.func49, Tryd.ntmps49
    go_wp2_with fail
    go_ret
    exact ⟨⟨none, 0, 0, rfl, ownU8_nil _ _, Below.refl _ _⟩, fun _ => rfl⟩
  · have hn := fun (w : World) => Lib.run_eql_slice_nil (P := Tryd.prog) w 22 5 (some a) len cap 0 0 Tryd.underlying22
    go_enter Tryd.func49, Tryd.ntmps49
    go_wp2_with (at_builtin; refine append_u8 _ rfl (.tmp 5) (.tmp 6) rfl w.heap.size _ 0 0 [] rfl (ownU8_made w) (some a) len cap xs rfl (h.alloc _) (by omega) (by simp) ?_; intro A2 C2 w2 hown2 hg2 hat2)
    go_ret
    refine ⟨⟨_, _, _, rfl, by simpa using hown2, below_grown ((Below.refl _ _).alloc (Nat.le_refl _) _) (ownU8_made w) (Nat.le_refl _) (by simp) hg2⟩, fun e => by cases e⟩
end Go.Proofs.YtoagmehgiaamlaaDoor

namespace Go.Proofs.YtoagmehgiaamlaaDoor
open Go.ChangeShapes Go.WideShapes Go.ChangeAt Go.RowKit
set_option linter.unusedVariables false

theorem take_snoc {xs : List UInt8} {k : Nat} (h : k < xs.length) : xs.take (k + 1) = xs.take k ++ [xs[k]] := List.take_succ_eq_append_getElem h

set_option maxHeartbeats 400000 in
theorem bytes_any (a : Option Addr) (len cap : Nat) (xs : List UInt8) (w : World) (h : Row w 1 a len cap (xs.map u8v)) (hl : len ≤ 1048576) :
    Calls Tryd.prog 56 #[.slice a len cap] w fun e w' => GivesU8 w xs e w' := by
  have hm := h.len_le
  have HL := Lib.hid (show xs.length = len by simpa using h.1)
  have hlt0 := fun (b : Nat) (hb : 0 < len ∧ blk a = some b) => (show b < w.heap.size by obtain ⟨b', off, ha, h1, _⟩ := h.at_ hb.1; rw [ha] at hb; simp [blk] at hb; omega)
  go_enter Tryd.func56, Tryd.ntmps56
  go_wp2_with (at_make; refine make_u8 _ rfl _ _ rfl .i64 .i64 len rfl rfl (by omega) ?_; intro w1 hown1 hg1)
  have hb1 : Below w.heap.size w w1 := (Below.refl _ _).grown hg1 (Nat.le_refl _) (by simp)
  clear hg1
  go_loopw [3, 4] (fun out i wr => ∃ k : Nat, k ≤ len ∧ i = .int .i64 k ∧ ∃ A C, out = .slice A k C ∧ OwnU8 wr w.heap.size A k C (xs.take k) ∧ Below w.heap.size w wr) (fun _ i _ => len - (intOf i).toNat)
  case atStart => exact ⟨0, Nat.zero_le _, rfl, _, _, rfl, hown1, hb1⟩
  case round =>
    obtain ⟨k, hk, rfl, A, C, rfl, hown, hbw⟩ := hrel
    by_cases hlt : k < len
    · obtain ⟨b1, off1, rfl, hb1, hc1⟩ := h.at_ (by omega)
      have hkx : k < xs.length := by rw [HL.out]; exact hlt
      have hcell1 : wr.cell? ⟨b1, off1 + k, none⟩ = some (.int .u8 ((xs[k]'hkx).toNat : Int)) := (hbw.cell (p := ⟨b1, off1 + k, none⟩) hb1).trans (hc1 k _ (u8_get hkx))
      have HS := Lib.hid (take_snoc hkx)
      generalize (xs[k]'hkx) = X at *
      clear hc1
      have hsz := hbw.size
      go_wp2_with (at_builtin; refine append_u8 _ rfl (.tmp 14) (.tmp 19) rfl w.heap.size A k C _ rfl (hown.alloc _) _ 1 1 [X] rfl (row_one _ _ _) (by omega) (by simp; omega) ?_; intro A2 C2 w2 hown2 hg2 hat2)
      go_roundw
      case rel => exact ⟨k + 1, by omega, by go_num, A2, C2, rfl, by rw [HS.out]; exact hown2, below_grown (hbw.alloc hsz _) (hown.alloc _) (Nat.le_refl _) (by simp; omega) hg2⟩
      case measure => simp [intOf]; omega
    · have hke : k = len := by omega
      have HF := Lib.hid (show xs.take k = xs by rw [List.take_of_length_le]; rw [HL.out]; omega)
      clear hke
      go_wp2_with fail
      go_ret
      exact ⟨_, _, _, rfl, by rw [← HF.out]; exact hown, hbw⟩
end Go.Proofs.YtoagmehgiaamlaaDoor

namespace Go.Proofs.YtoagmehgiaamlaaDoor
open Go.ChangeShapes Go.WideShapes Go.ChangeAt Go.RowKit
set_option linter.unusedVariables false

/-- a fault as a value -/
def faultV (code : Int) (placed : Bool) (pos : Int) : Value := .agg #[.int .i64 code, .bool placed, .int .i64 pos]

set_option maxHeartbeats 400000 in
theorem none_any (w : World) : Calls Tryd.prog 31 #[] w fun e w' => e = .returned (.agg #[.int .i64 0, .bool false, .int .i64 0]) ∧ Below w.heap.size w w' := by
  go_enter Tryd.func31, Tryd.ntmps31
  go_wp2_with fail
  exact bodyPost_ret (v := .agg #[.int .i64 0, .bool false, .int .i64 0]) (by simp [results, Tryd.results31, go_sem]) rfl ⟨rfl, (Below.refl _ _).alloc (Nat.le_refl _) _⟩

set_option maxHeartbeats 400000 in
theorem bare_any (n : Int) (w : World) : Calls Tryd.prog 32 #[.int .i64 n] w fun e w' => e = .returned (.agg #[.int .i64 n, .bool false, .int .i64 0]) ∧ Below w.heap.size w w' := by
  go_enter Tryd.func32, Tryd.ntmps32
  go_wp2_with fail
  exact bodyPost_ret (v := .agg #[.int .i64 n, .bool false, .int .i64 0]) (by simp [results, Tryd.results32, go_sem]) rfl ⟨rfl, (Below.refl _ _).alloc (Nat.le_refl _) _⟩

set_option maxHeartbeats 400000 in
theorem sameFault_any (a a' : Int) (w : World) : Calls Tryd.prog 29 #[.agg #[.int .i64 a, .bool false, .int .i64 0], .agg #[.int .i64 a', .bool false, .int .i64 0]] w
    fun e w' => e = .returned (.bool (a == a')) ∧ Below w.heap.size w w' := by
  by_cases h : a = a'
  · subst h
    go_enter Tryd.func29, Tryd.ntmps29
    go_wp2_with fail
    go_ret
    exact ⟨ret_bool (by simp), ((Below.refl _ _).alloc (Nat.le_refl _) _).alloc (by simp) _⟩
  · have hf : (a == a') = false := by simp [h]
    go_enter Tryd.func29, Tryd.ntmps29
    go_wp2_with fail
    go_ret
    exact ⟨ret_bool (by simp [h]), ((Below.refl _ _).alloc (Nat.le_refl _) _).alloc (by simp) _⟩

set_option maxHeartbeats 400000 in
theorem alike_any {w : World} {E : Nat → Addr} (h : Errs allErr w E) (i j : Nat) (hi : i ∈ allErr) (hj : j ∈ allErr) :
    Calls Tryd.prog 75 #[.iface 122 (.pointer (some (E i))), .iface 122 (.pointer (some (E j)))] w fun e w' => e = .returned (.bool (decide (i = j))) ∧ w = w' := by
  by_cases hij : i = j
  · subst hij
    have he := err_same (E i) w
    go_enter Tryd.func75, Tryd.ntmps75
    go_wp2_with fail
    go_ret
    exact ⟨by simp, rfl⟩
  · have he := err_other h hi hj hij
    go_enter Tryd.func75, Tryd.ntmps75
    go_wp2_with fail
    go_ret
    exact ⟨by simp [hij], rfl⟩

theorem sentinels_any {w : World} {E : Nat → Addr} (h : Errs allErr w E) :
    Calls Tryd.prog 74 #[] w fun e w' => ∃ a, e = .returned (.slice a 14 14) ∧ Row w' 1 a 14 14 ((List.range 14).map (errV E)) ∧ Below w.heap.size w w' := by
  have h0 := h.at_ 0 2 (by decide) rfl
  have h1 := h.at_ 1 1 (by decide) rfl
  have h2 := h.at_ 2 5 (by decide) rfl
  have h3 := h.at_ 3 3 (by decide) rfl
  have h4 := h.at_ 4 4 (by decide) rfl
  have h5 := h.at_ 5 8 (by decide) rfl
  have h6 := h.at_ 6 9 (by decide) rfl
  have h7 := h.at_ 7 10 (by decide) rfl
  have h8 := h.at_ 8 11 (by decide) rfl
  have h9 := h.at_ 9 0 (by decide) rfl
  have h10 := h.at_ 10 6 (by decide) rfl
  have h11 := h.at_ 11 7 (by decide) rfl
  have h12 := h.at_ 12 12 (by decide) rfl
  have h13 := h.at_ 13 13 (by decide) rfl
  go_enter Tryd.func74, Tryd.ntmps74
  go_wp2_with fail
  go_ret
  refine ⟨_, rfl, ?_, (Below.refl _ _).alloc (Nat.le_refl _) _⟩
  rcases row_new w ((List.range 14).map (errV E)).toArray 42 with hr | hr
  · exact hr
  · simp [maxLen] at hr

set_option maxHeartbeats 400000 in
theorem sentinel_any {w : World} {E : Nat → Addr} (h : Errs allErr w E) (i : Nat) (hi : i ∈ allErr) :
    Calls Tryd.prog 54 #[.iface 122 (.pointer (some (E i)))] w fun e w' => e = .returned (.int .i64 (101 + (i : Int))) ∧ Below w.heap.size w w' := by
  have hi14 : i < 14 := by simp [allErr] at hi; omega
  have HI := Lib.hid hi
  clear hi
  go_enter Tryd.func54, Tryd.ntmps54
  go_wp2_with fail
  refine (sentinels_any h).mono ?_
  rintro e w1 ⟨a, rfl, hr, hb⟩
  have h1 := h.below hb (Nat.le_refl _)
  obtain ⟨b, off, rfl, hlt, hc⟩ := hr.at_ (by omega)
  go_wp2_with fail
  go_loop [2, 4] (fun r k => ∃ j : Nat, j ≤ i ∧ k = .int .i64 j) (fun _ k => 14 - (intOf k).toNat)
  case atStart => exact ⟨0, Nat.zero_le _, rfl⟩
  case round =>
    obtain ⟨j, hj, rfl⟩ := hrel
    have hcell : w1.cell? ⟨b, off + j, none⟩ = some (.iface 122 (.pointer (some (E j)))) := hc j _ (by simp [List.getElem?_range (show j < 14 by omega), errV])
    have hj14 : j < 14 := by omega
    clear hc
    have hjm : j ∈ allErr := by simp [allErr]; omega
    go_wp2_with fail
    refine (alike_any h1 i j HI.out hjm).mono ?_
    rintro e w2 ⟨rfl, rfl⟩
    by_cases hij : i = j
    · subst hij
      have hd : decide (i = i) = true := by simp
      rw [hd]
      go_wp2_with fail
      go_ret
      exact ⟨rfl, hb⟩
    · have hd : decide (i = j) = false := by simp [hij]
      rw [hd]
      go_wp2_with fail
      go_round
      case rel => exact ⟨j + 1, by omega, by go_num⟩
      case measure => simp [intOf]; omega

theorem not_at (a : Addr) (w : World) : (Instr.typeAssert (.iface 122 (.pointer (some a))) 42 72 true).run Tryd.prog w = .ok (.tuple #[.pointer none, .bool false]) w := by kernel_rfl
set_option maxHeartbeats 400000 in
theorem fault_any {w : World} {E : Nat → Addr} (h : Errs allErr w E) (o : Option Nat) (ho : ∀ i, o = some i → i ∈ allErr) :
    Calls Tryd.prog 30 #[errO E o] w fun e w' => e = .returned (.agg #[.int .i64 (errCode o), .bool false, .int .i64 0]) ∧ Below w.heap.size w w' := by
  rcases o with _ | i
  · unfold errO
    go_enter Tryd.func30, Tryd.ntmps30
    go_wp2_with fail
    refine (none_any _).mono ?_
    rintro e w1 ⟨rfl, hb⟩
    have hk := Blk.made hb
    have c0 : w1.cell? ⟨w.heap.size, 0, none⟩ = some (.int .i64 0) := hk.cell 0
    have c1 : w1.cell? ⟨w.heap.size, 1, none⟩ = some (.bool false) := hk.cell 1
    have c2 : w1.cell? ⟨w.heap.size, 2, none⟩ = some (.int .i64 0) := hk.cell 2
    have f0 := hk.frozen 0
    have f1 := hk.frozen 1
    have f2 := hk.frozen 2
    clear hk
    go_wp2_with fail
    exact bodyPost_ret (v := .agg #[.int .i64 0, .bool false, .int .i64 0]) (by simp [results, Tryd.results30, go_sem, c0, c1, c2]) rfl
      ⟨rfl, (((((Below.refl _ _).alloc (Nat.le_refl _) _).trans (hb.mono (by simp))).setCell (p := ⟨w.heap.size, 0, none⟩) (Nat.le_refl _) _).setCell (p := ⟨w.heap.size, 1, none⟩) (Nat.le_refl _) _).setCell (p := ⟨w.heap.size, 2, none⟩) (Nat.le_refl _) _⟩
  · have hi := ho i rfl
    unfold errO errV
    have hta := not_at (E i)
    go_enter Tryd.func30, Tryd.ntmps30
    go_wp2_with fail
    refine (sentinel_any (h.alloc _) i hi).mono ?_
    rintro e w1 ⟨rfl, hb⟩
    have hk := Blk.made hb
    have hsz := hb.size
    simp only [World.size_alloc] at hsz
    go_wp2_with fail
    refine (bare_any _ _).mono ?_
    rintro e w2 ⟨rfl, hb2⟩
    have hk2 := hk.below hb2 (by omega)
    have c0 : w2.cell? ⟨w.heap.size, 0, none⟩ = some (.int .i64 0) := hk2.cell 0
    have c1 : w2.cell? ⟨w.heap.size, 1, none⟩ = some (.bool false) := hk2.cell 1
    have c2 : w2.cell? ⟨w.heap.size, 2, none⟩ = some (.int .i64 0) := hk2.cell 2
    have f0 := hk2.frozen 0
    have f1 := hk2.frozen 1
    have f2 := hk2.frozen 2
    clear hk hk2
    go_wp2_with fail
    exact bodyPost_ret (v := .agg #[.int .i64 (101 + (i : Int)), .bool false, .int .i64 0]) (by simp [results, Tryd.results30, go_sem, c0, c1, c2]) rfl
      ⟨rfl, ((((((Below.refl _ _).alloc (Nat.le_refl _) _).trans (hb.mono (by simp))).trans (hb2.mono (by omega))).setCell (p := ⟨w.heap.size, 0, none⟩) (Nat.le_refl _) _).setCell (p := ⟨w.heap.size, 1, none⟩) (Nat.le_refl _) _).setCell (p := ⟨w.heap.size, 2, none⟩) (Nat.le_refl _) _⟩

/-- what stays while Same holds its fault in a variable of its own (block n) -/
abbrev SameS (w : World) (E : Nat → Addr) (code : Int) (w' : World) : Prop :=
  w'.cell? ⟨w.heap.size, 0, none⟩ = some (.int .i64 code) ∧ w'.cell? ⟨w.heap.size, 1, none⟩ = some (.bool false) ∧ w'.cell? ⟨w.heap.size, 2, none⟩ = some (.int .i64 0) ∧ Errs allErr w' E ∧ Below w.heap.size w w' ∧ w.heap.size < w'.heap.size
theorem sameS_errs {w w' : World} {E : Nat → Addr} {code : Int} (h : SameS w E code w') : Errs allErr w' E := h.2.2.2.1
theorem sameS_keep {w w' w1 : World} {E : Nat → Addr} {code : Int} (h : SameS w E code w') (hb : Below w'.heap.size w' w1) : SameS w E code w1 := by
  obtain ⟨h0, h1, h2, h3, h4, h5⟩ := h
  exact ⟨(hb.cell h5).trans h0, (hb.cell h5).trans h1, (hb.cell h5).trans h2, h3.below hb (Nat.le_refl _), h4.trans (hb.mono (by omega)), by have := hb.size; omega⟩

set_option maxHeartbeats 400000 in
theorem same_any {w : World} {E : Nat → Addr} (h : Errs allErr w E) (o : Option Nat) (ho : ∀ i, o = some i → i ∈ allErr) (code : Int) :
    Calls Tryd.prog 12 #[errO E o, .agg #[.int .i64 code, .bool false, .int .i64 0]] w fun e w' => e = .returned (.bool (errCode o == code)) ∧ Below w.heap.size w w' := by
  have hS0 : SameS w E code (w.alloc (.cells #[.int .i64 code, .bool false, .int .i64 0] 47)).drew :=
    ⟨by simp, by simp, by simp, (h.alloc _).drew, ((Below.refl _ _).alloc (Nat.le_refl _) _).drew, by simp⟩
  go_enter Tryd.func12, Tryd.ntmps12
  go_wp2_with fail
  go_region_held3 (fun w' => w'.cell? ⟨w.heap.size, 0, none⟩ = some (.int .i64 code) ∧ w'.cell? ⟨w.heap.size, 1, none⟩ = some (.bool false) ∧ w'.cell? ⟨w.heap.size, 2, none⟩ = some (.int .i64 0) ∧ Errs allErr w' E ∧ Below w.heap.size w w' ∧ w.heap.size < w'.heap.size)
    (first | exact hS0 | (exact sameS_keep (by assumption) hb1) | (exact sameS_keep (by assumption) hb2))
    (first
      | (go_at_call 30; refine (fault_any (sameS_errs (w := w) (code := code) (by assumption)) o ho).mono ?_; rintro e w1 ⟨rfl, hb1⟩)
      | (go_at_call 29; refine (sameFault_any _ _ _).mono ?_; rintro e w2 ⟨rfl, hb2⟩))
  have hS2 : SameS w E code w2 := by assumption
  go_wp2_with fail
  go_ret
  exact ⟨rfl, hS2.2.2.2.2.1⟩

/-- IS AN ERROR THIS ONE? -/
theorem is_any {w : World} {E : Nat → Addr} (h : Errs allErr w E) (o : Option Nat) (ho : ∀ i, o = some i → i ∈ allErr) (code : Int) :
    Calls Tryd.prog 20 #[errO E o, .int .i64 code] w fun e w' => e = .returned (.bool (errCode o == code)) ∧ Below w.heap.size w w' := by
  go_enter Tryd.func20, Tryd.ntmps20
  go_wp2_with fail
  refine (bare_any _ _).mono ?_
  rintro e w1 ⟨rfl, hb1⟩
  have h1 := h.below hb1 (Nat.le_refl _)
  have hsz := hb1.size
  go_wp2_with fail
  refine (same_any h1 o ho code).mono ?_
  rintro e w2 ⟨rfl, hb2⟩
  go_wp2_with fail
  go_ret
  exact ⟨rfl, hb1.trans (hb2.mono hsz)⟩
end Go.Proofs.YtoagmehgiaamlaaDoor

namespace Go.Proofs.YtoagmehgiaamlaaDoor
open Go.ChangeShapes Go.WideShapes Go.ChangeAt Go.RowKit
set_option linter.unusedVariables false

theorem fits_pos {xs : List UInt8} {k : Nat} (h : xs.length = k + 1) (hk : k < xs.length) : Crc.fits xs = decide (xs[k] = Crc.sum (xs.take k)) := by
  unfold Crc.fits
  have hne : xs ≠ [] := by intro e; simp [e] at h
  rw [List.getLastD_eq_getLast?, List.getLast?_eq_some_getLast hne, List.getLast_eq_getElem hne, List.dropLast_eq_take]
  simp only [Option.getD_some, h, Nat.add_sub_cancel]
  rw [Bool.eq_iff_iff]; simp
theorem fits_nil : Crc.fits [] = false := rfl

set_option maxHeartbeats 400000 in
theorem fits_any (a : Option Addr) (len cap : Nat) (xs : List UInt8) (w : World) (h : Row w 1 a len cap (xs.map u8v)) :
    Calls Tryd.prog 65 #[.slice a len cap] w fun e w' => e = .returned (.bool (Crc.fits xs)) ∧ ∃ n, w' = w.drewN n := by
  have hm := h.len_cap
  have hlx : xs.length = len := by simpa using h.1
  by_cases h0 : len = 0
  · have hx : xs = [] := List.eq_nil_of_length_eq_zero (by omega)
    subst h0 hx
    have hd : decide ((0 : Int) < 0) = false := by decide
    go_enter Tryd.func65, Tryd.ntmps65
    go_wp2_with fail
    go_quiet (fail)
    go_wp2_with fail
    go_ret
    exact ⟨rfl, _, rfl⟩
  · obtain ⟨k, rfl⟩ : ∃ k, len = k + 1 := ⟨len - 1, by omega⟩
    obtain ⟨b1, off1, rfl, hb1, hc1⟩ := h.at_ (by omega)
    have hkx : k < xs.length := by omega
    have hcell1 : w.cell? ⟨b1, off1 + k, none⟩ = some (.int .u8 ((xs[k]'hkx).toNat : Int)) := hc1 k _ (u8_get hkx)
    have hr : Row w 1 (some ⟨b1, off1, none⟩) k cap ((xs.take k).map u8v) := by
      have := h.take (n := k) (by omega)
      rwa [Nat.mul_one, ← List.map_take] at this
    have HP := Lib.hid (fits_pos hlx hkx)
    generalize (xs[k]'hkx) = X at *
    clear hc1 h hlx
    have hd : decide ((0 : Int) < (k : Int) + 1) = true := by simp; try omega
    have hk0 : 0 ≤ (k : Int) := by omega
    have hk1 : (k : Int) < (k : Int) + 1 := by omega
    have hw1 : IntKind.i64.wrap ((k : Int) + 1 - 1) = k := by rw [Int.add_sub_cancel]; exact IntWalk.i64_in _ (by omega)
    go_enter Tryd.func65, Tryd.ntmps65
    go_wp2_with fail
    go_quiet ((go_at_call 76; exact quiet_same (crcSum_any _ _ _ _ _ (hr.drewN _))))
    go_wp2_with fail
    go_ret
    refine ⟨ret_bool ?_, _, rfl⟩
    rw [HP.out, toNat_beq]
end Go.Proofs.YtoagmehgiaamlaaDoor

