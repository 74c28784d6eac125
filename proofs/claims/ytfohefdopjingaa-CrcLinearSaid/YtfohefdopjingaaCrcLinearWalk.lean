/-
  The walk of CrcLinear.
-/
import Derived.Test.YtfohefdopjingaaCrcOwnWalk
import Derived.Test.YtfohefdopjingaaBytes
namespace Go.Proofs.Ytfohefdopjingaa
open Go.ChangeShapes Go.WideShapes Go.ChangeAt Go.RowKit
set_option linter.unusedVariables false

set_option maxHeartbeats 1000000 in
theorem crcLinear_walk (w : World) (a : Option Addr) (la ca : Nat) (xs : List UInt8) (ha : Row w 1 a la ca (xs.map u8v)) (b : Option Addr) (lb cb : Nat) (ys : List UInt8) (hb : Row w 1 b lb cb (ys.map u8v))
    (c : Option Addr) (lc cc : Nat) (zs : List UInt8) (hc : Row w 1 c lc cc (zs.map u8v)) :
    Calls Try.prog 6 #[.slice a la ca, .slice b lb cb, .slice c lc cc] w fun e w' => e = .returned (.bool true) ∧ Below w.heap.size w w' := by
  have hma := ha.len_cap
  have hmb := hb.len_cap
  have hmc := hc.len_cap
  obtain ⟨m, hm1, hmb1, hmc1⟩ : ∃ m : Nat, (if lc < lb then (lc : Int) else (lb : Int)) = (m : Int) ∧ m ≤ lb ∧ m ≤ lc := by
    by_cases h1 : lc < lb
    · exact ⟨lc, by rw [if_pos h1], by omega, by omega⟩
    · exact ⟨lb, by rw [if_neg h1], by omega, by omega⟩
  obtain ⟨n, hm2, hna, hnm⟩ : ∃ n : Nat, (if m < la then (m : Int) else (la : Int)) = (n : Int) ∧ n ≤ la ∧ n ≤ m := by
    by_cases h1 : m < la
    · exact ⟨m, by rw [if_pos h1], by omega, by omega⟩
    · exact ⟨la, by rw [if_neg h1], by omega, by omega⟩
  have hnb : n ≤ lb := by omega
  have hnc : n ≤ lc := by omega
  have HA := Lib.hid (show xs.length = la by simpa using ha.1)
  have HB := Lib.hid (show ys.length = lb by simpa using hb.1)
  have HC := Lib.hid (show zs.length = lc by simpa using hc.1)
  have HD := Lib.hid (Crc.linear_law (xs.take n) (ys.take n) (zs.take n) (by simp [HA.out, HB.out]; omega) (by simp [HA.out, HC.out]; omega))
  have HL3 := Lib.hid (show (Crc.xor3 (xs.take n) (ys.take n) (zs.take n)).length = n by simp [Crc.xor3, HA.out, HB.out, HC.out]; omega)
  by_cases hbig : 20 < n
  · go_enter Try.func6, Try.ntmps6
    go_wp2_with fail
    refine (first_any _).mono ?_
    rintro e w1 ⟨rfl, hbw⟩
    go_wp2_with fail
    go_ret
    exact ⟨rfl, hbw⟩
  have hn20 : n ≤ 20 := by omega
  clear hbig
  go_enter Try.func6, Try.ntmps6
  go_wp2_with fail
  refine (first_any _).mono ?_
  rintro e w1 ⟨rfl, hbw⟩
  have ha1 := ha.below hbw (Nat.le_refl _)
  have hb1 := hb.below hbw (Nat.le_refl _)
  have hc1 := hc.below hbw (Nat.le_refl _)
  have hsz := hbw.size
  go_wp2_with fail
  clear hm1 hm2
  go_loopw [9, 10] (fun d i wr => ∃ k : Nat, k ≤ n ∧ i = .int .i64 k ∧ ∃ A C, d = .slice A k C ∧ OwnU8 wr w1.heap.size A k C ((Crc.xor3 (xs.take n) (ys.take n) (zs.take n)).take k) ∧ Below w1.heap.size w1 wr) (fun _ i _ => n - (intOf i).toNat)
  case atStart => exact ⟨0, Nat.zero_le _, rfl, _, _, rfl, ownU8_nil _ _, Below.refl _ _⟩
  case round =>
    obtain ⟨k, hk, rfl, A, C, rfl, hown, hbr⟩ := hrel
    have hszr := hbr.size
    by_cases hlt : k < n
    · obtain ⟨ba, oa, rfl, hba, hca⟩ := ha1.at_ (by omega)
      obtain ⟨bb, ob, rfl, hbb, hcb⟩ := hb1.at_ (by omega)
      obtain ⟨bc, oc, rfl, hbc, hcc⟩ := hc1.at_ (by omega)
      have hkx : k < xs.length := by rw [HA.out]; omega
      have hky : k < ys.length := by rw [HB.out]; omega
      have hkz : k < zs.length := by rw [HC.out]; omega
      have c1 : wr.cell? ⟨ba, oa + k, none⟩ = some (.int .u8 ((xs[k]'hkx).toNat : Int)) := (hbr.cell (p := ⟨ba, oa + k, none⟩) hba).trans (hca k _ (u8_get hkx))
      have c2 : wr.cell? ⟨bb, ob + k, none⟩ = some (.int .u8 ((ys[k]'hky).toNat : Int)) := (hbr.cell (p := ⟨bb, ob + k, none⟩) hbb).trans (hcb k _ (u8_get hky))
      have c3 : wr.cell? ⟨bc, oc + k, none⟩ = some (.int .u8 ((zs[k]'hkz).toNat : Int)) := (hbr.cell (p := ⟨bc, oc + k, none⟩) hbc).trans (hcc k _ (u8_get hkz))
      have hk3 : k < (Crc.xor3 (xs.take n) (ys.take n) (zs.take n)).length := by rw [HL3.out]; exact hlt
      have HS := Lib.hid (take_snoc hk3)
      have HV := Lib.hid (show (Crc.xor3 (xs.take n) (ys.take n) (zs.take n))[k]'hk3 = (xs[k]'hkx) ^^^ ((ys[k]'hky) ^^^ (zs[k]'hkz)) by simp [Crc.xor3])
      generalize (xs[k]'hkx) = X at *
      generalize (ys[k]'hky) = Y at *
      generalize (zs[k]'hkz) = Z at *
      generalize (Crc.xor3 (xs.take n) (ys.take n) (zs.take n))[k]'hk3 = V at *
      have HX1 : bits .xor .u8 (X.toNat : Int) (Y.toNat : Int) = ((X.toNat ^^^ Y.toNat : Nat) : Int) := u8_xor_nat _ _ (UInt8.toNat_lt _) (UInt8.toNat_lt _)
      have HX2 : bits .xor .u8 ((X.toNat ^^^ Y.toNat : Nat) : Int) (Z.toNat : Int) = (V.toNat : Int) := by
        rw [HV.out, ← UInt8.xor_assoc, ← UInt8.toNat_xor X Y]; exact u8_xor_go _ _
      have ag : ∀ q, q < w1.heap.size → some q ≠ blk A := fun q hq e => by have := (hown.blk_ge q e.symm).1; omega
      have ag1 := ag ba hba
      have ag2 := ag bb hbb
      have ag3 := ag bc hbc
      clear ag
      clear hca hcb hcc
      have e0 : 0 ≤ (k : Int) := by omega
      have e1 : (k : Int) < (la : Int) := by omega
      have e2 : (k : Int) < (lb : Int) := by omega
      have e3 : (k : Int) < (lc : Int) := by omega
      go_wp2_with fail
      go_region_held3 (fun w' => w'.cell? ⟨ba, oa + k, none⟩ = some (.int .u8 (X.toNat : Int)) ∧ w'.cell? ⟨bb, ob + k, none⟩ = some (.int .u8 (Y.toNat : Int)) ∧ w'.cell? ⟨bc, oc + k, none⟩ = some (.int .u8 (Z.toNat : Int)))
        (first
          | go_keep
          | (go_split_ands
             refine ⟨?_, ?_, ?_⟩
             · (rw [hg2.cell_far _ (by simp; omega) ag1]; assumption)
             · (rw [hg2.cell_far _ (by simp; omega) ag2]; assumption)
             · (rw [hg2.cell_far _ (by simp; omega) ag3]; assumption)))
        ((refine step_append_u8 _ (by rfl) (.tmp 30) (.tmp 45) rfl w1.heap.size A k C _ (by rfl) ((hown.alloc _)) _ 1 1 [V] (by rfl) ((row_one _ _ _).drew) (by omega) (by simp; omega) ?_; intro A2 C2 w2 hown2 hg2 hat2))
      go_wp2_with fail
      go_roundw
      case rel => exact ⟨k + 1, by omega, by go_num, A2, C2, rfl, by rw [HS.out]; exact hown2, below_grown ((hbr.alloc hszr _).drew) (hown.alloc _) (Nat.le_refl _) (by simp; omega) hg2⟩
      case measure => simp [intOf]; omega
    · have hke : k = n := by omega
      subst hke
      have HF := Lib.hid (show (Crc.xor3 (xs.take k) (ys.take k) (zs.take k)).take k = Crc.xor3 (xs.take k) (ys.take k) (zs.take k) by rw [List.take_of_length_le]; rw [HL3.out]; omega)
      have ra : Row wr 1 a k ca ((xs.take k).map u8v) := by
        have := (ha1.below hbr (Nat.le_refl _)).take (n := k) hna
        rwa [Nat.mul_one, ← List.map_take] at this
      have rb : Row wr 1 b k cb ((ys.take k).map u8v) := by
        have := (hb1.below hbr (Nat.le_refl _)).take (n := k) hnb
        rwa [Nat.mul_one, ← List.map_take] at this
      have rc : Row wr 1 c k cc ((zs.take k).map u8v) := by
        have := (hc1.below hbr (Nat.le_refl _)).take (n := k) hnc
        rwa [Nat.mul_one, ← List.map_take] at this
      have rd := hown.row
      rw [HF.out] at rd
      have hsum := HD.out
      generalize hS1 : Crc.sum (xs.take k) = S1 at *
      generalize hS2 : Crc.sum (ys.take k) = S2 at *
      generalize hS3 : Crc.sum (zs.take k) = S3 at *
      generalize hS4 : Crc.sum (Crc.xor3 (xs.take k) (ys.take k) (zs.take k)) = S4 at *
      have hx1 : bits .xor .u8 (S1.toNat : Int) (S2.toNat : Int) = ((S1.toNat ^^^ S2.toNat : Nat) : Int) := u8_xor_nat _ _ (UInt8.toNat_lt _) (UInt8.toNat_lt _)
      have hx2 : bits .xor .u8 ((S1.toNat ^^^ S2.toNat : Nat) : Int) (S3.toNat : Int) = ((S1.toNat ^^^ S2.toNat ^^^ S3.toNat : Nat) : Int) := by
        rw [← UInt8.toNat_xor S1 S2, ← UInt8.toNat_xor]; exact u8_xor_go _ _
      have hx3 : bits .xor .u8 ((S1.toNat ^^^ S2.toNat ^^^ S3.toNat : Nat) : Int) (S4.toNat : Int) = 0 := by
        rw [← UInt8.toNat_xor S1 S2, ← UInt8.toNat_xor, u8_xor_go, hsum]; rfl
      have hkm : 0 ≤ (k : Int) := by omega
      have k1 : (k : Int) ≤ (ca : Int) := by omega
      have k2 : (k : Int) ≤ (cb : Int) := by omega
      have k3 : (k : Int) ≤ (cc : Int) := by omega
      clear hlt hsum HD HF HL3
      go_wp2_with fail
      go_quiet ((first
        | (go_at_call 9; (with_reducible exact quiet_same (crcSum_any _ _ _ _ _ (ra.drewN _))))
        | (go_at_call 9; (with_reducible exact quiet_same (crcSum_any _ _ _ _ _ (rb.drewN _))))
        | (go_at_call 9; (with_reducible exact quiet_same (crcSum_any _ _ _ _ _ (rc.drewN _))))
        | (go_at_call 9; (with_reducible exact quiet_same (crcSum_any _ _ _ _ _ (rd.drewN _))))))
      go_wp2_with fail
      go_ret
      exact ⟨rfl, (hbw.trans (hbr.mono hsz)).trans (below_drewN _)⟩
end Go.Proofs.Ytfohefdopjingaa
