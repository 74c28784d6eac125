/-
  The walk of CrcSays.
-/
import Derived.Test.YtfohefdopjingaaCrcFirst
import Derived.Test.YtfohefdopjingaaBytes
import Derived.Test.YtfohefdopjingaaSameBytes
namespace Go.Proofs.Ytfohefdopjingaa
open Go.ChangeShapes Go.WideShapes Go.ChangeAt Go.RowKit
set_option linter.unusedVariables false

set_option maxHeartbeats 1000000 in
theorem crcSays_walk (w : World) (a : Option Addr) (len cap : Nat) (xs : List UInt8) (h : Row w 1 a len cap (xs.map u8v)) :
    Calls Try.prog 3 #[.slice a len cap] w fun e w' => e = .returned (.bool true) ∧ Below w.heap.size w w' := by
  have hm := h.len_cap
  by_cases hbig : 60 < len
  · go_enter Try.func3, Try.ntmps3
    go_wp2_with fail
    refine (first_any _).mono ?_
    rintro e w1 ⟨rfl, hb1⟩
    go_wp2_with fail
    go_ret
    exact ⟨rfl, hb1⟩
  have hsmall : len ≤ 60 := by omega
  have HLX := Lib.hid (show xs.length = len by simpa using h.1)
  by_cases h0 : len = 0
  · have hx : xs = [] := List.eq_nil_of_length_eq_zero (by rw [HLX.out]; exact h0)
    subst h0 hx
    have hd : decide ((0 : Int) < 0) = false := by decide
    have HN := Lib.hid fits_nil
    have HS := Lib.hid (show sameB (Crc.sealed []) ([] ++ [Crc.sum []]) = true by simp [sameB, Crc.sealed])
    go_enter Try.func3, Try.ntmps3
    go_wp2_with fail
    refine (first_any _).mono ?_
    rintro e w1 ⟨rfl, hb1⟩
    have h1 := h.below hb1 (Nat.le_refl _)
    have hsz := hb1.size
    go_wp2_with fail
    refine (refSum_any a 0 cap [] _ h1).mono ?_
    rintro e w2 ⟨rfl, rfl⟩
    go_wp2_with fail
    go_quiet (fail)
    go_wp2_with fail
    refine (crcSum_any a 0 cap [] _ (h1.drewN _)).mono ?_
    rintro e w2 ⟨rfl, rfl⟩
    go_wp2_with fail
    refine (seal_any a 0 cap [] _ (h1.drewN _) (by omega)).mono ?_
    rintro e w3 ⟨A3, n3, C3, rfl, hown3, hb3⟩
    have hb3' : Below w1.heap.size w1 w3 := (below_drewN nq).trans hb3
    have h3 := h1.below hb3' (Nat.le_refl _)
    have hsz3 := hb3'.size
    go_wp2_with fail
    refine (bytes_any a 0 cap [] _ h3 (by omega)).mono ?_
    rintro e w4 ⟨A4, n4, C4, rfl, hown4, hb4⟩
    have hsz4 := hb4.size
    have H4 := Lib.hid hown4.len
    have hn4 : n4 ≤ 60 := by have h4 := H4.out; simp at h4; omega
    have hown3' := hown3.below hb4 (Nat.le_refl _)
    go_wp2_with (at_builtin; refine append_u8 _ rfl (.tmp 46) (.tmp 48) rfl w3.heap.size A4 n4 C4 _ rfl (hown4.alloc _) _ 1 1 [Crc.sum []] rfl (row_one _ _ _) (by omega) (by simp; omega) ?_; intro A5 C5 w5 hown5 hg5 hat5)
    have hb5 : Below w3.heap.size w3 w5 := below_grown (hb4.alloc hsz4 _) (hown4.alloc _) (Nat.le_refl _) (by simp; omega) hg5
    have h5 := h3.below hb5 (Nat.le_refl _)
    refine (sameBytes_any A3 n3 C3 _ A5 (n4 + 1) C5 _ _ (hown3.below hb5 (Nat.le_refl _)).row hown5.row).mono ?_
    rintro e w6 ⟨rfl, nd, rfl⟩
    rw [HS.out]
    go_wp2_with fail
    refine (fits_any a 0 cap [] _ (h5.drewN nd)).mono ?_
    rintro e w7 ⟨rfl, nd2, rfl⟩
    rw [HN.out]
    go_wp2_with fail
    go_ret
    refine ⟨rfl, ?_⟩
    exact ((hb1.trans (hb3'.mono hsz)).trans (hb5.mono (by omega))).trans (below_drewN _)
  · obtain ⟨k, rfl⟩ : ∃ k, len = k + 1 := ⟨len - 1, by omega⟩
    have hkx : k < xs.length := by rw [HLX.out]; omega
    have HN := Lib.hid (fits_pos HLX.out hkx)
    have HS := Lib.hid (show sameB (Crc.sealed xs) (xs ++ [Crc.sum xs]) = true by simp [sameB, Crc.sealed])
    have hd : decide ((0 : Int) < (k : Int) + 1) = true := by simp; try omega
    have hk0 : 0 ≤ (k : Int) := by omega
    have hk1 : (k : Int) < (k : Int) + 1 := by omega
    have hw1 : IntKind.i64.wrap ((k : Int) + 1 - 1) = k := by rw [Int.add_sub_cancel]; exact IntWalk.i64_in _ (by omega)
    go_enter Try.func3, Try.ntmps3
    go_wp2_with fail
    refine (first_any _).mono ?_
    rintro e w1 ⟨rfl, hb1⟩
    have h1 := h.below hb1 (Nat.le_refl _)
    have hsz := hb1.size
    go_wp2_with fail
    refine (refSum_any a (k + 1) cap xs _ h1).mono ?_
    rintro e w2 ⟨rfl, rfl⟩
    obtain ⟨b1, off1, rfl, hbb1, hc1⟩ := h1.at_ (by omega)
    have hcell1 : w1.cell? ⟨b1, off1 + k, none⟩ = some (.int .u8 ((xs[k]'hkx).toNat : Int)) := hc1 k _ (u8_get hkx)
    have hr : Row w1 1 (some ⟨b1, off1, none⟩) k cap ((xs.take k).map u8v) := by
      have := h1.take (n := k) (by omega)
      rwa [Nat.mul_one, ← List.map_take] at this
    clear hc1
    go_wp2_with fail
    go_quiet ((go_at_call 8; exact quiet_same (refSum_any _ _ _ _ _ (hr.drewN _))))
    go_wp2_with fail
    refine (crcSum_any _ (k + 1) cap xs _ (h1.drewN _)).mono ?_
    rintro e w2 ⟨rfl, rfl⟩
    go_wp2_with fail
    refine (seal_any _ (k + 1) cap xs _ (h1.drewN _) (by omega)).mono ?_
    rintro e w3 ⟨A3, n3, C3, rfl, hown3, hb3⟩
    have hb3' : Below w1.heap.size w1 w3 := (below_drewN nq).trans hb3
    have h3 := h1.below hb3' (Nat.le_refl _)
    have hsz3 := hb3'.size
    go_wp2_with fail
    refine (bytes_any _ (k + 1) cap xs _ h3 (by omega)).mono ?_
    rintro e w4 ⟨A4, n4, C4, rfl, hown4, hb4⟩
    have hsz4 := hb4.size
    have H4 := Lib.hid hown4.len
    have hn4 : n4 ≤ 60 := by have h4 := H4.out; rw [HLX.out] at h4; omega
    have hown3' := hown3.below hb4 (Nat.le_refl _)
    go_wp2_with (at_builtin; refine append_u8 _ rfl (.tmp 46) (.tmp 48) rfl w3.heap.size A4 n4 C4 _ rfl (hown4.alloc _) _ 1 1 [Crc.sum xs] rfl (row_one _ _ _) (by omega) (by simp; omega) ?_; intro A5 C5 w5 hown5 hg5 hat5)
    have hb5 : Below w3.heap.size w3 w5 := below_grown (hb4.alloc hsz4 _) (hown4.alloc _) (Nat.le_refl _) (by simp; omega) hg5
    have h5 := h3.below hb5 (Nat.le_refl _)
    refine (sameBytes_any A3 n3 C3 _ A5 (n4 + 1) C5 _ _ (hown3.below hb5 (Nat.le_refl _)).row hown5.row).mono ?_
    rintro e w6 ⟨rfl, nd, rfl⟩
    rw [HS.out]
    go_wp2_with fail
    refine (fits_any _ (k + 1) cap xs _ (h5.drewN nd)).mono ?_
    rintro e w7 ⟨rfl, nd2, rfl⟩
    rw [HN.out]
    go_wp2_with fail
    go_ret
    refine ⟨ret_bool (by rw [toNat_beq]; simp [eq_comm]), ?_⟩
    exact ((hb1.trans (hb3'.mono hsz)).trans (hb5.mono (by omega))).trans (below_drewN _)
end Go.Proofs.Ytfohefdopjingaa
