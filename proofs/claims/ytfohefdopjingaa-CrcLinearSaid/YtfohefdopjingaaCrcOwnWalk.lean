/-
  The walk of CrcOwn.
-/
import Derived.Test.YtfohefdopjingaaCrcFirst
import Derived.Test.YtfohefdopjingaaNumber
namespace Go.Proofs.Ytfohefdopjingaa
open Go.ChangeShapes Go.WideShapes Go.ChangeAt Go.RowKit
set_option linter.unusedVariables false

theorem bounds_i64 {a : Int} (h : (Lit.int .i64 a).wf = true) : -9223372036854775808 ≤ a ∧ a ≤ 9223372036854775807 := by
  simpa [Lit.wf, IntKind.min, IntKind.max, IntKind.signed, IntKind.bits] using h
theorem byte_of {a : Int} (h : (Lit.int .u8 a).wf = true) : ∃ x : UInt8, a = (x.toNat : Int) := by
  have hx : 0 ≤ a ∧ a ≤ 255 := by simpa [Lit.wf, IntKind.min, IntKind.max, IntKind.signed, IntKind.bits] using h
  refine ⟨UInt8.ofNat a.toNat, ?_⟩
  simp [UInt8.toNat_ofNat']
  omega
theorem u8_xor_go (x y : UInt8) : bits .xor .u8 (x.toNat : Int) (y.toNat : Int) = ((x ^^^ y).toNat : Int) := by
  rw [u8_xor_nat _ _ (UInt8.toNat_lt _) (UInt8.toNat_lt _), UInt8.toNat_xor]

set_option maxHeartbeats 1000000 in
theorem crcOwn_walk (w : World) (a : Option Addr) (len cap : Nat) (xs : List UInt8) (h : Row w 1 a len cap (xs.map u8v)) (a1 : Int) (w1 : (Lit.int .i64 a1).wf = true) (a2 : Int) (w2 : (Lit.int .u8 a2).wf = true) :
    Calls Try.prog 5 #[.slice a len cap, .int .i64 a1, .int .u8 a2] w fun e w' => e = .returned (.bool true) ∧ Below w.heap.size w w' := by
  have hm := h.len_cap
  obtain ⟨hb0, hb1⟩ := bounds_i64 w1
  obtain ⟨y, rfl⟩ := byte_of w2
  clear w1 w2
  by_cases hout : len = 0 ∨ 14 < len
  · have hout' : ((len : Int) == 0) = true ∨ (((len : Int) == 0) = false ∧ 14 < (len : Int)) := by
      rcases hout with rfl | h14
      · exact .inl (by simp)
      · exact .inr ⟨by simp; omega, by omega⟩
    clear hout
    rcases hout' with hz | ⟨hz, h14⟩
    all_goals
      go_enter Try.func5, Try.ntmps5
      go_wp2_with fail
      refine (first_any _).mono ?_
      rintro e w1 ⟨rfl, hbw⟩
      go_wp2_with fail
      go_ret
      exact ⟨rfl, hbw⟩
  · have hz : ((len : Int) == 0) = false := by simp; omega
    have h14 : len ≤ 14 := by omega
    have hp : 0 < len := by omega
    clear hout
    have HLX := Lib.hid (show xs.length = len by simpa using h.1)
    have e1 := Int.emod_nonneg a1 (show (len : Int) ≠ 0 by omega)
    have e2 := Int.emod_lt_of_pos a1 (show 0 < (len : Int) by omega)
    obtain ⟨k, hk⟩ : ∃ k : Nat, a1 % (len : Int) = k := ⟨(a1 % (len : Int)).toNat, by omega⟩
    rw [hk] at e1 e2
    have HK := Lib.hid hk
    clear hk
    have hkl : k < len := by omega
    have hkx : k < xs.length := by rw [HLX.out]; exact hkl
    have HO := Lib.hid (Crc.own_law xs k y hkx)
    have HX := Lib.hid (u8_xor_go (xs[k]'hkx) y)
    go_enter Try.func5, Try.ntmps5
    go_wp2_with fail
    refine (first_any _).mono ?_
    rintro e w1 ⟨rfl, hbw⟩
    have h1 := h.below hbw (Nat.le_refl _)
    have hsz := hbw.size
    go_wp2_with fail
    refine (number_any a1 len _ (by omega) (by omega) hb0 hb1).mono ?_
    rintro e w2 ⟨rfl, rfl⟩
    rw [HK.out]
    go_wp2_with (at_builtin; refine append_u8 _ rfl (.tmp 26) (.tmp 27) rfl w1.heap.size _ 0 0 [] rfl (ownU8_made w1) a len cap xs rfl (h1.alloc _) (by omega) (by simp) ?_; intro A2 C2 w2 hown2 hg2 hat2)
    have hb2 : Below w1.heap.size w1 w2 := below_grown ((Below.refl _ _).alloc (Nat.le_refl _) _) (ownU8_made w1) (Nat.le_refl _) (by simp) hg2
    rw [Nat.zero_add, List.nil_append] at hown2
    obtain ⟨g, rfl, hg, hglt, hcell, hfro, hset⟩ := hown2.open_ hp
    have hc := hcell k hkx
    have hf := hfro k
    have hs := hset k (xs[k]'hkx ^^^ y)
    clear hcell hfro hset
    go_wp2_with fail
    go_simp
    go_wp2_with fail
    rw [HX.out]
    have hb3 := hb2.setCell (p := ⟨g, k, none⟩) hg (.int .u8 ((xs[k]'hkx ^^^ y).toNat : Int))
    have h3 := h1.below hb3 (Nat.le_refl _)
    have hs3 := hs.row
    refine (crcSum_any a len cap xs _ h3).mono ?_
    rintro e w3 ⟨rfl, rfl⟩
    go_wp2_with fail
    refine (crcSum_any _ len C2 _ _ hs3).mono ?_
    rintro e w3 ⟨rfl, rfl⟩
    go_wp2_with fail
    go_ret
    refine ⟨ret_bool ?_, hbw.trans (hb3.mono hsz)⟩
    have ho := HO.out
    rw [toNat_beq]
    have e0 : (((y.toNat : Int)) == 0) = (y == 0) := by
      rw [Bool.eq_iff_iff]; simp [← UInt8.toNat_inj]
    rw [e0, ← ho, beq_iff_eq, Bool.eq_iff_iff]
    simp
end Go.Proofs.Ytfohefdopjingaa
