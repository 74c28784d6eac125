/-
  The walk of CrcBits.
-/
import Derived.Test.YtfohefdopjingaaCrcOwnWalk
import Derived.Test.YtfohefdopjingaaBytes
namespace Go.Proofs.Ytfohefdopjingaa
open Go.ChangeShapes Go.WideShapes Go.ChangeAt Go.RowKit
set_option linter.unusedVariables false

theorem number_nat (a : Int) (m : Nat) (h : 0 < m) : ∃ k : Nat, k < m ∧ a % (m : Int) = k := by
  have e1 := Int.emod_nonneg a (show (m : Int) ≠ 0 by omega)
  have e2 := Int.emod_lt_of_pos a (show 0 < (m : Int) by omega)
  exact ⟨(a % (m : Int)).toNat, by omega, by omega⟩

theorem bit_go (X : UInt8) (m : Nat) : bits .xor .u8 (X.toNat : Int) ((2 : Int) ^ m % (256 : Int)) = ((X ^^^ Crc.bitU m).toNat : Int) := by
  have e : ((2 : Int) ^ m % (256 : Int)) = ((Crc.bitU m).toNat : Int) := by
    have : (Crc.bitU m).toNat = 2 ^ m % 256 := by
      show (1#8 <<< m).toNat = _
      rw [BitVec.toNat_shiftLeft, Nat.shiftLeft_eq]
      simp
    rw [this]
    simp
  rw [e, u8_xor_go]

/-- a bit of an owned slice, ready to be turned -/
theorem flip_open {w : World} {base n C g : Nat} {T : List UInt8} (h : OwnU8 w base (some ⟨g, 0, none⟩) n C T) (i : Nat) (hi : i < 8 * n) :
    ∃ X : UInt8, w.cell? ⟨g, i / 8, none⟩ = some (.int .u8 (X.toNat : Int)) ∧ w.frozen? ⟨g, i / 8, none⟩ = false ∧
      OwnU8 (w.setCell ⟨g, i / 8, none⟩ (.int .u8 (bits .xor .u8 (X.toNat : Int) ((2 : Int) ^ (i % 8) % (256 : Int))))) base (some ⟨g, 0, none⟩) n C (Crc.flip T i) := by
  obtain ⟨g', hg', _, _, hcell, hfro, hset⟩ := h.open_ (by omega)
  injection hg' with hg'
  injection hg' with hg'
  subst hg'
  have hx : i / 8 < T.length := by rw [h.len]; omega
  refine ⟨T[i / 8]'hx, hcell _ hx, hfro _, ?_⟩
  have := hset (i / 8) (T[i / 8]'hx ^^^ Crc.bitU (i % 8))
  rw [bit_go]
  unfold Crc.flip
  rw [List.getD_eq_getElem?_getD, List.getElem?_eq_getElem hx]
  exact this

set_option maxHeartbeats 1000000 in
theorem crcBits_walk (w : World) (a : Option Addr) (len cap : Nat) (xs : List UInt8) (h : Row w 1 a len cap (xs.map u8v)) (a1 : Int) (w1 : (Lit.int .i64 a1).wf = true) (a2 : Int) (w2 : (Lit.int .i64 a2).wf = true) :
    Calls Try.prog 4 #[.slice a len cap, .int .i64 a1, .int .i64 a2] w fun e w' => e = .returned (.bool true) ∧ Below w.heap.size w w' := by
  have hm := h.len_cap
  obtain ⟨hb0, hb1⟩ := bounds_i64 w1
  obtain ⟨hb2, hb3⟩ := bounds_i64 w2
  clear w1 w2
  by_cases hbig : 14 < len
  · go_enter Try.func4, Try.ntmps4
    go_wp2_with fail
    refine (first_any _).mono ?_
    rintro e w1 ⟨rfl, hb1⟩
    go_wp2_with fail
    go_ret
    exact ⟨rfl, hb1⟩
  have h14 : len ≤ 14 := by omega
  have HLX := Lib.hid (show xs.length = len by simpa using h.1)
  clear hbig
  go_enter Try.func4, Try.ntmps4
  go_wp2_with fail
  refine (first_any _).mono ?_
  rintro e w1 ⟨rfl, hbw⟩
  have h1 := h.below hbw (Nat.le_refl _)
  have hsz := hbw.size
  go_wp2_with fail
  refine (seal_any a len cap xs _ h1 (by omega)).mono ?_
  rintro e w2 ⟨A2, n2, C2, rfl, hown2, hbw2⟩
  have HN2 := Lib.hid (show n2 = xs.length + 1 by rw [← hown2.len, Crc.sealed_length])
  have hn2 : n2 ≤ 15 := by rw [HN2.out, HLX.out]; omega
  have hn2' : 1 ≤ n2 := by rw [HN2.out]; omega
  have hsz2 := hbw2.size
  go_wp2_with fail
  obtain ⟨i, hi, hie⟩ := number_nat a1 (8 * n2) (by omega)
  obtain ⟨k, hk, hke⟩ := number_nat a2 (8 * n2) (by omega)
  have HI := Lib.hid (show a1 % (8 * (n2 : Int)) = i by rw [← hie]; simp)
  have HK := Lib.hid (show a2 % (8 * (n2 : Int)) = k by rw [← hke]; simp)
  clear hie hke
  refine (number_any a1 _ _ (by omega) (by omega) hb0 hb1).mono ?_
  rintro e w3 ⟨rfl, rfl⟩
  rw [HI.out]
  go_wp2_with fail
  refine (number_any a2 _ _ (by omega) (by omega) hb2 hb3).mono ?_
  rintro e w3 ⟨rfl, rfl⟩
  rw [HK.out]
  go_wp2_with fail
  have hr2 := hown2.row
  refine (bytes_any A2 n2 C2 _ _ hr2 (by omega)).mono ?_
  rintro e w3 ⟨A3, n3, C3, rfl, hown3, hbw3⟩
  obtain rfl : n3 = n2 := by rw [← hown3.len, ← hown2.len]
  have hsz3 := hbw3.size
  obtain ⟨g, rfl, hg, hglt, -⟩ := hown3.open_ (by omega)
  obtain ⟨X, hc, hf, hs⟩ := flip_open hown3 i hi
  have hq1 : i / 8 < n3 := by omega
  have H1 := Lib.hid (Crc.one_law xs i (by rw [HLX.out]; omega) (by rw [← HN2.out]; exact hi))
  have H2 := Lib.hid (Crc.two_law xs i k (by rw [HLX.out]; omega) (by rw [← HN2.out]; exact hi) (by rw [← HN2.out]; exact hk))
  have H0 := Lib.hid (Crc.fits_sealed xs)
  have hb3' := hbw3.setCell (p := ⟨g, i / 8, none⟩) hg (.int .u8 (bits .xor .u8 (X.toNat : Int) ((2 : Int) ^ (i % 8) % (256 : Int))))
  go_wp2_with fail
  go_simp
  go_wp2_with fail
  refine (fits_any _ n3 C3 _ _ hs.row).mono ?_
  rintro e w4 ⟨rfl, nd, rfl⟩
  rw [H1.out]
  obtain ⟨Y, hc2, hf2, hs2⟩ := flip_open hs k hk
  generalize (w3.setCell ⟨g, i / 8, none⟩ (.int .u8 (bits .xor .u8 (X.toNat : Int) ((2 : Int) ^ (i % 8) % (256 : Int))))) = w5 at *
  have hq2 : k / 8 < n3 := by omega
  clear hc hf
  have hb5 := hb3'.setCell (p := ⟨g, k / 8, none⟩) hg (.int .u8 (bits .xor .u8 (Y.toNat : Int) ((2 : Int) ^ (k % 8) % (256 : Int))))
  go_wp2_with fail
  go_simp
  go_wp2_with fail
  have h6 : OwnU8 ((w5.drewN nd).setCell ⟨g, k / 8, none⟩ (.int .u8 (bits .xor .u8 (Y.toNat : Int) ((2 : Int) ^ (k % 8) % (256 : Int))))) w2.heap.size (some ⟨g, 0, none⟩) n3 C3 (Crc.flip (Crc.flip (Crc.sealed xs) i) k) := hs2
  have hb6 : Below w2.heap.size w2 ((w5.drewN nd).setCell ⟨g, k / 8, none⟩ (.int .u8 (bits .xor .u8 (Y.toNat : Int) ((2 : Int) ^ (k % 8) % (256 : Int))))) :=
    ((hb3'.trans (below_drewN nd)).setCell (p := ⟨g, k / 8, none⟩) hg _)
  generalize ((w5.drewN nd).setCell ⟨g, k / 8, none⟩ (.int .u8 (bits .xor .u8 (Y.toNat : Int) ((2 : Int) ^ (k % 8) % (256 : Int))))) = w6 at *
  refine (fits_any _ n3 C3 _ _ h6.row).mono ?_
  rintro e w7 ⟨rfl, nd2, rfl⟩
  rw [H2.out]
  go_wp2_with fail
  refine (fits_any _ n3 C2 _ _ ((hr2.below hb6 (Nat.le_refl _)).drewN nd2)).mono ?_
  rintro e w7 ⟨rfl, nd3, rfl⟩
  rw [H0.out]
  go_wp2_with fail
  go_ret
  refine ⟨ret_bool ?_, ?_⟩
  · rw [beq_iff_eq, Bool.eq_iff_iff]; simp; omega
  · exact ((hbw.trans (hbw2.mono hsz)).trans (hb6.mono (by omega))).trans (below_drewN _)
end Go.Proofs.Ytfohefdopjingaa
