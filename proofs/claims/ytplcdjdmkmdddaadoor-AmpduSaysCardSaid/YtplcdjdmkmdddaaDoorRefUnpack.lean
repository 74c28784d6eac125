/-
  The document's Unpack.
-/
import Derived.Test.YtplcdjdmkmdddaaDoorUnpack
import Derived.Test.YtplcdjdmkmdddaaDoorTwo
import Derived.Test.YtplcdjdmkmdddaaDoorCrcRef
import Derived.Test.YtplcdjdmkmdddaaDoorBytes
namespace Go.Proofs.YtplcdjdmkmdddaaDoor
open Go.ChangeShapes Go.WideShapes Go.ChangeAt Go.RowKit
set_option linter.unusedVariables false

theorem and15 (x : UInt8) : bits .and .u8 (x.toNat : Int) 15 = ((x.toNat % 16 : Nat) : Int) := by
  have h : ∀ n : Fin 256, bits .and .u8 ((n.val : Nat) : Int) 15 = ((n.val % 16 : Nat) : Int) := by decide +kernel
  exact h ⟨x.toNat, UInt8.toNat_lt x⟩
theorem u8_eq (x y : UInt8) : (((x.toNat : Int)) == (y.toNat : Int)) = (x == y) := by
  rw [Bool.eq_iff_iff, beq_iff_eq, beq_iff_eq, ← UInt8.toNat_inj]; omega
theorem four_of {r : List UInt8} (h : 4 ≤ r.length) : ∃ a b c d t, r = a :: b :: c :: d :: t := by
  rcases r with _ | ⟨a, _ | ⟨b, _ | ⟨c, _ | ⟨d, t⟩⟩⟩⟩
  all_goals try (simp at h; done)
  exact ⟨a, b, c, d, t, rfl⟩
/-- what part says, by the bytes -/
theorem part_doc (a b c d : UInt8) (t : List UInt8) : partP (a :: b :: c :: d :: t) =
    if Crc.sum [a, b] ≠ c then .error 5
    else if d ≠ 78 ∨ a.toNat % 16 ≠ 0 ∨ (a.toNat + 256 * b.toNat) / 16 = 0 then .error 1
    else if t.length < (a.toNat + 256 * b.toNat) / 16 then .error 0
    else .ok (t.take ((a.toNat + 256 * b.toNat) / 16)) := by
  have hn : numB (a :: b :: c :: d :: t) = a.toNat + 256 * b.toNat := rfl
  have hf : Crc.fits ((a :: b :: c :: d :: t).take 3) = (c == Crc.sum [a, b]) := by simp [Crc.fits]
  have hm : (a.toNat + 256 * b.toNat) % 16 = a.toNat % 16 := by omega
  unfold partP
  rw [if_neg (by simp), hf, hn, hm]
  have e3 : (a :: b :: c :: d :: t).getD 3 0 = d := rfl
  have ed : (a :: b :: c :: d :: t).drop 4 = t := rfl
  have el : (a :: b :: c :: d :: t).length - 4 = t.length := by simp
  rw [e3, ed, el]
  by_cases h : Crc.sum [a, b] = c
  · rw [if_neg (show ¬ ((c == Crc.sum [a, b]) = false) by rw [h]; simp), if_neg (show ¬ (Crc.sum [a, b] ≠ c) by simpa using h)]
  · rw [if_pos (show (c == Crc.sum [a, b]) = false by simpa using fun e => h e.symm), if_pos (show Crc.sum [a, b] ≠ c from h)]
theorem part_doc_len {b x : List UInt8} (h : partP b = .ok x) : x.length = numB b / 16 := by
  obtain ⟨p1, p2, p3, p4, p5⟩ := part_ok h
  obtain ⟨a, b', c, d, t, rfl⟩ := four_of p1
  rw [part_doc] at h
  split at h
  · cases h
  · split at h
    · cases h
    · split at h
      · cases h
      · injection h with h
        rw [← h, List.length_take]
        show _ = (a.toNat + 256 * b'.toNat) / 16
        omega

set_option maxHeartbeats 4000000 in
theorem refUnpack_any {w : World} (A : Option Addr) (n C : Nat) (b : List UInt8) (h : Row w 1 A n C (b.map u8v)) (hn : n ≤ 1048576) :
    Calls Tryd.prog 19 #[.slice A n C] w fun e w' => ∃ v, e = .returned v ∧ OwnP w' w.heap.size v (unpackP b) ∧ Below w.heap.size w w' := by
  have hm := h.len_cap
  have H := Lib.hid h
  have HBL := Lib.hid (show b.length = n by simpa using h.1)
  clear h
  go_enter Tryd.func19, Tryd.ntmps19
  go_wp2_with fail
  go_loopw [3, 4] (fun out at_ wr => ∃ (k : Nat) (L : List (List UInt8)), at_ = .int .i64 k ∧ k ≤ n + 3 ∧ k % 4 = 0 ∧ OwnP wr w.heap.size out L ∧ L.length ≤ k ∧ L ++ unpackP (b.drop k) = unpackP b ∧ Below w.heap.size w wr)
    (fun _ at_ _ => n + 3 - (intOf at_).toNat)
  case atStart => exact ⟨0, [], rfl, Nat.zero_le _, rfl, ownP_nil _ _, by simp, rfl, Below.refl _ _⟩
  case round =>
    obtain ⟨k, L, rfl, hk, hk4, ho, hLk, hU, hb⟩ := hrel
    have HO := Lib.hid ho
    have HU := Lib.hid hU
    have HB := Lib.hid hb
    have zB := hb.size
    clear ho hU hb
    by_cases h4 : k + 4 ≤ n
    case neg =>
      go_wp2_with fail
      go_ret
      refine ⟨_, rfl, ?_, HB.out⟩
      have := HU.out
      rw [unpack_short (by rw [List.length_drop, HBL.out]; omega), List.append_nil] at this
      rw [← this]; exact HO.out
    case pos =>
      have HRW := Lib.hid (H.out.below HB.out (Nat.le_refl _))
      obtain ⟨bb, off, rfl, hlt, -⟩ := HRW.out.at_ (by omega)
      obtain ⟨x0, x1, x2, x3, t, hr⟩ := four_of (r := b.drop k) (by rw [List.length_drop, HBL.out]; omega)
      have hr0 := hr
      have HD := row_drop8 HRW.out (k := k) (by omega)
      have hCk : ¬ C = k := by omega
      have htl : t.length = n - k - 4 := by
        have := congrArg List.length hr
        simp only [List.length_drop, List.length_cons, HBL.out] at this
        omega
      rw [if_neg hCk, hr] at HD
      have c0 := cell4 HD (j := 0) (by omega)
      have c1 := cell4 HD (j := 1) (by omega)
      have c2 := cell4 HD (j := 2) (by omega)
      have c3 := cell4 HD (j := 3) (by omega)
      simp only [Nat.add_zero, List.getD_cons_zero, List.getD_cons_succ] at c0 c1 c2 c3
      have HS2 := Lib.hid (row_take8 HD (k := 2) (by omega))
      have HN := Lib.hid (num_any bb (off + k) 4 (C - k) x0 x1 wr (by omega) c0 c1)
      have HP := Lib.hid (part_doc x0 x1 x2 x3 t)
      have HUK := Lib.hid (show unpackP (b.drop k) = unpackP (x0 :: x1 :: x2 :: x3 :: t) by rw [hr])
      have HTD := Lib.hid (show t = b.drop (k + 4) by rw [← List.drop_drop, hr]; rfl)
      have e15 : bits .and .u8 (x0.toNat : Int) 15 = ((x0.toNat % 16 : Nat) : Int) := and15 x0
      have hx0 := UInt8.toNat_lt x0
      have hx1 := UInt8.toNat_lt x1
      have hx2 := UInt8.toNat_lt x2
      have hx3 := UInt8.toNat_lt x3
      obtain ⟨v, hv⟩ : ∃ v, x0.toNat + 256 * x1.toNat = v := ⟨_, rfl⟩
      rw [hv] at HN HP
      obtain ⟨q, hqv⟩ : ∃ q, v / 16 = q := ⟨_, rfl⟩
      rw [hqv] at HP
      obtain ⟨lo, hlo⟩ : ∃ lo, x0.toNat % 16 = lo := ⟨_, rfl⟩
      rw [hlo] at HP e15
      have hq1 : q ≤ 4095 := by omega
      have eq1 : (v : Int) / 16 = (q : Int) := by omega
      have hv6 : v < 65536 := by omega
      have HSUM := Lib.hid (show ∀ m0 m, Calls Tryd.prog 30 #[.slice (some ⟨bb, off + k, none⟩) 2 (C - k)] (wr.drewN (m0 + m)) fun e w'' => e = .returned (.int .u8 ((Crc.sum [x0, x1]).toNat : Int)) ∧ ∃ n, w'' = wr.drewN (m0 + n) from fun m0 m => (refSum_any _ _ _ _ _ (HS2.out.drewN (m0 + m))).mono (by rintro e w'' ⟨rfl, rfl⟩; exact ⟨rfl, m, rfl⟩))
      have HQ0 := Lib.hid HU.out
      have HDR := Lib.hid (show ∀ z, (x0 :: x1 :: x2 :: x3 :: t).drop z = b.drop (k + z) from fun z => by rw [← hr, List.drop_drop])
      have HNEXT := Lib.hid (fun (e : Nat) (he : partP (x0 :: x1 :: x2 :: x3 :: t) = .error e) => (show L ++ unpackP (b.drop (k + 4)) = unpackP b by
        rw [← HQ0.out, HUK.out, unpack_err (by simp) he, HDR.out]))
      have j0 : (0 : Int) < 4 := by omega
      have j2 : (2 : Int) < 4 := by omega
      have j3 : (3 : Int) < 4 := by omega
      have jc : (2 : Int) ≤ (C : Int) - (k : Int) := by omega
      have jC : ((C - k : Nat) : Int) = (C : Int) - (k : Int) := by omega
      clear hv hqv hr HD hlo
      by_cases q1 : Crc.sum [x0, x1] = x2
      case neg =>
        have HE := Lib.hid (HNEXT.out 5 (by rw [HP.out]; rw [if_pos q1]))
        have g1 : (((Crc.sum [x0, x1]).toNat : Int) == (x2.toNat : Int)) = false := by rw [u8_eq]; simpa using q1
        clear HNEXT q1
        go_wp2_with fail
        refine HN.out.mono ?_
        rintro e w1 ⟨rfl, m1, rfl⟩
        go_wp2_with fail
        go_quiet ((go_at_call 30; (with_reducible exact HSUM.out _ _)))
        go_wp2_with fail
        go_roundw
        case rel => exact ⟨k + 4, L, by go_num, by omega, by omega, HO.out.below (below_drewN _) (Nat.le_refl _), by omega, HE.out, HB.out.trans (below_drewN _)⟩
        case measure => simp [intOf]; omega
      case pos =>
      by_cases q2 : x3 = 78
      case neg =>
        have HE := Lib.hid (HNEXT.out 1 (by rw [HP.out]; rw [if_neg (by simpa using q1), if_pos (.inl q2)]))
        have g1 : (((Crc.sum [x0, x1]).toNat : Int) == (x2.toNat : Int)) = true := by rw [u8_eq]; simpa using q1
        have g2 : ((x3.toNat : Int) == 78) = false := by rw [show (78 : Int) = ((78 : UInt8).toNat : Int) from rfl, u8_eq]; simpa using q2
        clear HNEXT q1 q2
        go_wp2_with fail
        refine HN.out.mono ?_
        rintro e w1 ⟨rfl, m1, rfl⟩
        go_wp2_with fail
        go_quiet ((go_at_call 30; (with_reducible exact HSUM.out _ _)))
        go_wp2_with fail
        go_roundw
        case rel => exact ⟨k + 4, L, by go_num, by omega, by omega, HO.out.below (below_drewN _) (Nat.le_refl _), by omega, HE.out, HB.out.trans (below_drewN _)⟩
        case measure => simp [intOf]; omega
      case pos =>
      by_cases q3 : lo = 0
      case neg =>
        have HE := Lib.hid (HNEXT.out 1 (by rw [HP.out]; rw [if_neg (by simpa using q1), if_pos (.inr (.inl q3))]))
        have g1 : (((Crc.sum [x0, x1]).toNat : Int) == (x2.toNat : Int)) = true := by rw [u8_eq]; simpa using q1
        have g2 : ((x3.toNat : Int) == 78) = true := by rw [show (78 : Int) = ((78 : UInt8).toNat : Int) from rfl, u8_eq]; simpa using q2
        have g3 : ((lo : Int) == 0) = false := by simp; omega
        clear HNEXT q1 q2 q3
        go_wp2_with fail
        refine HN.out.mono ?_
        rintro e w1 ⟨rfl, m1, rfl⟩
        go_wp2_with fail
        go_quiet ((go_at_call 30; (with_reducible exact HSUM.out _ _)))
        go_wp2_with fail
        go_roundw
        case rel => exact ⟨k + 4, L, by go_num, by omega, by omega, HO.out.below (below_drewN _) (Nat.le_refl _), by omega, HE.out, HB.out.trans (below_drewN _)⟩
        case measure => simp [intOf]; omega
      case pos =>
      by_cases q4 : 0 < q
      case neg =>
        have HE := Lib.hid (HNEXT.out 1 (by rw [HP.out]; rw [if_neg (by simpa using q1), if_pos (.inr (.inr (by omega)))]))
        have g1 : (((Crc.sum [x0, x1]).toNat : Int) == (x2.toNat : Int)) = true := by rw [u8_eq]; simpa using q1
        have g2 : ((x3.toNat : Int) == 78) = true := by rw [show (78 : Int) = ((78 : UInt8).toNat : Int) from rfl, u8_eq]; simpa using q2
        have g3 : ((lo : Int) == 0) = true := by simp; omega
        have g4 : decide ((0 : Int) < (q : Int)) = false := by simp; omega
        clear HNEXT q1 q2 q3
        go_wp2_with fail
        refine HN.out.mono ?_
        rintro e w1 ⟨rfl, m1, rfl⟩
        go_wp2_with fail
        go_quiet ((go_at_call 30; (with_reducible exact HSUM.out _ _)))
        go_wp2_with fail
        go_roundw
        case rel => exact ⟨k + 4, L, by go_num, by omega, by omega, HO.out.below (below_drewN _) (Nat.le_refl _), by omega, HE.out, HB.out.trans (below_drewN _)⟩
        case measure => simp [intOf]; omega
      case pos =>
      by_cases q5 : q ≤ n - k - 4
      case neg =>
        have HE := Lib.hid (HNEXT.out 0 (by rw [HP.out]; rw [if_neg (by simpa using q1), if_neg (by rintro (h | h | h); exact h q2; exact h q3; omega), if_pos (by rw [htl]; omega)]))
        have g1 : (((Crc.sum [x0, x1]).toNat : Int) == (x2.toNat : Int)) = true := by rw [u8_eq]; simpa using q1
        have g2 : ((x3.toNat : Int) == 78) = true := by rw [show (78 : Int) = ((78 : UInt8).toNat : Int) from rfl, u8_eq]; simpa using q2
        have g3 : ((lo : Int) == 0) = true := by simp; omega
        have g4 : decide ((0 : Int) < (q : Int)) = true := by simp; omega
        have g5 : decide ((q : Int) ≤ (n : Int) - (k : Int) - 4) = false := by simp; omega
        clear HNEXT q1 q2 q3
        go_wp2_with fail
        refine HN.out.mono ?_
        rintro e w1 ⟨rfl, m1, rfl⟩
        go_wp2_with fail
        go_quiet ((go_at_call 30; (with_reducible exact HSUM.out _ _)))
        go_wp2_with fail
        go_roundw
        case rel => exact ⟨k + 4, L, by go_num, by omega, by omega, HO.out.below (below_drewN _) (Nat.le_refl _), by omega, HE.out, HB.out.trans (below_drewN _)⟩
        case measure => simp [intOf]; omega
      case pos =>
        have g1 : (((Crc.sum [x0, x1]).toNat : Int) == (x2.toNat : Int)) = true := by rw [u8_eq]; simpa using q1
        have g2 : ((x3.toNat : Int) == 78) = true := by rw [show (78 : Int) = ((78 : UInt8).toNat : Int) from rfl, u8_eq]; simpa using q2
        have g3 : ((lo : Int) == 0) = true := by simp; omega
        have g4 : decide ((0 : Int) < (q : Int)) = true := by simp; omega
        have g5 : decide ((q : Int) ≤ (n : Int) - (k : Int) - 4) = true := by simp; omega
        have hok : partP (x0 :: x1 :: x2 :: x3 :: t) = .ok (t.take q) := by rw [HP.out, if_neg (by simpa using q1), if_neg (by rintro (h | h | h); exact h q2; exact h q3; omega), if_neg (by rw [htl]; omega)]
        obtain ⟨x, hx⟩ : ∃ x, t.take q = x := ⟨_, rfl⟩
        have hxl : x.length = q := by rw [← hx, List.length_take]; omega
        rw [hx] at hok
        subst hxl
        have HGO := Lib.hid (show (L ++ [x]) ++ unpackP (b.drop (k + (4 + up4 x.length))) = unpackP b by
          rw [← HQ0.out, HUK.out, unpack_ok hok, HDR.out]
          simp)
        have HD4 := row_take8 (row_drop8 HRW.out (k := k + 4) (by omega)) (k := x.length) (by omega)
        have hC4 : ¬ C = k + 4 := by omega
        rw [if_neg hC4, ← HTD.out, hx] at HD4
        have HBY := Lib.hid (fun m => bytes_any _ _ _ x (wr.drewN m) (HD4.drewN m) (by omega))
        clear HNEXT q1 q2 q3 HD4 hok hx
        go_wp2_with fail
        refine HN.out.mono ?_
        rintro e w1 ⟨rfl, m1, rfl⟩
        go_wp2_with fail
        go_quiet ((go_at_call 30; (with_reducible exact HSUM.out _ _)))
        go_wp2_with fail
        refine (HBY.out _).mono ?_
        rintro e w1 ⟨A2, n2, C2, rfl, hown, hb1⟩
        obtain rfl : n2 = x.length := hown.len.symm
        have HB1 := Lib.hid (HB.out.trans (Below.mono (Below.trans (below_drewN _) hb1) zB))
        have HO1 := Lib.hid (HO.out.below (Below.trans (below_drewN _) hb1) (Nat.le_refl _))
        have HY1 := Lib.hid (OwnU8.base_le hown zB)
        have z1 := HB1.out.size
        obtain ⟨z, hz⟩ : ∃ z, k + (4 + up4 x.length) = z := ⟨_, rfl⟩
        rw [hz] at HGO
        have eAT : ((k : Int) + 4 + (x.length : Int) + 3) / 4 * 4 = (z : Int) := by rw [← hz]; unfold up4; omega
        have hz3 : z ≤ n + 3 ∧ z % 4 = 0 ∧ k < z := by rw [← hz]; unfold up4; omega
        clear hz hown hb1
        go_wp2_with (at_builtin; refine append_part _ rfl (.tmp 53) (.tmp 63) rfl w.heap.size L (HO1.out.alloc _) (by omega) A2 C2 x (HY1.out.alloc _) w1.heap.size rfl (row_slice _ _ _) (by simp; omega) ?_; intro v' w2 ho2 hsh hb2 hk2; obtain ⟨A5, C5, rfl⟩ := hsh; have HO2 := Lib.hid ho2; have HB2 := Lib.hid ((HB1.out.alloc z1 _).trans hb2); clear ho2 hb2 hk2)
        have hlen : (L ++ [x]).length = L.length + 1 := by simp
        go_roundw
        case rel => exact ⟨z, L ++ [x], by go_num, hz3.1, hz3.2.1, HO2.out, by omega, HGO.out, HB2.out⟩
        case measure => simp [intOf]; omega
end Go.Proofs.YtplcdjdmkmdddaaDoor
