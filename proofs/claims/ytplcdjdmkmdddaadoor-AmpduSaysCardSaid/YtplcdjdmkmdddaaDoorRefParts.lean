/-
  The document's Parts.
-/
import Derived.Test.YtplcdjdmkmdddaaDoorRefUnpack
import Derived.Test.YtplcdjdmkmdddaaDoorPartsWalk
namespace Go.Proofs.YtplcdjdmkmdddaaDoor
open Go.ChangeShapes Go.WideShapes Go.ChangeAt Go.RowKit
set_option linter.unusedVariables false

/-- what the document's Parts gives back -/
def RPartsR (w : World) (r : Except Nat (List (List UInt8))) (e : Ending) (w' : World) : Prop := match r with
  | .error i => e = .returned (.tuple #[.slice none 0 0, .int .i64 (101 + (i : Int))]) ∧ Below w.heap.size w w'
  | .ok L => ∃ v, e = .returned (.tuple #[v, .int .i64 0]) ∧ OwnP w' w.heap.size v L ∧ Below w.heap.size w w'
theorem rparts_err {w w' : World} {r : Except Nat (List (List UInt8))} {i : Nat} {c : Int} (h : r = .error i) (hc : c = 101 + (i : Int)) {e : Ending} (he : e = .returned (.tuple #[.slice none 0 0, .int .i64 c])) (hb : Below w.heap.size w w') : RPartsR w r e w' := by
  subst h hc; exact ⟨he, hb⟩
theorem rparts_ok {w w' : World} {r : Except Nat (List (List UInt8))} {L : List (List UInt8)} (h : r = .ok L) {e : Ending} {v : Value} (he : e = .returned (.tuple #[v, .int .i64 0])) (ho : OwnP w' w.heap.size v L) (hb : Below w.heap.size w w') : RPartsR w r e w' := by
  subst h; exact ⟨v, he, ho, hb⟩
theorem any_next (s : List UInt8) (f : UInt8 → Bool) (t : Nat) (h : t < s.length) : (s.take (t + 1)).any f = ((s.take t).any f || f (s.getD t 0)) := by
  rw [List.take_succ_eq_append_getElem h, List.any_append, List.getD_eq_getElem?_getD, List.getElem?_eq_getElem h]
  simp
theorem any_hit (s : List UInt8) (f : UInt8 → Bool) (t m : Nat) (h : t < s.length) (hm : t < m) (hf : f (s.getD t 0) = true) : (s.take m).any f = true := by
  rw [List.getD_eq_getElem?_getD, List.getElem?_eq_getElem h, Option.getD_some] at hf
  refine List.any_eq_true.2 ⟨s[t], ?_, hf⟩
  rw [List.mem_iff_getElem?]
  exact ⟨t, by rw [List.getElem?_take, if_pos hm, List.getElem?_eq_getElem h]⟩

set_option maxRecDepth 100000 in
set_option maxHeartbeats 3000000 in
theorem refParts_any {w : World} (A : Option Addr) (n C : Nat) (b : List UInt8) (h : Row w 1 A n C (b.map u8v)) (hn : n ≤ 1048576) :
    Calls Tryd.prog 17 #[.slice A n C] w fun e w' => RPartsR w (partsP b) e w' := by
  have hm := h.len_cap
  have H := Lib.hid h
  have HBL := Lib.hid (show b.length = n by simpa using h.1)
  clear h
  go_enter Tryd.func17, Tryd.ntmps17
  by_cases hn0 : n = 0
  case pos =>
    subst hn0
    have hb : b = [] := List.eq_nil_of_length_eq_zero HBL.out
    have HP := Lib.hid (show partsP b = .error 1 by rw [hb]; rfl)
    clear hb
    go_wp2_with fail
    go_ret2
    exact rparts_err HP.out rfl rfl (Below.refl _ _)
  case neg =>
  have hb : b ≠ [] := by intro e; have := HBL.out; rw [e] at this; exact hn0 this.symm
  have HBN := Lib.hid hb
  have e0 : ((n : Int) == 0) = false := by simp; omega
  clear hb
  go_wp2_with fail
  clear e0
  go_loopw [4, 5] (fun out at_ wr => ∃ (k : Nat) (L : List (List UInt8)), at_ = .int .i64 k ∧ k ≤ n ∧ (k % 4 = 0 ∨ k = n) ∧ OwnP wr w.heap.size out L ∧ L.length ≤ k ∧ ptsP b = thenP L (ptsP (b.drop k)) ∧ Below w.heap.size w wr)
    (fun _ at_ _ => n - (intOf at_).toNat)
  case atStart => exact ⟨0, [], rfl, Nat.zero_le _, .inl rfl, ownP_nil _ _, by simp, (then_nil _).symm, Below.refl _ _⟩
  case round =>
    obtain ⟨k, L, rfl, hk, hk4, ho, hLk, hU, hb⟩ := hrel
    have HO := Lib.hid ho
    have HU := Lib.hid hU
    have HB := Lib.hid hb
    have HK4 := Lib.hid hk4
    have zB := hb.size
    clear ho hU hb hk4
    by_cases hkn : k < n
    case neg =>
      obtain rfl : k = n := by omega
      have HP := Lib.hid (show ptsP b = .ok L by rw [HU.out, List.drop_of_length_le (by rw [HBL.out]; exact Nat.le_refl _), pts_nil]; simp [thenP])
      obtain ⟨Ao, Co, vs, rfl, how⟩ := HO.out
      have HOW := Lib.hid (show OwnP wr w.heap.size (.slice Ao L.length Co) L from ⟨Ao, Co, vs, rfl, how⟩)
      clear how
      by_cases q1 : 64 < L.length
      case pos =>
        have HF := Lib.hid (parts_many HBN.out HP.out (.inl q1))
        go_wp2_with fail
        go_ret2
        exact rparts_err HF.out rfl rfl HB.out
      case neg =>
      by_cases q2 : 65535 < k
      case pos =>
        have HF := Lib.hid (parts_many HBN.out HP.out (.inr (by rw [HBL.out]; exact q2)))
        go_wp2_with fail
        go_ret2
        exact rparts_err HF.out rfl rfl HB.out
      case neg =>
        have HF := Lib.hid (parts_ok HBN.out HP.out (by rw [HBL.out]; omega))
        go_wp2_with fail
        go_ret2
        exact rparts_ok HF.out rfl HOW.out HB.out
    case pos =>
    have hdl : (b.drop k).length = n - k := by rw [List.length_drop, HBL.out]
    have hdn : b.drop k ≠ [] := by intro e; rw [e] at hdl; simp at hdl; omega
    have HERR := Lib.hid (fun (i : Nat) (hp : partP (b.drop k) = .error i) => (show partsP b = .error i from parts_err HBN.out (by rw [HU.out, pts_err hdn hp]; rfl)))
    by_cases h4 : k + 4 ≤ n
    case neg =>
      have HF := Lib.hid (HERR.out 0 (by unfold partP; rw [if_pos (by rw [hdl]; omega)]))
      clear HERR hdl hdn
      go_wp2_with fail
      go_ret2
      exact rparts_err HF.out rfl rfl HB.out
    case pos =>
    have HRW := Lib.hid (H.out.below HB.out (Nat.le_refl _))
    obtain ⟨bb, off, rfl, hlt, -⟩ := HRW.out.at_ (by omega)
    obtain ⟨x0, x1, x2, x3, t, hr⟩ := four_of (r := b.drop k) (by rw [hdl]; omega)
    have HD := row_drop8 HRW.out (k := k) (by omega)
    have hCk : ¬ C = k := by omega
    have htl : t.length = n - k - 4 := by
      rw [hr] at hdl
      simp only [List.length_cons] at hdl
      omega
    rw [if_neg hCk, hr] at HD
    have c0 := cell4 HD (j := 0) (by omega)
    have c1 := cell4 HD (j := 1) (by omega)
    have c2 := cell4 HD (j := 2) (by omega)
    have c3 := cell4 HD (j := 3) (by omega)
    simp only [Nat.add_zero, List.getD_cons_zero, List.getD_cons_succ] at c0 c1 c2 c3
    have HS2 := Lib.hid (row_take8 HD (k := 2) (by omega))
    have HN := Lib.hid (fun m => num_any bb (off + k) 4 (C - k) x0 x1 (wr.drewN m) (by omega) c0 c1)
    have HP := Lib.hid (part_doc x0 x1 x2 x3 t)
    have HRD := Lib.hid hr
    have HTD := Lib.hid (show t = b.drop (k + 4) by rw [← List.drop_drop, hr]; rfl)
    have e15 : bits .and .u8 (x0.toNat : Int) 15 = ((x0.toNat % 16 : Nat) : Int) := and15 x0
    have hx0 := UInt8.toNat_lt x0
    have hx1 := UInt8.toNat_lt x1
    have hx2 := UInt8.toNat_lt x2
    have hx3 := UInt8.toNat_lt x3
    obtain ⟨v, hv⟩ : ∃ v, x0.toNat + 256 * x1.toNat = v := ⟨_, rfl⟩
    rw [hv] at HN HP
    obtain ⟨q, hqv⟩ : ∃ q, v / 16 = q := ⟨_, rfl⟩
    rw [hqv] at HP
    obtain ⟨lo, hlo⟩ : ∃ lo, x0.toNat % 16 = lo := ⟨_, rfl⟩
    rw [hlo] at HP e15
    have hq1 : q ≤ 4095 := by omega
    have eq1 : (v : Int) / 16 = (q : Int) := by omega
    have hv6 : v < 65536 := by omega
    rw [hr] at HERR
    have HSUM := Lib.hid (show ∀ m, Calls Tryd.prog 30 #[.slice (some ⟨bb, off + k, none⟩) 2 (C - k)] (wr.drewN m) fun e w'' => e = .returned (.int .u8 ((Crc.sum [x0, x1]).toNat : Int)) ∧ ∃ n, w'' = wr.drewN n from fun m => quiet_same (refSum_any _ _ _ _ _ (HS2.out.drewN m)))
    have j0 : (0 : Int) < 4 := by omega
    have j2 : (2 : Int) < 4 := by omega
    have j3 : (3 : Int) < 4 := by omega
    have jc : (2 : Int) ≤ (C : Int) - (k : Int) := by omega
    have jC : ((C - k : Nat) : Int) = (C : Int) - (k : Int) := by omega
    clear hv hqv HD hlo hdl hdn hr
    by_cases q1 : Crc.sum [x0, x1] = x2
    case neg =>
      have HF := Lib.hid (HERR.out 5 (by rw [HP.out]; rw [if_pos q1]))
      have g1 : (((Crc.sum [x0, x1]).toNat : Int) != (x2.toNat : Int)) = true := by rw [bne, u8_eq]; simpa using q1
      clear HERR q1
      go_wp2_with fail
      go_quiet ((go_at_call 30; (with_reducible exact HSUM.out _)))
      go_wp2_with fail
      go_ret2
      exact rparts_err HF.out rfl rfl (HB.out.trans (by first | exact below_drewN _ | exact (below_drewN _).trans (below_drewN _)))
    case pos =>
    by_cases q2 : x3 = 78
    case neg =>
      have HF := Lib.hid (HERR.out 1 (by rw [HP.out]; rw [if_neg (by simpa using q1), if_pos (.inl q2)]))
      have g1 : (((Crc.sum [x0, x1]).toNat : Int) != (x2.toNat : Int)) = false := by rw [bne, u8_eq]; simpa using q1
      have g2 : ((x3.toNat : Int) != 78) = true := by rw [show (78 : Int) = ((78 : UInt8).toNat : Int) from rfl, bne, u8_eq]; simpa using q2
      clear HERR q1 q2
      go_wp2_with fail
      go_quiet ((go_at_call 30; (with_reducible exact HSUM.out _)))
      go_wp2_with fail
      refine (HN.out _).mono ?_
      rintro e w1 ⟨rfl, m1, rfl⟩
      go_wp2_with fail
      go_ret2
      exact rparts_err HF.out rfl rfl (HB.out.trans (by first | exact below_drewN _ | exact (below_drewN _).trans (below_drewN _)))
    case pos =>
    by_cases q3 : lo = 0
    case neg =>
      have HF := Lib.hid (HERR.out 1 (by rw [HP.out]; rw [if_neg (by simpa using q1), if_pos (.inr (.inl q3))]))
      have g1 : (((Crc.sum [x0, x1]).toNat : Int) != (x2.toNat : Int)) = false := by rw [bne, u8_eq]; simpa using q1
      have g2 : ((x3.toNat : Int) != 78) = false := by rw [show (78 : Int) = ((78 : UInt8).toNat : Int) from rfl, bne, u8_eq]; simpa using q2
      have g3 : ((lo : Int) != 0) = true := by simp; omega
      clear HERR q1 q2 q3
      go_wp2_with fail
      go_quiet ((go_at_call 30; (with_reducible exact HSUM.out _)))
      go_wp2_with fail
      refine (HN.out _).mono ?_
      rintro e w1 ⟨rfl, m1, rfl⟩
      go_wp2_with fail
      go_ret2
      exact rparts_err HF.out rfl rfl (HB.out.trans (by first | exact below_drewN _ | exact (below_drewN _).trans (below_drewN _)))
    case pos =>
    by_cases q4 : 0 < q
    case neg =>
      have HF := Lib.hid (HERR.out 1 (by rw [HP.out]; rw [if_neg (by simpa using q1), if_pos (.inr (.inr (by omega)))]))
      have g1 : (((Crc.sum [x0, x1]).toNat : Int) != (x2.toNat : Int)) = false := by rw [bne, u8_eq]; simpa using q1
      have g2 : ((x3.toNat : Int) != 78) = false := by rw [show (78 : Int) = ((78 : UInt8).toNat : Int) from rfl, bne, u8_eq]; simpa using q2
      have g3 : ((lo : Int) != 0) = false := by simp; omega
      have g4 : ((q : Int) == 0) = true := by simp; omega
      clear HERR q1 q2 q3
      go_wp2_with fail
      go_quiet ((go_at_call 30; (with_reducible exact HSUM.out _)))
      go_wp2_with fail
      refine (HN.out _).mono ?_
      rintro e w1 ⟨rfl, m1, rfl⟩
      go_wp2_with fail
      go_ret2
      exact rparts_err HF.out rfl rfl (HB.out.trans (by first | exact below_drewN _ | exact (below_drewN _).trans (below_drewN _)))
    case pos =>
    by_cases q5 : q ≤ n - k - 4
    case neg =>
      have HF := Lib.hid (HERR.out 0 (by rw [HP.out]; rw [if_neg (by simpa using q1), if_neg (by rintro (h | h | h); exact h q2; exact h q3; omega), if_pos (by rw [htl]; omega)]))
      have g1 : (((Crc.sum [x0, x1]).toNat : Int) != (x2.toNat : Int)) = false := by rw [bne, u8_eq]; simpa using q1
      have g2 : ((x3.toNat : Int) != 78) = false := by rw [show (78 : Int) = ((78 : UInt8).toNat : Int) from rfl, bne, u8_eq]; simpa using q2
      have g3 : ((lo : Int) != 0) = false := by simp; omega
      have g4 : ((q : Int) == 0) = false := by simp; omega
      have g5 : decide ((n : Int) - ((k : Int) + 4) < (q : Int)) = true := by simp; omega
      clear HERR q1 q2 q3
      go_wp2_with fail
      go_quiet ((go_at_call 30; (with_reducible exact HSUM.out _)))
      go_wp2_with fail
      refine (HN.out _).mono ?_
      rintro e w1 ⟨rfl, m1, rfl⟩
      go_wp2_with fail
      go_ret2
      exact rparts_err HF.out rfl rfl (HB.out.trans (by first | exact below_drewN _ | exact (below_drewN _).trans (below_drewN _)))
    case pos =>
      have g1 : (((Crc.sum [x0, x1]).toNat : Int) != (x2.toNat : Int)) = false := by rw [bne, u8_eq]; simpa using q1
      have g2 : ((x3.toNat : Int) != 78) = false := by rw [show (78 : Int) = ((78 : UInt8).toNat : Int) from rfl, bne, u8_eq]; simpa using q2
      have g3 : ((lo : Int) != 0) = false := by simp; omega
      have g4 : ((q : Int) == 0) = false := by simp; omega
      have g5 : decide ((n : Int) - ((k : Int) + 4) < (q : Int)) = false := by simp; omega
      have hok : partP (x0 :: x1 :: x2 :: x3 :: t) = .ok (t.take q) := by rw [HP.out, if_neg (by simpa using q1), if_neg (by rintro (h | h | h); exact h q2; exact h q3; omega), if_neg (by rw [htl]; omega)]
      obtain ⟨x, hx⟩ : ∃ x, t.take q = x := ⟨_, rfl⟩
      have hxl : x.length = q := by rw [← hx, List.length_take]; omega
      rw [hx] at hok
      subst hxl
      have HD4 := row_take8 (row_drop8 HRW.out (k := k + 4) (by omega)) (k := x.length) (by omega)
      have hC4 : ¬ C = k + 4 := by omega
      rw [if_neg hC4, ← HTD.out, hx] at HD4
      have HBY := Lib.hid (fun m => bytes_any _ _ _ x (wr.drewN m) (HD4.drewN m) (by omega))
      rw [← HRD.out] at hok
      obtain ⟨p, hp⟩ : ∃ p, k + 4 + x.length = p := ⟨_, rfl⟩
      have hpn : p ≤ n := by omega
      obtain ⟨m, hmin⟩ : ∃ m, min (n - p) (up4 x.length - x.length) = m := ⟨_, rfl⟩
      have HSD := Lib.hid (show (b.drop k).drop (4 + x.length) = b.drop p by rw [List.drop_drop, ← hp]; congr 1; omega)
      have HTH := pts_three (k1 := n - p) (m := m) HU.out hok (by rw [List.length_drop, HBL.out]; omega) (by rw [List.length_drop, HBL.out]; omega) hmin
      rw [HSD.out, List.drop_drop] at HTH
      have HT1 := Lib.hid HTH.1
      have HT2 := Lib.hid HTH.2.1
      have HT3 := Lib.hid HTH.2.2
      have hmp : (∀ t, t < m → ¬ (p + t) % 4 = 0) ∧ m ≤ n - p ∧ ((p + m) % 4 = 0 ∨ p + m = n) ∧ m ≤ 3 := by
        rcases HK4.out with h | h
        · unfold up4 at hmin; refine ⟨fun t ht => ?_, ?_, ?_, ?_⟩ <;> omega
        · omega
      obtain ⟨hm1, hm2, hm3, hm4⟩ := hmp
      have HM1 := Lib.hid hm1
      have HM3 := Lib.hid hm3
      have HPE := Lib.hid hp
      clear hp
      clear HERR q1 q2 q3 HD4 hok hx hmin HTH hm1 hm3
      go_wp2_with fail
      go_quiet ((go_at_call 30; (with_reducible exact HSUM.out _)))
      go_wp2_with fail
      refine (HN.out _).mono ?_
      rintro e w1 ⟨rfl, m1, rfl⟩
      go_wp2_with fail
      refine (HBY.out _).mono ?_
      rintro e w1 ⟨A2, n2, C2, rfl, hown, hb1⟩
      obtain rfl : n2 = x.length := hown.len.symm
      have ep : (k : Int) + 4 + (x.length : Int) = (p : Int) := by have := HPE.out; omega
      have HB1 := Lib.hid (HB.out.trans (Below.mono (Below.trans (below_drewN _) hb1) zB))
      have HO1 := Lib.hid (HO.out.below (Below.trans (below_drewN _) hb1) (Nat.le_refl _))
      have HY1 := Lib.hid (OwnU8.base_le hown zB)
      have z1 := HB1.out.size
      clear hown hb1
      go_wp2_with (at_builtin; refine append_part _ rfl (.tmp 58) (.tmp 66) rfl w.heap.size L (HO1.out.alloc _) (by omega) A2 C2 x (HY1.out.alloc _) w1.heap.size rfl (row_slice _ _ _) (by simp; omega) ?_; intro v' w2 ho2 hsh hb2 hk2; obtain ⟨A5, C5, rfl⟩ := hsh; have HO2 := Lib.hid ho2; have HB2 := Lib.hid ((HB1.out.alloc z1 _).trans hb2); clear ho2 hb2 hk2)
      have hlen : (L ++ [x]).length = L.length + 1 := by simp
      have HRX := Lib.hid (H.out.below HB2.out (Nat.le_refl _))
      clear c0 c1 c2 c3 hq1 eq1 hv6 j0 j2 j3 jc jC e15 hx0 hx1 hx2 hx3 g1 g2 g3 g4 g5 ep
      go_loopw [5] (fun at_ wi => ∃ u t : Nat, u = p + t ∧ at_ = .int .i64 u ∧ t ≤ m ∧ ((b.drop p).take t).any (fun c => c != 0) = false ∧ ¬ (0 < t ∧ t = n - p) ∧ wi = w2)
        (fun at_ _ => n - (intOf at_).toNat)
      case atStart => exact ⟨p, 0, rfl, rfl, Nat.zero_le _, rfl, by omega, rfl⟩
      case round =>
        obtain ⟨u, t', hu, rfl, htm, hz, hnt, rfl⟩ := hrel
        have HZ := Lib.hid hz
        clear hz
        by_cases htl' : t' < m
        case pos =>
          have hne : ¬ u % 4 = 0 := by rw [hu]; exact HM1.out t' htl'
          have hun : u < n := by omega
          have e1 : ((u : Int) % 4 != 0) = true := by simp; omega
          have e2 : decide ((u : Int) < (n : Int)) = true := decide_eq_true (by omega)
          have cu := cell4 HRX.out (j := u) hun
          have hsl : t' < (b.drop p).length := by rw [List.length_drop, HBL.out]; omega
          have hgd : b.getD u 0 = (b.drop p).getD t' 0 := by rw [List.getD_eq_getElem?_getD, List.getD_eq_getElem?_getD, List.getElem?_drop, hu]
          have HHIT := Lib.hid (fun (h : b.getD u 0 ≠ 0) => parts_err HBN.out (HT1.out (any_hit (b.drop p) (fun c => c != 0) t' m hsl htl' (by rw [← hgd]; simpa using h))))
          have HNX := Lib.hid (fun (h : b.getD u 0 = 0) => (show ((b.drop p).take (t' + 1)).any (fun c => c != 0) = false by rw [any_next _ _ _ hsl, HZ.out, ← hgd, h]; rfl))
          have HEND := Lib.hid (fun (h : b.getD u 0 = 0) (h1 : u + 1 = n) => parts_err HBN.out (HT2.out (by rw [show m = t' + 1 by omega]; exact HNX.out h) (by omega) (by omega)))
          clear hgd hne hsl
          generalize b.getD u 0 = y at *
          have hyl := UInt8.toNat_lt y
          by_cases hy : y = 0
          case pos =>
            have e3 : ((y.toNat : Int) != 0) = false := by rw [hy]; rfl
            by_cases hu1 : u + 1 = n
            case pos =>
              have HF := Lib.hid (HEND.out hy hu1)
              have e4 : ((u : Int) + 1 == (n : Int)) = true := by simp; omega
              clear hy HEND HNX HHIT hu hnt hu1
              go_wp2_with fail
              go_ret2
              exact rparts_err HF.out rfl rfl HB2.out
            case neg =>
              have HF := Lib.hid (HNX.out hy)
              have e4 : ((u : Int) + 1 == (n : Int)) = false := by simp; omega
              have HUE := Lib.hid hu
              have HNT := Lib.hid hnt
              clear hy HEND HNX HHIT hu hnt
              go_wp2_with fail
              go_roundw
              case rel => have hu := HUE.out; exact ⟨u + 1, t' + 1, by omega, by go_num, by omega, HF.out, by omega, by trivial⟩
              case measure => simp [intOf]; omega
          case neg =>
            have HF := Lib.hid (HHIT.out hy)
            have e3 : ((y.toNat : Int) != 0) = true := by
              have : y.toNat ≠ 0 := fun e => hy (UInt8.toNat_inj.1 e)
              simp; omega
            clear hy HEND HNX HHIT hu hnt
            go_wp2_with fail
            go_ret2
            exact rparts_err HF.out rfl rfl HB2.out
        case neg =>
          obtain rfl : t' = m := by omega
          have HPT := Lib.hid (show ptsP b = thenP (L ++ [x]) (ptsP (b.drop u)) by rw [hu]; exact HT3.out HZ.out (by omega))
          have HUE := Lib.hid hu
          have hun2 : u ≤ n := by omega
          by_cases h4' : u % 4 = 0
          case pos =>
            have e1 : ((u : Int) % 4 != 0) = false := by simp; omega
            clear hu hnt
            go_wp2_with fail
            go_roundw
            case rel => exact ⟨u, L ++ [x], rfl, by omega, .inl h4', HO2.out, by have := HPE.out; have := HUE.out; omega, HPT.out, HB2.out⟩
            case measure => have := HPE.out; have := HUE.out; simp [intOf]; omega
          case neg =>
            have hun : u = n := by have := HM3.out; omega
            have e1 : ((u : Int) % 4 != 0) = true := by simp; omega
            have e2 : decide ((u : Int) < (n : Int)) = false := decide_eq_false (by omega)
            clear hu hnt e2 HUE
            subst hun
            go_wp2_with fail
            go_roundw
            case rel => exact ⟨u, L ++ [x], rfl, by omega, .inr rfl, HO2.out, by have := HPE.out; omega, HPT.out, HB2.out⟩
            case measure => have := HPE.out; simp [intOf]; omega
end Go.Proofs.YtplcdjdmkmdddaaDoor
