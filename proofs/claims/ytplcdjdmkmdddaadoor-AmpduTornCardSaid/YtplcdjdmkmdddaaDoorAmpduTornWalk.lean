/-
  The walk of AmpduTorn.
-/
import Derived.Test.YtplcdjdmkmdddaaDoorTornPlain
import Derived.Test.YtplcdjdmkmdddaaDoorUnpack
import Derived.Test.YtplcdjdmkmdddaaDoorAmFirst
import Derived.Test.YtplcdjdmkmdddaaDoorNumber
namespace Go.Proofs.YtplcdjdmkmdddaaDoor
open Go.ChangeShapes Go.WideShapes Go.ChangeAt Go.RowKit
set_option linter.unusedVariables false

theorem fill_set (f : UInt8) (n k : Nat) (h : k < n) : (List.replicate k f ++ List.replicate (n - k) 0).set k f = List.replicate (k + 1) f ++ List.replicate (n - (k + 1)) 0 := by
  obtain ⟨m, rfl⟩ : ∃ m, n = k + 1 + m := ⟨n - (k + 1), by omega⟩
  rw [show k + 1 + m - k = m + 1 by omega, show k + 1 + m - (k + 1) = m by omega, List.replicate_succ (n := m), List.set_append_right _ _ (by simp), List.length_replicate, Nat.sub_self, List.set_cons_zero, List.replicate_succ', List.append_assoc, List.singleton_append]
theorem u8_of_wf {a : Int} (h : (Lit.int .u8 a).wf = true) : ∃ f : UInt8, a = (f.toNat : Int) := by
  have hx : 0 ≤ a ∧ a ≤ 255 := by simpa [Lit.wf, IntKind.min, IntKind.max, IntKind.signed, IntKind.bits] using h
  refine ⟨UInt8.ofNat a.toNat, ?_⟩
  rw [UInt8.toNat_ofNat']
  omega
theorem in_all {k : Nat} (h : k ∈ allErr) : ∀ i, some k = some i → i ∈ allErr := by intro i e; injection e with e; subst e; exact h

set_option maxRecDepth 100000 in
set_option maxHeartbeats 4000000 in
theorem ampduTorn_walk (w : World) {E : Nat → Addr} (hE : Errs allErr w E) (a0 : Int) (w0 : (Lit.int .i64 a0).wf = true) (a1 : Int) (w1 : (Lit.int .i64 a1).wf = true) (a2 : Int) (w2 : (Lit.int .i64 a2).wf = true) (a3 : Int) (w3 : (Lit.int .u8 a3).wf = true) :
    Calls Tryd.prog 7 #[.int .i64 a0, .int .i64 a1, .int .i64 a2, .int .u8 a3] w fun e w' => e = .returned (.bool true) ∧ Below w.heap.size w w' := by
  obtain ⟨hb0, hb0'⟩ := bounds_i64 w0
  obtain ⟨hb1, hb1'⟩ := bounds_i64 w1
  obtain ⟨hb2, hb2'⟩ := bounds_i64 w2
  obtain ⟨f, rfl⟩ := u8_of_wf w3
  clear w0 w1 w2 w3
  have s0 := Int.emod_nonneg a0 (show (20 : Int) ≠ 0 by omega)
  have s1 := Int.emod_lt_of_pos a0 (show (0 : Int) < 20 by omega)
  have t0 := Int.emod_nonneg a2 (show (50 : Int) ≠ 0 by omega)
  have t1 := Int.emod_lt_of_pos a2 (show (0 : Int) < 50 by omega)
  obtain ⟨x, hxx⟩ : ∃ x : Nat, a0 % 20 = x := ⟨(a0 % 20).toNat, by omega⟩
  obtain ⟨y, hyy⟩ : ∃ y : Nat, a2 % 50 = y := ⟨(a2 % 50).toNat, by omega⟩
  have r0 := Int.emod_nonneg a1 (show ((x : Int) + 1) ≠ 0 by omega)
  have r1 := Int.emod_lt_of_pos a1 (show (0 : Int) < (x : Int) + 1 by omega)
  obtain ⟨z, hzz⟩ : ∃ z : Nat, a1 % ((x : Int) + 1) = z := ⟨(a1 % ((x : Int) + 1)).toNat, by omega⟩
  have HX := Lib.hid hxx
  have HY := Lib.hid hyy
  have HZ := Lib.hid hzz
  have x1 : x ≤ 19 := by omega
  have y1 : y ≤ 49 := by omega
  have z1 : z ≤ x := by omega
  clear hxx hyy hzz s0 s1 t0 t1 r0 r1
  have HE := Lib.hid hE
  clear hE
  have hf := UInt8.toNat_lt f
  go_enter Tryd.func7, Tryd.ntmps7
  go_wp2_with fail
  refine (amfirst_any (HE.out.sub (by decide))).mono ?_
  rintro e w1 ⟨rfl, hw1⟩
  have HB1 := Lib.hid hw1
  clear hw1
  go_wp2_with fail
  refine (number_any a0 20 _ (by omega) (by omega) hb0 hb0').mono ?_
  rintro e w2 ⟨rfl, rfl⟩
  rw [HX.out]
  go_wp2_with fail
  refine (number_any a1 ((x : Int) + 1) _ (by omega) (by omega) hb1 hb1').mono ?_
  rintro e w2 ⟨rfl, rfl⟩
  rw [HZ.out]
  go_wp2_with fail
  refine (number_any a2 50 _ (by omega) (by omega) hb2 hb2').mono ?_
  rintro e w2 ⟨rfl, rfl⟩
  rw [HY.out]
  by_cases h78 : f.toNat = 78
  · go_wp2_with fail
    go_ret
    exact ⟨rfl, HB1.out⟩
  have e78 : ((f.toNat : Int) == 78) = false := by simp; omega
  obtain ⟨Z, hZ⟩ : ∃ Z, List.replicate (y + 1) f = Z := ⟨_, rfl⟩
  have HZL := Lib.hid (show Z.length = y + 1 by rw [← hZ, List.length_replicate])
  have HZE := Lib.hid hZ
  have HZF := Lib.hid (show ∀ c ∈ Z, c ≠ 78 by
    intro c hc e
    rw [← hZ] at hc
    rw [List.eq_of_mem_replicate hc] at e
    rw [e] at h78
    exact h78 rfl)
  clear hZ
  go_wp2_with fail
  go_loopw [10, 11] (fun out i wr => ∃ k : Nat, k ≤ x + 1 ∧ i = .int .i64 k ∧ OwnP wr w.heap.size out (List.replicate k Z) ∧ Below w.heap.size w wr)
    (fun _ i _ => x + 1 - (intOf i).toNat)
  case atStart => exact ⟨0, Nat.zero_le _, rfl, ownP_nil _ _, HB1.out⟩
  case round =>
    obtain ⟨k, hk, rfl, ho, hb⟩ := hrel
    have HO := Lib.hid ho
    have HB := Lib.hid hb
    have zB := hb.size
    clear ho hb
    by_cases hlt : k < x + 1
    case pos =>
      go_wp2_with (at_make; refine make_u8_full _ rfl _ _ rfl .i64 .i64 ((y : Int) + 1) ((y : Int) + 1) (y + 1) rfl rfl (by simp) (by simp) (by omega) ?_; intro w4 hown4 hg4; have HB4 := Lib.hid ((Below.refl wr.heap.size wr).grown hg4 (Nat.le_refl _) (fun k hk => by cases hk)); have HO4 := Lib.hid hown4; clear hown4 hg4)
      obtain ⟨wo, hwo⟩ : ∃ wo, wo = wr := ⟨_, rfl⟩
      subst hwo
      go_loopw [13] (fun kk wi => ∃ j : Nat, j ≤ y + 1 ∧ kk = .int .i64 j ∧ OwnU8 wi wo.heap.size (some ⟨wo.heap.size, 0, none⟩) (y + 1) (y + 1) (List.replicate j f ++ List.replicate (y + 1 - j) 0) ∧ Below wo.heap.size wo wi)
        (fun kk _ => y + 1 - (intOf kk).toNat)
      case atStart => exact ⟨0, Nat.zero_le _, rfl, HO4.out, HB4.out⟩
      case round =>
        obtain ⟨j, hj, rfl, hown, hbi⟩ := hrel
        have HV := Lib.hid hown
        have HBI := Lib.hid hbi
        have zi := hbi.size
        clear hown hbi
        by_cases hjl : j < y + 1
        case pos =>
          obtain ⟨g, hgg, hg0, hglt, hcell, hfro, hset⟩ := HV.out.open_ (by omega)
          injection hgg with hgg
          injection hgg with hgg
          subst hgg
          have hll : j < (List.replicate j f ++ List.replicate (y + 1 - j) 0).length := by simp; omega
          have hc := hcell j hll
          have hf2 := hfro j
          have hs := hset j f
          rw [fill_set f (y + 1) j hjl] at hs
          have HS := Lib.hid hs
          have HBS := Lib.hid (HBI.out.setCell (p := ⟨wo.heap.size, j, none⟩) (Nat.le_refl _) (.int .u8 (f.toNat : Int)))
          generalize ((List.replicate j f ++ List.replicate (y + 1 - j) 0)[j]'hll) = old at *
          clear hcell hfro hset hs hll
          go_wp2_with fail
          go_roundw
          case rel => exact ⟨j + 1, by omega, by go_num, HS.out, HBS.out⟩
          case measure => simp [intOf]; omega
        case neg =>
          obtain rfl : j = y + 1 := by omega
          have HV2 := Lib.hid (show OwnU8 wr w.heap.size (some ⟨wo.heap.size, 0, none⟩) Z.length (y + 1) Z by
            have := OwnU8.base_le HV.out zB
            rw [Nat.sub_self, List.replicate_zero, List.append_nil, HZE.out] at this
            rw [HZL.out]; exact this)
          go_wp2_with (at_builtin; refine append_part _ rfl (.tmp 50) (.tmp 52) rfl w.heap.size (List.replicate k Z) ((HO.out.below HBI.out (Nat.le_refl _)).alloc _) (by rw [List.length_replicate]; omega) _ _ Z (HV2.out.alloc _) wr.heap.size rfl (by rw [HZL.out]; exact row_slice _ _ _) (by simp; omega) ?_; intro v' w5 ho5 hsh hb5 hk5; have HO5 := Lib.hid ho5; have HB5 := Lib.hid (((HB.out.trans (HBI.out.mono zB)).alloc (by omega) _).trans hb5); clear ho5 hsh hb5 hk5)
          go_roundw
          case rel => exact ⟨k + 1, by omega, by go_num, by rw [List.replicate_succ']; exact HO5.out, HB5.out⟩
          case measure => simp [intOf]; omega
    case neg =>
      obtain rfl : k = x + 1 := by omega
      obtain ⟨Ao, Co, rfl, hro⟩ := HO.out.row
      have hcell : (List.replicate (x + 1) Z).length = x + 1 := List.length_replicate
      rw [hcell] at hro
      have HR := Lib.hid hro
      have HEr := Lib.hid (HE.out.below HB.out (Nat.le_refl _))
      have HPR := Lib.hid (pack_any (HEr.out.sub (T := [2, 3]) (by decide)) Ao (x + 1) Co _ HR.out (by omega))
      have hgood : goodL (List.replicate (x + 1) Z) := by intro u hu; rw [(List.mem_replicate.1 hu).2, HZL.out]; omega
      have hne : List.replicate (x + 1) Z ≠ [] := by simp [List.replicate_succ]
      have hml := pack_rep Z x
      rw [HZL.out] at hml
      obtain ⟨m, hm⟩ : ∃ m, (packP (List.replicate (x + 1) Z)).length = m := ⟨_, rfl⟩
      have HM := Lib.hid hm
      obtain ⟨s, hs⟩ : ∃ s, 4 + up4 (y + 1) = s := ⟨_, rfl⟩
      have hu4 : s ≤ 56 ∧ y + 5 ≤ s := by unfold up4 at hs; omega
      have eS : ((4 : Int) + ((y : Int) + 1) + 3) / 4 * 4 = (s : Int) := by rw [← hs]; unfold up4; omega
      have hT := torn_same Z (x + 1) z (by omega) (by rw [HZL.out]; omega) (by rw [HZL.out]; omega) HZF.out
      rw [HZL.out, hs] at hT
      rw [hs] at hml
      obtain ⟨P, hP⟩ : ∃ P, z * s = P := ⟨_, rfl⟩
      rw [hP] at hT
      have HT1 := Lib.hid hT.1
      have HT2 := Lib.hid hT.2
      have eP : (z : Int) * (s : Int) = (P : Int) := by rw [← hP]; exact (Int.natCast_mul z s).symm
      have hzx : P ≤ x * s := by rw [← hP]; exact Nat.mul_le_mul_right _ z1
      have hxs : x * s ≤ 19 * 56 := Nat.mul_le_mul x1 hu4.1
      have hm2 : P + 3 < m ∧ m ≤ 2000 := by rw [← hm, hml]; omega
      have HP := Lib.hid (packR_yes hgood hne (by rw [List.length_replicate]; omega) (by rw [hm]; omega))
      have hgn : ∀ w, (eqGuard .neq 27 (.tmp 64) (.const .nilIface) .nilIface .nilIface).run Tryd.prog w = .ok () w := fun w => err_guard' E none (.tmp 64) .nilIface w
      clear hro hm hml hcell hgood hne hs hP hzx hxs hT
      go_wp2_with fail
      refine HPR.out.mono ?_
      intro e w4 hpk
      obtain ⟨A4, C4, rfl, hown, hb4⟩ := packR_take_ok hpk HP.out
      rw [HM.out] at hown ⊢
      have HQ := Lib.hid hown
      have HB4 := Lib.hid (HB.out.trans (hb4.mono zB))
      clear hb4 hown hpk
      have z4 := HB4.out.size
      obtain ⟨g, rfl, hg0, hglt, hcell, hfro, hset⟩ := HQ.out.open_ (by omega)
      have hll : P + 3 < (packP (List.replicate (x + 1) Z)).length := by rw [HM.out]; omega
      have hc := hcell (P + 3) hll
      have hf2 := hfro (P + 3)
      have HS := Lib.hid (show OwnU8 (w4.setCell ⟨g, P + 3, none⟩ (.int .u8 0)) wr.heap.size (some ⟨g, 0, none⟩) m C4 ((packP (List.replicate (x + 1) Z)).set (P + 3) 0) from hset (P + 3) 0)
      have HBS := Lib.hid (HB4.out.setCell (p := ⟨g, P + 3, none⟩) (show w.heap.size ≤ g by omega) (.int .u8 0))
      generalize ((packP (List.replicate (x + 1) Z))[P + 3]'hll) = old at *
      clear hcell hfro hset hll
      go_wp2_with fail
      have HE5 := Lib.hid (HE.out.below HBS.out (Nat.le_refl _))
      have z5 := HBS.out.size
      have HPW := Lib.hid (parts_any (HE5.out.sub (T := [0, 1, 3, 5]) (by decide)) _ m C4 _ HS.out.row (by omega))
      have HSR := Lib.hid HS.out.row
      have hmm := HSR.out.len_cap
      clear hc hf2
      generalize w4.setCell ⟨g, P + 3, none⟩ (.int .u8 0) = w5 at *
      refine HPW.out.mono ?_
      rw [HT1.out]
      rintro e w6 ⟨rfl, hb6⟩
      have HB6 := Lib.hid (HBS.out.trans (hb6.mono z5))
      have HSR6 := Lib.hid (HSR.out.below hb6 (Nat.le_refl _))
      have HE6 := Lib.hid (HE.out.below HB6.out (Nat.le_refl _))
      have z6 := HB6.out.size
      clear hb6
      have HUW := Lib.hid (unpack_any (HE6.out.sub (T := [0, 1, 5]) (by decide)) _ m C4 _ HSR6.out (by omega))
      go_wp2_with fail
      refine HUW.out.mono ?_
      rintro e w7 ⟨v, rfl, ho7, hb7⟩
      obtain ⟨A7, C7, rfl, -⟩ := ho7.row
      rw [HT2.out]
      have HB7 := Lib.hid (HB6.out.trans (hb7.mono z6))
      have HE7 := Lib.hid (HE.out.below HB7.out (Nat.le_refl _))
      have z7 := HB7.out.size
      clear ho7 hb7
      rw [show x + 1 - 1 = x by omega]
      have HIS := Lib.hid (is_any HE7.out (some 1) (in_all (by decide)) 102)
      go_wp2_with fail
      refine HIS.out.mono ?_
      rintro e w8 ⟨rfl, hb8⟩
      have HB8 := Lib.hid (HB7.out.trans (hb8.mono z7))
      clear hb8
      rw [show (errCode (some 1) == 102) = true by decide]
      go_wp2_with fail
      go_ret
      exact ⟨rfl, HB8.out⟩
end Go.Proofs.YtplcdjdmkmdddaaDoor
