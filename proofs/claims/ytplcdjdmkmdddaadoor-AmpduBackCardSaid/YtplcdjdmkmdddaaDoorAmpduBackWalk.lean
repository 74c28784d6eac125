/-
  The walk of AmpduBack.
-/
import Derived.Test.YtplcdjdmkmdddaaDoorBackPlain
import Derived.Test.YtplcdjdmkmdddaaDoorUnpack
import Derived.Test.YtplcdjdmkmdddaaDoorAmFirst
import Derived.Test.YtplcdjdmkmdddaaDoorNumber

namespace Go.Proofs.YtplcdjdmkmdddaaDoor
open Go.ChangeShapes Go.WideShapes Go.ChangeAt Go.RowKit
set_option linter.unusedVariables false

set_option maxRecDepth 100000 in
set_option maxHeartbeats 4000000 in
theorem ampduBack_walk (w : World) {E : Nat → Addr} (hE : Errs [0, 1, 2, 3, 5] w E) (A0 : Option Addr) (n0 C0 : Nat) (L : List (List UInt8)) (h : RowP w A0 n0 C0 L) (a1 : Int) (w1 : (Lit.int .i64 a1).wf = true) :
    Calls Tryd.prog 6 #[.slice A0 n0 C0, .int .i64 a1] w fun e w' => e = .returned (.bool true) ∧ Below w.heap.size w w' := by
  obtain ⟨hb1, hb1'⟩ := bounds_i64 w1
  clear w1
  have hm := h.len_le
  have H := Lib.hid h
  have HN := Lib.hid h.1
  have HE := Lib.hid hE
  clear h hE
  go_enter Tryd.func6, Tryd.ntmps6
  go_wp2_with fail
  refine (amfirst_any (HE.out.sub (by decide))).mono ?_
  rintro e w1 ⟨rfl, hw1⟩
  have HB1 := Lib.hid hw1
  have z1 := hw1.size
  have HR1 := Lib.hid (H.out.below hw1 (Nat.le_refl _))
  clear hw1
  go_wp2_with fail
  refine (light_any A0 n0 C0 L w1 HR1.out).mono ?_
  rintro e w2 ⟨b, rfl, rfl, hb70⟩
  cases b
  case false =>
    go_wp2_with fail
    go_ret
    exact ⟨rfl, HB1.out⟩
  case true =>
  have hn70 := hb70 rfl
  clear hb70
  have HE1 := Lib.hid (HE.out.below HB1.out (Nat.le_refl _))
  have HPW := Lib.hid (pack_any (HE1.out.sub (T := [2, 3]) (by decide)) A0 n0 C0 L HR1.out (by omega))
  go_wp2_with fail
  refine HPW.out.mono ?_
  intro e w3 hpk
  rcases hpr : packR L with i | b
  case error =>
    obtain ⟨rfl, hb3⟩ := packR_take_err hpk hpr
    have HB3 := Lib.hid (HB1.out.trans (hb3.mono z1))
    have he := fun w => err_neq E i w
    have hg : ∀ w, (eqGuard .neq 27 (.tmp 25) (.const .nilIface) (errV E i) .nilIface).run Tryd.prog w = .ok () w := fun w => err_guard' E (some i) (.tmp 25) .nilIface w
    clear hpk hpr hb3
    go_wp2_with fail
    go_ret
    exact ⟨rfl, HB3.out⟩
  case ok =>
  obtain ⟨rfl, hgood, hne, hl64, hm65⟩ := packR_inv hpr
  obtain ⟨A3, C3, rfl, hown, hb3⟩ := packR_take_ok hpk hpr
  obtain ⟨m, hmm⟩ : ∃ m, (packP L).length = m := ⟨_, rfl⟩
  have h4 := (pack_ne hne).1
  have HM := Lib.hid hmm
  rw [HM.out] at hown hm65 h4 ⊢
  have HV := Lib.hid hown.row
  have hcC := HV.out.len_cap
  have HB3 := Lib.hid (HB1.out.trans (hb3.mono z1))
  have z3 := HB3.out.size
  have HG := Lib.hid hgood
  have HPP := Lib.hid (parts_pack hgood hne hl64 (by rw [hmm]; exact hm65))
  have HUP := Lib.hid (unpack_pack hgood)
  have HAG := Lib.hid (show aggP (lensP L) = (m : Int) by rw [agg_pack, hmm])
  have HE3 := Lib.hid (HE.out.below HB3.out (Nat.le_refl _))
  have hgn : ∀ w, (eqGuard .neq 27 (.tmp 25) (.const .nilIface) .nilIface .nilIface).run Tryd.prog w = .ok () w := fun w => err_guard' E none (.tmp 25) .nilIface w
  have hgn2 : ∀ w, (eqGuard .neq 27 (.tmp 38) (.const .nilIface) .nilIface .nilIface).run Tryd.prog w = .ok () w := fun w => err_guard' E none (.tmp 38) .nilIface w
  clear hpk hpr hb3 hown hgood hmm hne
  have HPA := Lib.hid (parts_any (HE3.out.sub (T := [0, 1, 3, 5]) (by decide)) A3 m C3 _ HV.out (by omega))
  go_wp2_with fail
  refine HPA.out.mono ?_
  rw [HPP.out]
  rintro e w4 ⟨v4, rfl, ho4, hb4⟩
  obtain ⟨A4, C4, rfl, hr4⟩ := ho4.row
  rw [← HN.out] at hr4 ⊢
  have HB4 := Lib.hid (HB3.out.trans (hb4.mono z3))
  have z4 := HB4.out.size
  have HV4 := Lib.hid (HV.out.below hb4 (Nat.le_refl _))
  have HL4 := Lib.hid (H.out.below HB4.out (Nat.le_refl _))
  have HR4 := Lib.hid hr4
  have HSP1 := Lib.hid (sameParts_yes A4 A0 n0 C4 C0 L w4 HR4.out HL4.out)
  clear ho4 hr4 hb4
  go_wp2_with fail
  refine HSP1.out.mono ?_
  rintro e w5 ⟨rfl, hb5⟩
  have HB5 := Lib.hid (HB4.out.trans (hb5.mono z4))
  have z5 := HB5.out.size
  have HV5 := Lib.hid (HV4.out.below hb5 (Nat.le_refl _))
  have HE5 := Lib.hid (HE.out.below HB5.out (Nat.le_refl _))
  clear hb5
  have HUW := Lib.hid (unpack_any (HE5.out.sub (T := [0, 1, 5]) (by decide)) A3 m C3 _ HV5.out (by omega))
  go_wp2_with fail
  refine HUW.out.mono ?_
  rw [HUP.out]
  rintro e w6 ⟨v6, rfl, ho6, hb6⟩
  obtain ⟨A6, C6, rfl, hr6⟩ := ho6.row
  rw [← HN.out] at hr6 ⊢
  have HB6 := Lib.hid (HB5.out.trans (hb6.mono z5))
  have z6 := HB6.out.size
  have HV6 := Lib.hid (HV5.out.below hb6 (Nat.le_refl _))
  have HL6 := Lib.hid (H.out.below HB6.out (Nat.le_refl _))
  have HR6 := Lib.hid hr6
  have HSP2 := Lib.hid (sameParts_yes A6 A0 n0 C6 C0 L w6 HR6.out HL6.out)
  clear ho6 hr6 hb6
  go_wp2_with fail
  refine HSP2.out.mono ?_
  rintro e w7 ⟨rfl, hb7⟩
  have HB7 := Lib.hid (HB6.out.trans (hb7.mono z6))
  have z7 := HB7.out.size
  have HV7 := Lib.hid (HV6.out.below hb7 (Nat.le_refl _))
  have HL7 := Lib.hid (H.out.below HB7.out (Nat.le_refl _))
  clear hb7
  have HLE := Lib.hid (lens_any A0 n0 C0 L w7 HL7.out (by omega))
  go_wp2_with fail
  refine HLE.out.mono ?_
  rintro e w8 ⟨A8, C8, rfl, ho8, hb8⟩
  have HB8 := Lib.hid (HB7.out.trans (hb8.mono z7))
  have z8 := HB8.out.size
  have HV8 := Lib.hid (HV7.out.below hb8 (Nat.le_refl _))
  have HLN := Lib.hid (len_any A8 n0 C8 (lensP L) w8 ⟨by rw [lensP, List.length_map]; exact HN.out, ho8.row⟩ (by omega) (by
    intro z hz
    obtain ⟨x, hx, rfl⟩ := List.mem_map.1 hz
    have := HG.out x hx
    omega))
  clear ho8 hb8
  go_wp2_with fail
  refine HLN.out.mono ?_
  rintro e w9 ⟨rfl, rfl⟩
  rw [HAG.out]
  have hmb : ((m : Int) != (m : Int)) = false := by simp
  go_wp2_with fail
  refine (number_any a1 (m : Int) _ (by omega) (by omega) hb1 hb1').mono ?_
  rintro e w9 ⟨rfl, rfl⟩
  have s0 := Int.emod_nonneg a1 (show (m : Int) ≠ 0 by omega)
  have s1 := Int.emod_lt_of_pos a1 (show (0 : Int) < (m : Int) by omega)
  obtain ⟨c, hc⟩ : ∃ c : Nat, a1 % (m : Int) = c := ⟨(a1 % (m : Int)).toNat, by omega⟩
  rw [hc] at s0 s1 ⊢
  have hcm : c ≤ m := by omega
  clear hc s0 s1
  obtain ⟨g, off, rfl, hglt, -⟩ := HV8.out.at_ (by omega)
  go_wp2_with fail
  go_loopw [10, 11] (fun i t wr => ∃ j : Nat, j ≤ n0 ∧ i = .int .i64 j ∧ t = .int .i64 (atP L j) ∧ fitTo L j c ∧ wr = w8) (fun i _ _ => n0 - (intOf i).toNat)
  case atStart => exact ⟨0, Nat.zero_le _, rfl, rfl, .inl rfl, rfl⟩
  case round =>
    obtain ⟨j, hj, rfl, rfl, hfit, rfl⟩ := hrel
    have HFT := Lib.hid hfit
    clear hfit
    have hat := atP_le L j
    rw [HM.out] at hat
    have HBR := Lib.hid HB8.out
    have zr := HBR.out.size
    have HER := Lib.hid (HE.out.below HBR.out (Nat.le_refl _))
    have HU := Lib.hid (unpack_any (HER.out.sub (T := [0, 1, 5]) (by decide)) _ c C3 _ (row_take8 HV8.out hcm) (by omega))
    have HF := Lib.hid (fit_cut HG.out HFT.out)
    have HMIN := Lib.hid (show min j L.length = j by rw [← HN.out]; omega)
    by_cases hjn : j < n0
    case pos =>
      obtain ⟨x, hx⟩ : ∃ x, L[j]? = some x := ⟨_, List.getElem?_eq_getElem (by rw [← HN.out]; exact hjn)⟩
      obtain ⟨b1, o1, A5, C5, rfl, l1, e0, r1⟩ := (H.out.below HBR.out (Nat.le_refl _)).at2 hx
      have HAS := Lib.hid (atP_succ hx)
      have hgx := HG.out x (List.mem_of_getElem? hx)
      have HFIT := Lib.hid (show atP L j + 4 + x.length ≤ c → fitTo L (j + 1) c from fun h => .inr ⟨j, x, rfl, hx, h⟩)
      clear hx r1
      generalize x.length = nx at *
      generalize atP L j = p at *
      by_cases hfc : p + 4 + nx ≤ c
      case pos =>
        go_wp2_with fail
        go_roundw
        case rel => exact ⟨j + 1, by omega, by go_num, by rw [HAS.out]; go_num, HFIT.out hfc, by trivial⟩
        case measure => simp [intOf]; omega
      case neg =>
        go_wp2_with fail
        refine HU.out.mono ?_
        rintro e w7 ⟨v7, rfl, ho7, hb7⟩
        obtain ⟨A7, C7, rfl, hr7⟩ := ho7.row
        obtain ⟨R, hR⟩ := HF.out
        rw [hR, List.length_append, List.length_take, HMIN.out] at hr7
        rw [hR, List.length_append, List.length_take, HMIN.out]
        have ht7 := hr7.take (k := j) (by omega)
        rw [List.take_append_of_le_length (by rw [List.length_take, HMIN.out]; exact Nat.le_refl _), List.take_of_length_le (by rw [List.length_take, HMIN.out]; exact Nat.le_refl _)] at ht7
        have hm7 := hr7.len_le
        have HB7 := Lib.hid (HBR.out.trans (hb7.mono zr))
        have z7 := HB7.out.size
        have HL7 := Lib.hid ((H.out.below HB7.out (Nat.le_refl _)).take (k := j) (by omega))
        have HT7 := Lib.hid ht7
        have HSP := Lib.hid (sameParts_yes A7 (some ⟨b1, o1, none⟩) j C7 C0 (L.take j) w7.drew (HT7.out.below (below_drewN 1) (Nat.le_refl _)) (HL7.out.below (below_drewN 1) (Nat.le_refl _)))
        clear hR ht7 ho7 hr7 hb7
        have hju : j ≤ j + R.length := Nat.le_add_right _ _
        generalize j + R.length = u at *
        have d0 : (0 : Int) ≤ (j : Int) := by omega
        have d1 : decide ((j : Int) ≤ (u : Int)) = true := decide_eq_true (by omega)
        have d2 : (j : Int) ≤ (u : Int) := by omega
        have d3 : (j : Int) ≤ (C7 : Int) := by omega
        have d4 : (j : Int) ≤ (C0 : Int) := by omega
        go_wp2_with fail
        go_region_held3 (fun y => True)
          (trivial)
          ((go_at_call 12; refine HSP.out.mono ?_; rintro e wa ⟨rfl, hh⟩; have HBA := Lib.hid (HB7.out.trans ((below_drewN 1).trans (hh.mono z7))); clear hh))
        go_wp2_with fail
        go_ret
        exact ⟨rfl, HBA.out⟩
    case neg =>
      obtain rfl : j = n0 := by omega
      generalize atP L j = p at *
      go_wp2_with fail
      refine HU.out.mono ?_
      rintro e w7 ⟨v7, rfl, ho7, hb7⟩
      obtain ⟨A7, C7, rfl, hr7⟩ := ho7.row
      obtain ⟨R, hR⟩ := HF.out
      rw [hR, List.length_append, List.length_take, HMIN.out] at hr7
      rw [hR, List.length_append, List.length_take, HMIN.out]
      have ht7 := hr7.take (k := j) (by omega)
      rw [List.take_append_of_le_length (by rw [List.length_take, HMIN.out]; exact Nat.le_refl _), List.take_of_length_le (by rw [List.length_take, HMIN.out]; exact Nat.le_refl _)] at ht7
      have hm7 := hr7.len_le
      have HB7 := Lib.hid (HBR.out.trans (hb7.mono zr))
      have z7 := HB7.out.size
      have HL7 := Lib.hid ((H.out.below HB7.out (Nat.le_refl _)).take (k := j) (by omega))
      have HT7 := Lib.hid ht7
      have HSP := Lib.hid (sameParts_yes A7 (A0) j C7 C0 (L.take j) w7.drew (HT7.out.below (below_drewN 1) (Nat.le_refl _)) (HL7.out.below (below_drewN 1) (Nat.le_refl _)))
      clear hR ht7 ho7 hr7 hb7
      have hju : j ≤ j + R.length := Nat.le_add_right _ _
      generalize j + R.length = u at *
      have d0 : (0 : Int) ≤ (j : Int) := by omega
      have d1 : decide ((j : Int) ≤ (u : Int)) = true := decide_eq_true (by omega)
      have d2 : (j : Int) ≤ (u : Int) := by omega
      have d3 : (j : Int) ≤ (C7 : Int) := by omega
      have d4 : (j : Int) ≤ (C0 : Int) := by omega
      go_wp2_with fail
      go_region_held3 (fun y => True)
        (trivial)
        ((go_at_call 12; refine HSP.out.mono ?_; rintro e wa ⟨rfl, hh⟩; have HBA := Lib.hid (HB7.out.trans ((below_drewN 1).trans (hh.mono z7))); clear hh))
      go_wp2_with fail
      go_ret
      exact ⟨rfl, HBA.out⟩
end Go.Proofs.YtplcdjdmkmdddaaDoor
