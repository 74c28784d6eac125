/-
  The walk of AmpduSays.
-/
import Derived.Test.YtplcdjdmkmdddaaDoorRefPack
import Derived.Test.YtplcdjdmkmdddaaDoorRefParts
import Derived.Test.YtplcdjdmkmdddaaDoorLenWrap
import Derived.Test.YtplcdjdmkmdddaaDoorAmFirst
namespace Go.Proofs.YtplcdjdmkmdddaaDoor
open Go.ChangeShapes Go.WideShapes Go.ChangeAt Go.RowKit
set_option linter.unusedVariables false

def okOf {α : Type} (r : Except Nat (List α)) : List α := match r with
  | .error _ => []
  | .ok b => b
def codeOf {α : Type} (r : Except Nat (List α)) : Option Nat := match r with
  | .error i => some i
  | .ok _ => none
theorem packU {w w' : World} {E : Nat → Addr} {r : Except Nat (List UInt8)} {e : Ending} (h : PackR w E r e w') : ∃ A C, e = .returned (.tuple #[.slice A (okOf r).length C, errO E (codeOf r)]) ∧ Row w' 1 A (okOf r).length C ((okOf r).map u8v) ∧ Below w.heap.size w w' := by
  rcases r with i | b
  · obtain ⟨rfl, hb⟩ := h
    exact ⟨none, 0, rfl, row_nil _ _, hb⟩
  · obtain ⟨A, C, rfl, ho, hb⟩ := h
    exact ⟨A, C, rfl, ho.row, hb⟩
theorem rpackU {w w' : World} {r : Except Nat (List UInt8)} {e : Ending} (h : RPackR w r e w') : ∃ A C, e = .returned (.tuple #[.slice A (okOf r).length C, .int .i64 (errCode (codeOf r))]) ∧ Row w' 1 A (okOf r).length C ((okOf r).map u8v) ∧ Below w.heap.size w w' := by
  rcases r with i | b
  · obtain ⟨rfl, hb⟩ := h
    exact ⟨none, 0, rfl, row_nil _ _, hb⟩
  · obtain ⟨A, C, rfl, ho, hb⟩ := h
    exact ⟨A, C, rfl, ho.row, hb⟩
theorem partsU {w w' : World} {E : Nat → Addr} {r : Except Nat (List (List UInt8))} {e : Ending} (h : PartsR w E r e w') : ∃ A C, e = .returned (.tuple #[.slice A (okOf r).length C, errO E (codeOf r)]) ∧ RowP w' A (okOf r).length C (okOf r) ∧ Below w.heap.size w w' := by
  rcases r with i | b
  · obtain ⟨rfl, hb⟩ := h
    exact ⟨none, 0, rfl, rowP_nil _, hb⟩
  · obtain ⟨v, rfl, ho, hb⟩ := h
    obtain ⟨A, C, rfl, hr⟩ := ho.row
    exact ⟨A, C, rfl, hr, hb⟩
theorem rpartsU {w w' : World} {r : Except Nat (List (List UInt8))} {e : Ending} (h : RPartsR w r e w') : ∃ A C, e = .returned (.tuple #[.slice A (okOf r).length C, .int .i64 (errCode (codeOf r))]) ∧ RowP w' A (okOf r).length C (okOf r) ∧ Below w.heap.size w w' := by
  rcases r with i | b
  · obtain ⟨rfl, hb⟩ := h
    exact ⟨none, 0, rfl, rowP_nil _, hb⟩
  · obtain ⟨v, rfl, ho, hb⟩ := h
    obtain ⟨A, C, rfl, hr⟩ := ho.row
    exact ⟨A, C, rfl, hr, hb⟩
theorem pack_code (L : List (List UInt8)) : ∀ i, codeOf (packR L) = some i → i ∈ allErr := by
  intro i h
  unfold packR at h
  split at h
  · injection h with h; subst h; decide
  · split at h
    · injection h with h; subst h; decide
    · split at h
      · injection h with h; subst h; decide
      · cases h
theorem part_code (b : List UInt8) {i : Nat} (h : partP b = .error i) : i ∈ allErr := by
  unfold partP at h
  split at h
  · injection h with h; subst h; decide
  · split at h
    · injection h with h; subst h; decide
    · split at h
      · injection h with h; subst h; decide
      · split at h
        · injection h with h; subst h; decide
        · cases h
theorem pts_code (b : List UInt8) : ∀ i, ptsP b = .error i → i ∈ allErr := by
  obtain ⟨n, hn⟩ : ∃ n, b.length ≤ n := ⟨_, Nat.le_refl _⟩
  induction n generalizing b with
  | zero =>
    intro i h
    rw [List.eq_nil_of_length_eq_zero (by omega : b.length = 0), pts_nil] at h
    cases h
  | succ n ih =>
    intro i h
    by_cases h0 : b = []
    · rw [h0, pts_nil] at h; cases h
    · rcases hp : partP b with j | x
      · rw [pts_err h0 hp] at h
        injection h with h
        subst h
        exact part_code b hp
      · have hx := part_ok hp
        rw [pts_ok hp] at h
        split at h
        · injection h with h; subst h; decide
        · split at h
          · injection h with h; subst h; decide
          · rcases hq : ptsP (b.drop (4 + up4 x.length)) with j | l
            · rw [hq] at h
              injection h with h
              subst h
              exact ih _ (by rw [List.length_drop]; omega) _ hq
            · rw [hq] at h; cases h
theorem parts_code (b : List UInt8) : ∀ i, codeOf (partsP b) = some i → i ∈ allErr := by
  intro i h
  unfold partsP at h
  split at h
  · injection h with h; subst h; decide
  · rcases hq : ptsP b with j | l
    · rw [hq] at h
      injection h with h
      subst h
      exact pts_code b _ hq
    · rw [hq] at h
      simp only at h
      split at h
      · injection h with h; subst h; decide
      · cases h

set_option maxRecDepth 100000 in
set_option maxHeartbeats 4000000 in
theorem ampduSays_walk (w : World) {E : Nat → Addr} (hE : Errs allErr w E) (A0 : Option Addr) (n0 C0 : Nat) (L : List (List UInt8)) (h : RowP w A0 n0 C0 L) (A1 : Option Addr) (n1 C1 : Nat) (b : List UInt8) (hx : Row w 1 A1 n1 C1 (b.map u8v)) :
    Calls Tryd.prog 5 #[.slice A0 n0 C0, .slice A1 n1 C1] w fun e w' => e = .returned (.bool true) ∧ Below w.heap.size w w' := by
  have hm := h.len_le
  have hmx := hx.len_cap
  have H := Lib.hid h
  have HX := Lib.hid hx
  have HN := Lib.hid h.1
  have HE := Lib.hid hE
  clear h hE hx
  go_enter Tryd.func5, Tryd.ntmps5
  go_wp2_with fail
  refine (amfirst_any (HE.out.sub (by decide))).mono ?_
  rintro e w1 ⟨rfl, hw1⟩
  have HB1 := Lib.hid hw1
  have z1 := hw1.size
  have HR1 := Lib.hid (H.out.below hw1 (Nat.le_refl _))
  have HX1 := Lib.hid (HX.out.below hw1 (Nat.le_refl _))
  clear hw1
  go_wp2_with fail
  refine (light_any A0 n0 C0 L w1 HR1.out).mono ?_
  rintro e w2 ⟨bl, rfl, rfl, hb70⟩
  cases bl
  case false =>
    go_wp2_with fail
    go_ret
    exact ⟨rfl, HB1.out⟩
  case true =>
  have hn70 := hb70 rfl
  clear hb70
  by_cases h4000 : 4000 < n1
  case pos =>
    go_wp2_with fail
    go_ret
    exact ⟨rfl, HB1.out⟩
  case neg =>
  have HE1 := Lib.hid (HE.out.below HB1.out (Nat.le_refl _))
  have HC1 := Lib.hid (pack_any (HE1.out.sub (T := [2, 3]) (by decide)) A0 n0 C0 L HR1.out (by omega))
  have HRC := Lib.hid (fun (w' : World) (hr : RowP w' A0 n0 C0 L) => refPack_any (w := w') A0 n0 C0 L hr (by omega))
  have HPC := Lib.hid (pack_code L)
  have HTC := Lib.hid (parts_code b)
  have HPA := Lib.hid (fun (w' : World) (he : Errs allErr w' E) (hr : Row w' 1 A1 n1 C1 (b.map u8v)) => parts_any (w := w') (he.sub (T := [0, 1, 3, 5]) (by decide)) A1 n1 C1 b hr (by omega))
  have HRA := Lib.hid (fun (w' : World) (hr : Row w' 1 A1 n1 C1 (b.map u8v)) => refParts_any (w := w') A1 n1 C1 b hr (by omega))
  have HUA := Lib.hid (fun (w' : World) (he : Errs allErr w' E) (hr : Row w' 1 A1 n1 C1 (b.map u8v)) => unpack_any (w := w') (he.sub (T := [0, 1, 5]) (by decide)) A1 n1 C1 b hr (by omega))
  have HVA := Lib.hid (fun (w' : World) (hr : Row w' 1 A1 n1 C1 (b.map u8v)) => refUnpack_any (w := w') A1 n1 C1 b hr (by omega))
  generalize packR L = r at *
  generalize partsP b = q at *
  generalize unpackP b = un at *
  go_wp2_with fail
  refine HC1.out.mono ?_
  intro e w3 hpk
  obtain ⟨A3, C3, rfl, hr3, hb3⟩ := packU hpk
  have HB3 := Lib.hid (HB1.out.trans (hb3.mono z1))
  have z3 := HB3.out.size
  have HS3 := Lib.hid hr3
  have HR3 := Lib.hid (HRC.out w3 (H.out.below HB3.out (Nat.le_refl _)))
  clear hpk hr3 hb3
  go_wp2_with fail
  refine HR3.out.mono ?_
  intro e w4 hpk
  obtain ⟨A4, C4, rfl, hr4, hb4⟩ := rpackU hpk
  have HB4 := Lib.hid (HB3.out.trans (hb4.mono z3))
  have z4 := HB4.out.size
  have HSA := Lib.hid (HS3.out.below hb4 (Nat.le_refl _))
  have HSB := Lib.hid hr4
  have HC4 := Lib.hid (HPA.out w4 (HE.out.below HB4.out (Nat.le_refl _)) (HX.out.below HB4.out (Nat.le_refl _)))
  clear hpk hr4 hb4
  generalize okOf r = ps at *
  generalize codeOf r = o at *
  go_wp2_with fail
  refine HC4.out.mono ?_
  intro e w5 hpk
  obtain ⟨A5, C5, rfl, hr5, hb5⟩ := partsU hpk
  have HB5 := Lib.hid (HB4.out.trans (hb5.mono z4))
  have z5 := HB5.out.size
  have HSA5 := Lib.hid (HSA.out.below hb5 (Nat.le_refl _))
  have HSB5 := Lib.hid (HSB.out.below hb5 (Nat.le_refl _))
  have HPS5 := Lib.hid hr5
  have HC5 := Lib.hid (HRA.out w5 (HX.out.below HB5.out (Nat.le_refl _)))
  clear hpk hr5 hb5
  go_wp2_with fail
  refine HC5.out.mono ?_
  intro e w6 hpk
  obtain ⟨A6, C6, rfl, hr6, hb6⟩ := rpartsU hpk
  have HB6 := Lib.hid (HB5.out.trans (hb6.mono z5))
  have z6 := HB6.out.size
  have HSA6 := Lib.hid (HSA5.out.below hb6 (Nat.le_refl _))
  have HSB6 := Lib.hid (HSB5.out.below hb6 (Nat.le_refl _))
  have HPS6 := Lib.hid (HPS5.out.below hb6 (Nat.le_refl _))
  have HPT6 := Lib.hid hr6
  have HC6 := Lib.hid (sameBytes_any _ _ _ _ _ _ _ _ w6 HSA6.out HSB6.out)
  clear hpk hr6 hb6
  generalize okOf q = pt at *
  generalize codeOf q = o2 at *
  go_wp2_with fail
  refine HC6.out.mono ?_
  rintro e w7 ⟨rfl, hq⟩
  rw [show sameB ps ps = true by simp [sameB]]
  have hb7 : Below w6.heap.size w6 w7 := by obtain ⟨m, rfl⟩ := hq; exact below_drewN _
  have HB7 := Lib.hid (HB6.out.trans (hb7.mono z6))
  have z7 := HB7.out.size
  have HPS7 := Lib.hid (HPS6.out.below hb7 (Nat.le_refl _))
  have HPT7 := Lib.hid (HPT6.out.below hb7 (Nat.le_refl _))
  have HC7 := Lib.hid (is_any (HE.out.below HB7.out (Nat.le_refl _)) o HPC.out (errCode o))
  clear hb7 hq
  go_wp2_with fail
  refine HC7.out.mono ?_
  rintro e w8 ⟨rfl, hb8⟩
  rw [show (errCode o == errCode o) = true by simp]
  have HB8 := Lib.hid (HB7.out.trans (hb8.mono z7))
  have z8 := HB8.out.size
  have HC8 := Lib.hid (sameParts_yes A5 A6 pt.length C5 C6 pt w8 (HPS7.out.below hb8 (Nat.le_refl _)) (HPT7.out.below hb8 (Nat.le_refl _)))
  clear hb8
  go_wp2_with fail
  refine HC8.out.mono ?_
  rintro e w9 ⟨rfl, hb9⟩
  have HB9 := Lib.hid (HB8.out.trans (hb9.mono z8))
  have z9 := HB9.out.size
  have HC9 := Lib.hid (is_any (HE.out.below HB9.out (Nat.le_refl _)) o2 HTC.out (errCode o2))
  clear hb9
  go_wp2_with fail
  refine HC9.out.mono ?_
  rintro e w10 ⟨rfl, hb10⟩
  rw [show (errCode o2 == errCode o2) = true by simp]
  have HB10 := Lib.hid (HB9.out.trans (hb10.mono z9))
  have z10 := HB10.out.size
  have HC10 := Lib.hid (HUA.out w10 (HE.out.below HB10.out (Nat.le_refl _)) (HX.out.below HB10.out (Nat.le_refl _)))
  clear hb10
  go_wp2_with fail
  refine HC10.out.mono ?_
  rintro e w11 ⟨v11, rfl, ho11, hb11⟩
  obtain ⟨A11, C11, rfl, hr11⟩ := ho11.row
  have HB11 := Lib.hid (HB10.out.trans (hb11.mono z10))
  have z11 := HB11.out.size
  have HR11 := Lib.hid hr11
  have HC11 := Lib.hid (HVA.out w11 (HX.out.below HB11.out (Nat.le_refl _)))
  clear hb11 ho11 hr11
  go_wp2_with fail
  refine HC11.out.mono ?_
  rintro e w12 ⟨v12, rfl, ho12, hb12⟩
  obtain ⟨A12, C12, rfl, hr12⟩ := ho12.row
  have HB12 := Lib.hid (HB11.out.trans (hb12.mono z11))
  have z12 := HB12.out.size
  have HC12 := Lib.hid (sameParts_yes A11 A12 un.length C11 C12 un w12 (HR11.out.below hb12 (Nat.le_refl _)) hr12)
  clear hb12 ho12 hr12
  go_wp2_with fail
  refine HC12.out.mono ?_
  rintro e w13 ⟨rfl, hb13⟩
  have HB13 := Lib.hid (HB12.out.trans (hb13.mono z12))
  have z13 := HB13.out.size
  have HC13 := Lib.hid (lens_any A0 n0 C0 L w13 (H.out.below HB13.out (Nat.le_refl _)) (by omega))
  have HLZ := Lib.hid (show ∀ z ∈ lensP L, 0 ≤ z ∧ z ≤ 9223372036854775807 by
    intro z hz
    obtain ⟨x, hx, rfl⟩ := List.mem_map.1 hz
    obtain ⟨k, hk, rfl⟩ := List.getElem_of_mem hx
    obtain ⟨b', o', A', C', e1, e2, e3, e4⟩ := H.out.at2 (List.getElem?_eq_getElem hk)
    have := e4.len_cap
    omega)
  have HLN := Lib.hid (show n0 = (lensP L).length by rw [lensP, List.length_map]; exact HN.out)
  clear hb13
  go_wp2_with fail
  refine HC13.out.mono ?_
  rintro e w14 ⟨A14, C14, rfl, ho14, hb14⟩
  have HB14 := Lib.hid (HB13.out.trans (hb14.mono z13))
  have z14 := HB14.out.size
  have HC14 := Lib.hid (lenW_any A14 n0 C14 (lensP L) w14 ⟨HLN.out, ho14.row⟩ (by omega) HLZ.out)
  have HC15 := Lib.hid (lens_any A0 n0 C0 L w14 (H.out.below HB14.out (Nat.le_refl _)) (by omega))
  clear hb14 ho14
  go_wp2_with fail
  refine HC14.out.mono ?_
  rintro e w15 ⟨rfl, rfl⟩
  go_wp2_with fail
  refine HC15.out.mono ?_
  rintro e w16 ⟨A16, C16, rfl, ho16, hb16⟩
  have HB16 := Lib.hid (HB14.out.trans (hb16.mono z14))
  have HC16 := Lib.hid (aggLenW_any A16 n0 C16 (lensP L) w16 ⟨HLN.out, ho16.row⟩ (by omega) HLZ.out)
  clear hb16 ho16
  go_wp2_with fail
  refine HC16.out.mono ?_
  rintro e w17 ⟨rfl, rfl⟩
  generalize aggW (lensP L) = ag at *
  go_wp2_with fail
  go_ret
  exact ⟨by simp, HB16.out⟩
end Go.Proofs.YtplcdjdmkmdddaaDoor
