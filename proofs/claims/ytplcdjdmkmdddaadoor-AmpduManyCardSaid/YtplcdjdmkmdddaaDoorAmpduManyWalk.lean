/-
  The walk of AmpduMany.
-/
import Derived.Test.YtplcdjdmkmdddaaDoorAmFirst
import Derived.Test.YtplcdjdmkmdddaaDoorNumber
namespace Go.Proofs.YtplcdjdmkmdddaaDoor
open Go.ChangeShapes Go.WideShapes Go.ChangeAt Go.RowKit
set_option linter.unusedVariables false

theorem packTwo_any {w : World} {E : Nat → Addr} (hE : Errs [2, 3] w E) : Calls Tryd.prog 10 #[.slice (some ⟨w.heap.size + 1, 0, none⟩) 2 2] ((w.alloc (.cells #[.int .u8 1] 5)).alloc (.cells #[.slice (some ⟨w.heap.size, 0, none⟩) 1 1, .slice none 0 0] 25)) fun e w' => e = .returned (.tuple #[.slice none 0 0, errV E 2]) ∧ Below w.heap.size w w' := by
  have R1 : Row (w.alloc (.cells #[.int .u8 1] 5)) 1 (some ⟨w.heap.size, 0, none⟩) 1 1 (([1] : List UInt8).map u8v) := row_one w _ _
  have R2 := rowP_two _ _ none 1 1 0 0 [1] [] rfl R1 rfl (row_nil _ _) 25
  have HC := pack_any ((hE.alloc _).alloc _) _ 2 2 [[1], []] R2 (by omega)
  have hsz : (w.alloc (.cells #[.int .u8 1] 5)).heap.size = w.heap.size + 1 := by simp
  rw [hsz] at HC
  refine HC.mono ?_
  intro e w' h
  obtain ⟨he, hb⟩ := packR_take_err h (packR_bad [] (by simp) rfl)
  exact ⟨he, (((Below.refl w.heap.size w).alloc (Nat.le_refl _) _).alloc (by simp) _).trans (hb.mono (by simp; omega))⟩
theorem packOne_any {w : World} {E : Nat → Addr} (hE : Errs [2, 3] w E) (A : Option Addr) (n C : Nat) (x : List UInt8) (hn : x.length = n) (h : Row w 1 A n C (x.map u8v)) : Calls Tryd.prog 10 #[.slice (some ⟨w.heap.size, 0, none⟩) 1 1] (w.alloc (.cells #[.slice A n C] 25)) fun e w' => PackR (w.alloc (.cells #[.slice A n C] 25)) E (packR [x]) e w' :=
  pack_any (hE.alloc _) _ 1 1 [x] (rowP_one w A n C x hn h _) (by omega)
theorem zero_bad : badX (List.replicate 4096 (0 : UInt8)) = true := by rw [badX, List.length_replicate]; decide
theorem zero_good : packR [List.replicate 4095 (0 : UInt8)] = .ok (packP [List.replicate 4095 (0 : UInt8)]) := by
  refine packR_yes ?_ (List.cons_ne_nil _ _) (by decide) ?_
  · intro x hx
    simp only [List.mem_singleton] at hx
    subst hx
    rw [List.length_replicate]; omega
  · have := pack_rep (List.replicate 4095 (0 : UInt8)) 0
    rw [List.length_replicate] at this
    rw [show [List.replicate 4095 (0 : UInt8)] = List.replicate (0 + 1) (List.replicate 4095 (0 : UInt8)) from rfl, this]
    omega
theorem some_in {k : Nat} (h : k ∈ allErr) : ∀ i, some k = some i → i ∈ allErr := by intro i e; injection e with e; subst e; exact h
theorem none_in : ∀ i, (none : Option Nat) = some i → i ∈ allErr := by intro i e; cases e

set_option maxRecDepth 100000 in
set_option maxHeartbeats 4000000 in
theorem ampduMany_walk (w : World) {E : Nat → Addr} (hE : Errs allErr w E) (a0 : Int) (w0 : (Lit.int .i64 a0).wf = true) (a1 : Int) (w1 : (Lit.int .i64 a1).wf = true) :
    Calls Tryd.prog 3 #[.int .i64 a0, .int .i64 a1] w fun e w' => e = .returned (.bool true) ∧ Below w.heap.size w w' := by
  obtain ⟨hb0, hb0'⟩ := bounds_i64 w0
  obtain ⟨hb1, hb1'⟩ := bounds_i64 w1
  clear w0 w1
  have s0 := Int.emod_nonneg a0 (show (4 : Int) ≠ 0 by omega)
  have s1 := Int.emod_lt_of_pos a0 (show (0 : Int) < 4 by omega)
  have t0 := Int.emod_nonneg a1 (show (4 : Int) ≠ 0 by omega)
  have t1 := Int.emod_lt_of_pos a1 (show (0 : Int) < 4 by omega)
  obtain ⟨x, hx⟩ : ∃ x : Nat, a0 % 4 = x := ⟨(a0 % 4).toNat, by omega⟩
  obtain ⟨y, hy⟩ : ∃ y : Nat, a1 % 4 = y := ⟨(a1 % 4).toNat, by omega⟩
  have HX := Lib.hid hx
  have HY := Lib.hid hy
  have x1 : x ≤ 3 := by omega
  have y1 : y ≤ 3 := by omega
  clear hx hy s0 s1 t0 t1
  obtain ⟨Z, hZ⟩ : ∃ Z, List.replicate (y + 1018) (0 : UInt8) = Z := ⟨_, rfl⟩
  have HZ := Lib.hid (show Z.length = y + 1018 by rw [← hZ, List.length_replicate])
  have HZE := Lib.hid hZ
  clear hZ
  have HE := Lib.hid hE
  clear hE
  go_enter Tryd.func3, Tryd.ntmps3
  go_wp2_with fail
  refine (amfirst_any (HE.out.sub (by decide))).mono ?_
  rintro e w1 ⟨rfl, hw1⟩
  have HB1 := Lib.hid hw1
  clear hw1
  go_wp2_with fail
  refine (number_any a0 4 _ (by omega) (by omega) hb0 hb0').mono ?_
  rintro e w2 ⟨rfl, rfl⟩
  rw [HX.out]
  go_wp2_with fail
  refine (number_any a1 4 _ (by omega) (by omega) hb1 hb1').mono ?_
  rintro e w2 ⟨rfl, rfl⟩
  rw [HY.out]
  go_wp2_with fail
  go_loopw [6, 7] (fun out i wr => ∃ k : Nat, k ≤ x + 62 ∧ i = .int .i64 k ∧ OwnP wr w.heap.size out (List.replicate k Z) ∧ Below w.heap.size w wr)
    (fun _ i _ => x + 62 - (intOf i).toNat)
  case atStart => exact ⟨0, Nat.zero_le _, rfl, ownP_nil _ _, HB1.out⟩
  case round =>
    obtain ⟨k, hk, rfl, ho, hb⟩ := hrel
    have HO := Lib.hid ho
    have HB := Lib.hid hb
    have zB := hb.size
    clear ho hb
    by_cases hlt : k < x + 62
    case pos =>
      go_wp2_with (first
        | (at_make; refine make_u8_full _ rfl _ _ rfl .i64 .i64 ((y : Int) + 1018) ((y : Int) + 1018) (y + 1018) rfl rfl (by simp) (by simp) (by omega) ?_; intro w4 hown4 hg4; have HB4 := Lib.hid ((Below.refl wr.heap.size wr).grown hg4 (Nat.le_refl _) (fun k hk => by cases hk)); have HO4 := Lib.hid (OwnU8.base_le hown4 zB); clear hown4 hg4; have z4 := HB4.out.size; have HOZ := Lib.hid (show OwnU8 w4 w.heap.size (some ⟨wr.heap.size, 0, none⟩) Z.length (y + 1018) Z by rw [HZ.out, ← HZE.out]; exact HO4.out))
        | (at_builtin; refine append_part _ rfl (.tmp 34) (.tmp 37) rfl w.heap.size (List.replicate k Z) ((HO.out.below HB4.out (Nat.le_refl _)).alloc _) (by rw [List.length_replicate]; omega) _ _ Z (HOZ.out.alloc _) w4.heap.size rfl (by rw [HZ.out]; exact row_slice _ _ _) (by simp; omega) ?_; intro v' w5 ho5 hsh hb5 hk5; have HO5 := Lib.hid ho5; have HB5 := Lib.hid (((HB.out.trans (HB4.out.mono zB)).alloc (by omega) _).trans hb5); clear ho5 hsh hb5 hk5))
      go_roundw
      case rel => exact ⟨k + 1, by omega, by go_num, by rw [List.replicate_succ']; exact HO5.out, HB5.out⟩
      case measure => simp [intOf]; omega
    case neg =>
      obtain rfl : k = x + 62 := by omega
      obtain ⟨Ao, Co, rfl, hro⟩ := HO.out.row
      have hcell : (List.replicate (x + 62) Z).length = x + 62 := List.length_replicate
      rw [hcell] at hro
      have HR := Lib.hid hro
      have HEr := Lib.hid (HE.out.below HB.out (Nat.le_refl _))
      have HPR := Lib.hid (pack_any (HEr.out.sub (T := [2, 3]) (by decide)) Ao (x + 62) Co _ HR.out (by omega))
      have hgood : goodL (List.replicate (x + 62) Z) := by intro u hu; rw [(List.mem_replicate.1 hu).2, HZ.out]; omega
      have hne : List.replicate (x + 62) Z ≠ [] := by simp [List.replicate_succ]
      obtain ⟨V, hV, hVV⟩ : ∃ V, 4 + up4 (y + 1018) = V ∧ (V = 1024 ∨ V = 1028) := ⟨_, rfl, by unfold up4; omega⟩
      have hml := pack_rep Z (x + 61)
      rw [HZ.out, hV] at hml
      obtain ⟨m, hm⟩ : ∃ m, (packP (List.replicate (x + 62) Z)).length = m := ⟨_, rfl⟩
      have HM := Lib.hid hm
      have hm2 : m = (x + 61) * V + 4 + (y + 1018) := by rw [← hm]; exact hml
      have eV : ((4 : Int) + ((y : Int) + 1018) + 3) / 4 * 4 = (V : Int) := by rw [← hV]; unfold up4; omega
      have eA : ((x : Int) + 62 - 1) * (V : Int) + 4 + ((y : Int) + 1018) = (m : Int) := by rcases hVV with h | h <;> rw [h] at hm2 ⊢ <;> omega
      have eB : 0 ≤ ((x : Int) + 62 - 1) * (V : Int) ∧ ((x : Int) + 62 - 1) * (V : Int) ≤ 900000 := by rcases hVV with rfl | rfl <;> omega
      have hmt : m ≤ 1000000 := by omega
      have hcast : ((x + 62 : Nat) : Int) = (x : Int) + 62 := by omega
      clear hro hm hml hm2 hcell
      by_cases hmany : 64 < (List.replicate (x + 62) Z).length ∨ 65535 < (packP (List.replicate (x + 62) Z)).length
      case pos =>
        have HP := Lib.hid (packR_many hgood hne hmany)
        rw [List.length_replicate, HM.out] at hmany
        have hd : decide ((64 : Int) < (x : Int) + 62) = true ∨ (decide ((64 : Int) < (x : Int) + 62) = false ∧ decide ((65535 : Int) < (m : Int)) = true) := by
          simp only [decide_eq_true_eq, decide_eq_false_iff_not]; omega
        clear hgood hne hmany
        go_wp2_with fail
        refine HPR.out.mono ?_
        intro e w4 hpk
        obtain ⟨rfl, hb4⟩ := packR_take_err hpk HP.out
        have HB4 := Lib.hid (HB.out.trans (hb4.mono zB))
        clear hb4
        rcases hd with hd | ⟨hd, hd2⟩
        all_goals skip
        · skip
          have HE4 := Lib.hid (HE.out.below HB4.out (Nat.le_refl _))
          have z4 := HB4.out.size
          clear hpk
          go_wp2_with fail
          refine (pack_any (HE4.out.sub (by decide)) none 0 0 [] (rowP_nil _) (by omega)).mono ?_
          intro e w5 h5
          obtain ⟨rfl, hb5⟩ := packR_take_err h5 packR_nil
          have HB5 := Lib.hid (HB4.out.trans (hb5.mono z4))
          have HE5 := Lib.hid (HE.out.below HB5.out (Nat.le_refl _))
          have z5 := HB5.out.size
          have HC5 := Lib.hid (packTwo_any (HE5.out.sub (by decide)))
          clear h5 hb5
          go_wp2_with fail
          refine HC5.out.mono ?_
          rintro e w6 ⟨rfl, hb6⟩
          have HB6 := Lib.hid (HB5.out.trans (hb6.mono z5))
          have z6 := HB6.out.size
          clear hb6
          go_wp2_with (at_make; refine make_u8_full _ rfl _ _ rfl .i64 .i64 4096 4096 4096 rfl rfl rfl rfl (by omega) ?_; intro w7 hown7 hg7; have HB7 := Lib.hid (HB6.out.trans (((Below.refl w6.heap.size w6).grown hg7 (Nat.le_refl _) (fun k hk => by cases hk)).mono z6)); have HO7 := Lib.hid hown7; clear hown7 hg7)
          have z7 := HB7.out.size
          have HE7 := Lib.hid (HE.out.below HB7.out (Nat.le_refl _))
          refine (packOne_any (HE7.out.sub (by decide)) _ 4096 4096 (List.replicate 4096 0) List.length_replicate HO7.out.row).mono ?_
          intro e w8 h8
          obtain ⟨rfl, hb8⟩ := packR_take_err h8 (packR_bad _ (List.mem_singleton.2 rfl) zero_bad)
          have HB8 := Lib.hid ((HB7.out.alloc z7 _).trans (hb8.mono (by simp; omega)))
          have z8 := HB8.out.size
          clear h8 hb8
          go_wp2_with (at_make; refine make_u8_full _ rfl _ _ rfl .i64 .i64 4095 4095 4095 rfl rfl rfl rfl (by omega) ?_; intro w9 hown9 hg9; have HB9 := Lib.hid (HB8.out.trans (((Below.refl w8.heap.size w8).grown hg9 (Nat.le_refl _) (fun k hk => by cases hk)).mono z8)); have HO9 := Lib.hid hown9; clear hown9 hg9)
          have z9 := HB9.out.size
          have HE9 := Lib.hid (HE.out.below HB9.out (Nat.le_refl _))
          refine (packOne_any (HE9.out.sub (by decide)) _ 4095 4095 (List.replicate 4095 0) List.length_replicate HO9.out.row).mono ?_
          intro e w10 h10
          obtain ⟨A10, C10, rfl, -, hb10⟩ := packR_take_ok h10 zero_good
          have HB10 := Lib.hid ((HB9.out.alloc z9 _).trans (hb10.mono (by simp; omega)))
          have z10 := HB10.out.size
          have HE10 := Lib.hid (HE.out.below HB10.out (Nat.le_refl _))
          clear h10 hb10
          generalize (packP [List.replicate 4095 (0 : UInt8)]).length = q10
          go_wp2_with fail
          refine (is_any HE10.out (some 3) (some_in (by decide)) 104).mono ?_
          rintro e w11 ⟨rfl, hb11⟩
          have HB11 := Lib.hid (HB10.out.trans (hb11.mono z10))
          have z11 := HB11.out.size
          have HE11 := Lib.hid (HE.out.below HB11.out (Nat.le_refl _))
          clear hb11
          rw [show (errCode (some 3) == 104) = true by decide]
          go_wp2_with fail
          refine (is_any HE11.out (some 2) (some_in (by decide)) 103).mono ?_
          rintro e w12 ⟨rfl, hb12⟩
          have HB12 := Lib.hid (HB11.out.trans (hb12.mono z11))
          have z12 := HB12.out.size
          have HE12 := Lib.hid (HE.out.below HB12.out (Nat.le_refl _))
          clear hb12
          rw [show (errCode (some 2) == 103) = true by decide]
          go_wp2_with fail
          refine (is_any HE12.out (some 2) (some_in (by decide)) 103).mono ?_
          rintro e w13 ⟨rfl, hb13⟩
          have HB13 := Lib.hid (HB12.out.trans (hb13.mono z12))
          have z13 := HB13.out.size
          have HE13 := Lib.hid (HE.out.below HB13.out (Nat.le_refl _))
          clear hb13
          rw [show (errCode (some 2) == 103) = true by decide]
          go_wp2_with fail
          refine (is_any HE13.out (some 2) (some_in (by decide)) 103).mono ?_
          rintro e w14 ⟨rfl, hb14⟩
          have HB14 := Lib.hid (HB13.out.trans (hb14.mono z13))
          clear hb14
          rw [show (errCode (some 2) == 103) = true by decide]
          go_wp2_with fail
          go_ret
          exact ⟨rfl, HB14.out⟩

        · skip
          have HE4 := Lib.hid (HE.out.below HB4.out (Nat.le_refl _))
          have z4 := HB4.out.size
          clear hpk
          go_wp2_with fail
          refine (pack_any (HE4.out.sub (by decide)) none 0 0 [] (rowP_nil _) (by omega)).mono ?_
          intro e w5 h5
          obtain ⟨rfl, hb5⟩ := packR_take_err h5 packR_nil
          have HB5 := Lib.hid (HB4.out.trans (hb5.mono z4))
          have HE5 := Lib.hid (HE.out.below HB5.out (Nat.le_refl _))
          have z5 := HB5.out.size
          have HC5 := Lib.hid (packTwo_any (HE5.out.sub (by decide)))
          clear h5 hb5
          go_wp2_with fail
          refine HC5.out.mono ?_
          rintro e w6 ⟨rfl, hb6⟩
          have HB6 := Lib.hid (HB5.out.trans (hb6.mono z5))
          have z6 := HB6.out.size
          clear hb6
          go_wp2_with (at_make; refine make_u8_full _ rfl _ _ rfl .i64 .i64 4096 4096 4096 rfl rfl rfl rfl (by omega) ?_; intro w7 hown7 hg7; have HB7 := Lib.hid (HB6.out.trans (((Below.refl w6.heap.size w6).grown hg7 (Nat.le_refl _) (fun k hk => by cases hk)).mono z6)); have HO7 := Lib.hid hown7; clear hown7 hg7)
          have z7 := HB7.out.size
          have HE7 := Lib.hid (HE.out.below HB7.out (Nat.le_refl _))
          refine (packOne_any (HE7.out.sub (by decide)) _ 4096 4096 (List.replicate 4096 0) List.length_replicate HO7.out.row).mono ?_
          intro e w8 h8
          obtain ⟨rfl, hb8⟩ := packR_take_err h8 (packR_bad _ (List.mem_singleton.2 rfl) zero_bad)
          have HB8 := Lib.hid ((HB7.out.alloc z7 _).trans (hb8.mono (by simp; omega)))
          have z8 := HB8.out.size
          clear h8 hb8
          go_wp2_with (at_make; refine make_u8_full _ rfl _ _ rfl .i64 .i64 4095 4095 4095 rfl rfl rfl rfl (by omega) ?_; intro w9 hown9 hg9; have HB9 := Lib.hid (HB8.out.trans (((Below.refl w8.heap.size w8).grown hg9 (Nat.le_refl _) (fun k hk => by cases hk)).mono z8)); have HO9 := Lib.hid hown9; clear hown9 hg9)
          have z9 := HB9.out.size
          have HE9 := Lib.hid (HE.out.below HB9.out (Nat.le_refl _))
          refine (packOne_any (HE9.out.sub (by decide)) _ 4095 4095 (List.replicate 4095 0) List.length_replicate HO9.out.row).mono ?_
          intro e w10 h10
          obtain ⟨A10, C10, rfl, -, hb10⟩ := packR_take_ok h10 zero_good
          have HB10 := Lib.hid ((HB9.out.alloc z9 _).trans (hb10.mono (by simp; omega)))
          have z10 := HB10.out.size
          have HE10 := Lib.hid (HE.out.below HB10.out (Nat.le_refl _))
          clear h10 hb10
          generalize (packP [List.replicate 4095 (0 : UInt8)]).length = q10
          go_wp2_with fail
          refine (is_any HE10.out (some 3) (some_in (by decide)) 104).mono ?_
          rintro e w11 ⟨rfl, hb11⟩
          have HB11 := Lib.hid (HB10.out.trans (hb11.mono z10))
          have z11 := HB11.out.size
          have HE11 := Lib.hid (HE.out.below HB11.out (Nat.le_refl _))
          clear hb11
          rw [show (errCode (some 3) == 104) = true by decide]
          go_wp2_with fail
          refine (is_any HE11.out (some 2) (some_in (by decide)) 103).mono ?_
          rintro e w12 ⟨rfl, hb12⟩
          have HB12 := Lib.hid (HB11.out.trans (hb12.mono z11))
          have z12 := HB12.out.size
          have HE12 := Lib.hid (HE.out.below HB12.out (Nat.le_refl _))
          clear hb12
          rw [show (errCode (some 2) == 103) = true by decide]
          go_wp2_with fail
          refine (is_any HE12.out (some 2) (some_in (by decide)) 103).mono ?_
          rintro e w13 ⟨rfl, hb13⟩
          have HB13 := Lib.hid (HB12.out.trans (hb13.mono z12))
          have z13 := HB13.out.size
          have HE13 := Lib.hid (HE.out.below HB13.out (Nat.le_refl _))
          clear hb13
          rw [show (errCode (some 2) == 103) = true by decide]
          go_wp2_with fail
          refine (is_any HE13.out (some 2) (some_in (by decide)) 103).mono ?_
          rintro e w14 ⟨rfl, hb14⟩
          have HB14 := Lib.hid (HB13.out.trans (hb14.mono z13))
          clear hb14
          rw [show (errCode (some 2) == 103) = true by decide]
          go_wp2_with fail
          go_ret
          exact ⟨rfl, HB14.out⟩

      case neg =>
        have HP := Lib.hid (packR_yes hgood hne (by omega) (by omega))
        rw [List.length_replicate, HM.out] at hmany
        have hd : decide ((64 : Int) < (x : Int) + 62) = false := decide_eq_false (by omega)
        have hd2 : decide ((65535 : Int) < (m : Int)) = false := decide_eq_false (by omega)
        clear hgood hne hmany
        go_wp2_with fail
        refine HPR.out.mono ?_
        intro e w4 hpk
        obtain ⟨A4, C4, rfl, -, hb4⟩ := packR_take_ok hpk HP.out
        rw [HM.out]
        have HB4 := Lib.hid (HB.out.trans (hb4.mono zB))
        clear hb4
        have HE4 := Lib.hid (HE.out.below HB4.out (Nat.le_refl _))
        have z4 := HB4.out.size
        clear hpk
        go_wp2_with fail
        refine (pack_any (HE4.out.sub (by decide)) none 0 0 [] (rowP_nil _) (by omega)).mono ?_
        intro e w5 h5
        obtain ⟨rfl, hb5⟩ := packR_take_err h5 packR_nil
        have HB5 := Lib.hid (HB4.out.trans (hb5.mono z4))
        have HE5 := Lib.hid (HE.out.below HB5.out (Nat.le_refl _))
        have z5 := HB5.out.size
        have HC5 := Lib.hid (packTwo_any (HE5.out.sub (by decide)))
        clear h5 hb5
        go_wp2_with fail
        refine HC5.out.mono ?_
        rintro e w6 ⟨rfl, hb6⟩
        have HB6 := Lib.hid (HB5.out.trans (hb6.mono z5))
        have z6 := HB6.out.size
        clear hb6
        go_wp2_with (at_make; refine make_u8_full _ rfl _ _ rfl .i64 .i64 4096 4096 4096 rfl rfl rfl rfl (by omega) ?_; intro w7 hown7 hg7; have HB7 := Lib.hid (HB6.out.trans (((Below.refl w6.heap.size w6).grown hg7 (Nat.le_refl _) (fun k hk => by cases hk)).mono z6)); have HO7 := Lib.hid hown7; clear hown7 hg7)
        have z7 := HB7.out.size
        have HE7 := Lib.hid (HE.out.below HB7.out (Nat.le_refl _))
        refine (packOne_any (HE7.out.sub (by decide)) _ 4096 4096 (List.replicate 4096 0) List.length_replicate HO7.out.row).mono ?_
        intro e w8 h8
        obtain ⟨rfl, hb8⟩ := packR_take_err h8 (packR_bad _ (List.mem_singleton.2 rfl) zero_bad)
        have HB8 := Lib.hid ((HB7.out.alloc z7 _).trans (hb8.mono (by simp; omega)))
        have z8 := HB8.out.size
        clear h8 hb8
        go_wp2_with (at_make; refine make_u8_full _ rfl _ _ rfl .i64 .i64 4095 4095 4095 rfl rfl rfl rfl (by omega) ?_; intro w9 hown9 hg9; have HB9 := Lib.hid (HB8.out.trans (((Below.refl w8.heap.size w8).grown hg9 (Nat.le_refl _) (fun k hk => by cases hk)).mono z8)); have HO9 := Lib.hid hown9; clear hown9 hg9)
        have z9 := HB9.out.size
        have HE9 := Lib.hid (HE.out.below HB9.out (Nat.le_refl _))
        refine (packOne_any (HE9.out.sub (by decide)) _ 4095 4095 (List.replicate 4095 0) List.length_replicate HO9.out.row).mono ?_
        intro e w10 h10
        obtain ⟨A10, C10, rfl, -, hb10⟩ := packR_take_ok h10 zero_good
        have HB10 := Lib.hid ((HB9.out.alloc z9 _).trans (hb10.mono (by simp; omega)))
        have z10 := HB10.out.size
        have HE10 := Lib.hid (HE.out.below HB10.out (Nat.le_refl _))
        clear h10 hb10
        generalize (packP [List.replicate 4095 (0 : UInt8)]).length = q10
        go_wp2_with fail
        refine (is_any HE10.out none none_in 104).mono ?_
        rintro e w11 ⟨rfl, hb11⟩
        have HB11 := Lib.hid (HB10.out.trans (hb11.mono z10))
        have z11 := HB11.out.size
        have HE11 := Lib.hid (HE.out.below HB11.out (Nat.le_refl _))
        clear hb11
        rw [show (errCode none == 104) = false by decide]
        go_wp2_with fail
        refine (is_any HE11.out (some 2) (some_in (by decide)) 103).mono ?_
        rintro e w12 ⟨rfl, hb12⟩
        have HB12 := Lib.hid (HB11.out.trans (hb12.mono z11))
        have z12 := HB12.out.size
        have HE12 := Lib.hid (HE.out.below HB12.out (Nat.le_refl _))
        clear hb12
        rw [show (errCode (some 2) == 103) = true by decide]
        go_wp2_with fail
        refine (is_any HE12.out (some 2) (some_in (by decide)) 103).mono ?_
        rintro e w13 ⟨rfl, hb13⟩
        have HB13 := Lib.hid (HB12.out.trans (hb13.mono z12))
        have z13 := HB13.out.size
        have HE13 := Lib.hid (HE.out.below HB13.out (Nat.le_refl _))
        clear hb13
        rw [show (errCode (some 2) == 103) = true by decide]
        go_wp2_with fail
        refine (is_any HE13.out (some 2) (some_in (by decide)) 103).mono ?_
        rintro e w14 ⟨rfl, hb14⟩
        have HB14 := Lib.hid (HB13.out.trans (hb14.mono z13))
        clear hb14
        rw [show (errCode (some 2) == 103) = true by decide]
        go_wp2_with fail
        go_ret
        exact ⟨rfl, HB14.out⟩
end Go.Proofs.YtplcdjdmkmdddaaDoor
