/-
  The walk of AmpduJunk.
-/
import Derived.Test.YtplcdjdmkmdddaaDoorSameParts
import Derived.Test.YtplcdjdmkmdddaaDoorUnpack
import Derived.Test.YtplcdjdmkmdddaaDoorAmFirst
import Derived.Test.YtplcdjdmkmdddaaDoorNumber
namespace Go.Proofs.YtplcdjdmkmdddaaDoor
open Go.ChangeShapes Go.WideShapes Go.ChangeAt Go.RowKit
set_option linter.unusedVariables false

def junkF (x : UInt8) (i : Nat) : UInt8 := if i % 4 = 3 ∧ x = 78 then 0 else x
def junkP (xs : List UInt8) (m : Nat) : List UInt8 := (List.range m).map fun (i : Nat) => junkF (xs.getD i 0) i
theorem junk_succ (xs : List UInt8) (k : Nat) : junkP xs (k + 1) = junkP xs k ++ [junkF (xs.getD k 0) k] := by simp [junkP, List.range_succ]
theorem junk_len (xs : List UInt8) (m : Nat) : (junkP xs m).length = m := by simp [junkP]
theorem junk_un (xs : List UInt8) (m : Nat) (h : m % 4 = 0) (L : List (List UInt8)) (hL : goodL L) : unpackP (junkP xs m ++ packP L) = L := by
  rw [unpack_junk _ _ (by rw [junk_len]; exact h), unpack_pack hL]
  intro i hi h3
  rw [junk_len] at hi
  rw [List.getD_eq_getElem?_getD, junkP, List.getElem?_map, List.getElem?_range hi]
  simp only [Option.map_some, Option.getD_some, junkF]
  split
  · decide
  · rename_i hh; intro e; exact hh ⟨h3, e⟩
theorem junk_hit {x : UInt8} {k : Nat} (h : k % 4 = 3) (hx : x.toNat = 78) : junkF x k = 0 := by
  rw [junkF, if_pos ⟨h, UInt8.toNat_inj.1 hx⟩]
theorem junk_miss {x : UInt8} {k : Nat} (h : ¬ (k % 4 = 3 ∧ x.toNat = 78)) : junkF x k = x := by
  rw [junkF, if_neg]
  rintro ⟨a, b⟩
  exact h ⟨a, by rw [b]; rfl⟩

set_option maxRecDepth 100000 in
set_option maxHeartbeats 4000000 in
theorem ampduJunk_walk (w : World) {E : Nat → Addr} (hE : Errs [0, 1, 2, 3, 5] w E) (A1 : Option Addr) (n1 C1 : Nat) (xs : List UInt8) (hx : Row w 1 A1 n1 C1 (xs.map u8v)) (a0 : Int) (w0 : (Lit.int .i64 a0).wf = true) (a1 : Int) (w1 : (Lit.int .i64 a1).wf = true) :
    Calls Tryd.prog 4 #[.slice A1 n1 C1, .int .i64 a0, .int .i64 a1] w fun e w' => e = .returned (.bool true) ∧ Below w.heap.size w w' := by
  obtain ⟨hb0, hb0'⟩ := bounds_i64 w0
  obtain ⟨hb1, hb1'⟩ := bounds_i64 w1
  clear w0 w1
  have s0 := Int.emod_nonneg a0 (show (10 : Int) ≠ 0 by omega)
  have s1 := Int.emod_lt_of_pos a0 (show (0 : Int) < 10 by omega)
  have t0 := Int.emod_nonneg a1 (show (60 : Int) ≠ 0 by omega)
  have t1 := Int.emod_lt_of_pos a1 (show (0 : Int) < 60 by omega)
  obtain ⟨x, hxx⟩ : ∃ x : Nat, a0 % 10 = x := ⟨(a0 % 10).toNat, by omega⟩
  obtain ⟨y, hyy⟩ : ∃ y : Nat, a1 % 60 = y := ⟨(a1 % 60).toNat, by omega⟩
  have HX := Lib.hid hxx
  have HY := Lib.hid hyy
  have x1 : x ≤ 9 := by omega
  have y1 : y ≤ 59 := by omega
  clear hxx hyy s0 s1 t0 t1
  obtain ⟨Z, hZ⟩ : ∃ Z, List.replicate (y + 1) (0 : UInt8) = Z := ⟨_, rfl⟩
  have HZ := Lib.hid (show Z.length = y + 1 by rw [← hZ, List.length_replicate])
  have HZE := Lib.hid hZ
  clear hZ
  have hmJ := hx.len_cap
  have HJ := Lib.hid hx
  have HJL := Lib.hid (show xs.length = n1 by simpa using hx.1)
  have HE := Lib.hid hE
  clear hE hx
  go_enter Tryd.func4, Tryd.ntmps4
  go_wp2_with fail
  refine (amfirst_any (HE.out.sub (by decide))).mono ?_
  rintro e w1 ⟨rfl, hw1⟩
  have HB1 := Lib.hid hw1
  clear hw1
  by_cases h40 : 40 < n1
  · go_wp2_with fail
    go_ret
    exact ⟨rfl, HB1.out⟩
  go_wp2_with fail
  refine (number_any a0 10 _ (by omega) (by omega) hb0 hb0').mono ?_
  rintro e w2 ⟨rfl, rfl⟩
  rw [HX.out]
  go_wp2_with fail
  refine (number_any a1 60 _ (by omega) (by omega) hb1 hb1').mono ?_
  rintro e w2 ⟨rfl, rfl⟩
  rw [HY.out]
  go_wp2_with fail
  go_loopw [8, 9] (fun out i wr => ∃ k : Nat, k ≤ x + 1 ∧ i = .int .i64 k ∧ OwnP wr w.heap.size out (List.replicate k Z) ∧ Below w.heap.size w wr)
    (fun _ i _ => x + 1 - (intOf i).toNat)
  case atStart => exact ⟨0, Nat.zero_le _, rfl, ownP_nil _ _, HB1.out⟩
  case round =>
    obtain ⟨k, hk, rfl, ho, hb⟩ := hrel
    have HO := Lib.hid ho
    have HB := Lib.hid hb
    have zB := hb.size
    clear ho hb
    by_cases hlt : k < x + 1
    case pos =>
      go_wp2_with (first
        | (at_make; refine make_u8_full _ rfl _ _ rfl .i64 .i64 ((y : Int) + 1) ((y : Int) + 1) (y + 1) rfl rfl (by simp) (by simp) (by omega) ?_; intro w4 hown4 hg4; have HB4 := Lib.hid ((Below.refl wr.heap.size wr).grown hg4 (Nat.le_refl _) (fun k hk => by cases hk)); have HO4 := Lib.hid (OwnU8.base_le hown4 zB); clear hown4 hg4; have z4 := HB4.out.size; have HOZ := Lib.hid (show OwnU8 w4 w.heap.size (some ⟨wr.heap.size, 0, none⟩) Z.length (y + 1) Z by rw [HZ.out, ← HZE.out]; exact HO4.out))
        | (at_builtin; refine append_part _ rfl (.tmp 33) (.tmp 36) rfl w.heap.size (List.replicate k Z) ((HO.out.below HB4.out (Nat.le_refl _)).alloc _) (by rw [List.length_replicate]; omega) _ _ Z (HOZ.out.alloc _) w4.heap.size rfl (by rw [HZ.out]; exact row_slice _ _ _) (by simp; omega) ?_; intro v' w5 ho5 hsh hb5 hk5; have HO5 := Lib.hid ho5; have HB5 := Lib.hid (((HB.out.trans (HB4.out.mono zB)).alloc (by omega) _).trans hb5); clear ho5 hsh hb5 hk5))
      go_roundw
      case rel => exact ⟨k + 1, by omega, by go_num, by rw [List.replicate_succ']; exact HO5.out, HB5.out⟩
      case measure => simp [intOf]; omega
    case neg =>
      obtain rfl : k = x + 1 := by omega
      obtain ⟨Ao, Co, rfl, hro⟩ := HO.out.row
      have hcell : (List.replicate (x + 1) Z).length = x + 1 := List.length_replicate
      rw [hcell] at hro
      have HR := Lib.hid hro
      have HEr := Lib.hid (HE.out.below HB.out (Nat.le_refl _))
      have HPR := Lib.hid (pack_any (HEr.out.sub (T := [2, 3]) (by decide)) Ao (x + 1) Co _ HR.out (by omega))
      have hgood : goodL (List.replicate (x + 1) Z) := by intro u hu; rw [(List.mem_replicate.1 hu).2, HZ.out]; omega
      have HGOOD := Lib.hid hgood
      have hne : List.replicate (x + 1) Z ≠ [] := by simp [List.replicate_succ]
      have hml := pack_rep Z x
      rw [HZ.out] at hml
      obtain ⟨m, hm⟩ : ∃ m, (packP (List.replicate (x + 1) Z)).length = m := ⟨_, rfl⟩
      have HM := Lib.hid hm
      have hu4 : up4 (y + 1) ≤ 63 := by unfold up4; omega
      have hm2 : m ≤ 700 := by
        rw [← hm, hml]
        have : x * (4 + up4 (y + 1)) ≤ 9 * 67 := Nat.mul_le_mul x1 (by omega)
        omega
      have HP := Lib.hid (packR_yes hgood hne (by rw [List.length_replicate]; omega) (by rw [hm]; omega))
      have hgn : ∀ w, (eqGuard .neq 27 (.tmp 43) (.const .nilIface) .nilIface .nilIface).run Tryd.prog w = .ok () w := fun w => err_guard' E none (.tmp 43) .nilIface w
      clear hro hm hml hcell hgood hne hu4
      go_wp2_with fail
      refine HPR.out.mono ?_
      intro e w4 hpk
      obtain ⟨A4, C4, rfl, hown, hb4⟩ := packR_take_ok hpk HP.out
      rw [HM.out] at hown ⊢
      have HQ := Lib.hid hown.row
      have HRL := Lib.hid (HR.out.below hb4 (Nat.le_refl _))
      have HB4 := Lib.hid (HB.out.trans (hb4.mono zB))
      clear hb4 hown
      have HE4 := Lib.hid (HE.out.below HB4.out (Nat.le_refl _))
      have HJ4 := Lib.hid (HJ.out.below HB4.out (Nat.le_refl _))
      have z4 := HB4.out.size
      clear hpk
      obtain ⟨d, hd⟩ : ∃ d, n1 / 4 * 4 = d := ⟨_, rfl⟩
      have ed : (n1 : Int) / 4 * 4 = (d : Int) := by omega
      have hd1 : d ≤ n1 := by omega
      have hd4 : d % 4 = 0 := by omega
      clear hd
      go_wp2_with fail
      go_loopw [12, 13] (fun c i wr => ∃ (k : Nat) (A : Option Addr) (C : Nat), k ≤ d ∧ i = .int .i64 k ∧ c = .slice A k C ∧ OwnU8 wr w4.heap.size A k C (junkP xs k) ∧ Below w4.heap.size w4 wr)
        (fun _ i _ => d - (intOf i).toNat)
      case atStart => exact ⟨0, none, 0, Nat.zero_le _, rfl, rfl, ownU8_nil _ _, Below.refl _ _⟩
      case round =>
        obtain ⟨k, A, C, hkd, rfl, rfl, hown, hbr⟩ := hrel
        have HV := Lib.hid hown
        have HBR := Lib.hid hbr
        have zR := hbr.size
        clear hown hbr
        by_cases hlt : k < d
        case pos =>
          obtain ⟨bj, oj, rfl, hbj, hcj⟩ := HJ4.out.at_ (by omega)
          have hkx : k < xs.length := by rw [HJL.out]; omega
          have c1 : wr.cell? ⟨bj, oj + k, none⟩ = some (.int .u8 ((xs[k]'hkx).toNat : Int)) := (HBR.out.cell (p := ⟨bj, oj + k, none⟩) hbj).trans (hcj k _ (u8_get hkx))
          have HS := Lib.hid (show junkP xs (k + 1) = junkP xs k ++ [junkF (xs[k]'hkx) k] by rw [junk_succ, List.getD_eq_getElem?_getD, List.getElem?_eq_getElem hkx, Option.getD_some])
          clear hcj
          generalize (xs[k]'hkx) = X at *
          have hX := UInt8.toNat_lt X
          have m4 : (k : Int) % 4 = ((k % 4 : Nat) : Int) := by omega
          by_cases hk3 : k % 4 = 3
          · by_cases hx78 : X.toNat = 78
            · have HT := Lib.hid (junk_hit hk3 hx78)
              go_wp2_with (at_builtin; refine append_u8 _ rfl (.tmp 64) (.tmp 66) rfl w4.heap.size A k C _ rfl (HV.out.alloc _) _ 1 1 [0] rfl (row_one _ _ _) (by omega) (by simp; omega) ?_; intro A2 C2 w5 hown5 hg5 hat5; have HV5 := Lib.hid hown5; have HB5 := Lib.hid (below_grown (HBR.out.alloc zR _) (HV.out.alloc _) (Nat.le_refl _) (by simp; omega) hg5); clear hown5 hg5 hat5)
              go_roundw
              case rel => exact ⟨k + 1, A2, C2, by omega, by go_num, rfl, by rw [HS.out, HT.out]; exact HV5.out, HB5.out⟩
              case measure => simp [intOf]; omega
            · have HT := Lib.hid (junk_miss (x := X) (k := k) (fun h => hx78 h.2))
              go_wp2_with (at_builtin; refine append_u8 _ rfl (.tmp 64) (.tmp 66) rfl w4.heap.size A k C _ rfl (HV.out.alloc _) _ 1 1 [X] rfl (row_one _ _ _) (by omega) (by simp; omega) ?_; intro A2 C2 w5 hown5 hg5 hat5; have HV5 := Lib.hid hown5; have HB5 := Lib.hid (below_grown (HBR.out.alloc zR _) (HV.out.alloc _) (Nat.le_refl _) (by simp; omega) hg5); clear hown5 hg5 hat5)
              go_roundw
              case rel => exact ⟨k + 1, A2, C2, by omega, by go_num, rfl, by rw [HS.out, HT.out]; exact HV5.out, HB5.out⟩
              case measure => simp [intOf]; omega
          · have HT := Lib.hid (junk_miss (x := X) (k := k) (fun h => hk3 h.1))
            have e3 : ((k : Int) % 4 == 3) = false := by simp; omega
            clear m4
            go_wp2_with (at_builtin; refine append_u8 _ rfl (.tmp 64) (.tmp 66) rfl w4.heap.size A k C _ rfl (HV.out.alloc _) _ 1 1 [X] rfl (row_one _ _ _) (by omega) (by simp; omega) ?_; intro A2 C2 w5 hown5 hg5 hat5; have HV5 := Lib.hid hown5; have HB5 := Lib.hid (below_grown (HBR.out.alloc zR _) (HV.out.alloc _) (Nat.le_refl _) (by simp; omega) hg5); clear hown5 hg5 hat5)
            go_roundw
            case rel => exact ⟨k + 1, A2, C2, by omega, by go_num, rfl, by rw [HS.out, HT.out]; exact HV5.out, HB5.out⟩
            case measure => simp [intOf]; omega
        case neg =>
          obtain rfl : k = d := by omega
          have HQR := Lib.hid (HQ.out.below HBR.out (Nat.le_refl _))
          have HU := Lib.hid (junk_un xs k hd4 _ HGOOD.out)
          go_wp2_with (at_builtin; refine append_u8 _ rfl (.tmp 70) (.tmp 71) rfl w4.heap.size A k C _ rfl HV.out A4 m C4 (packP (List.replicate (x + 1) Z)) rfl HQR.out (by omega) zR ?_; intro A2 C2 w5 hown5 hg5 hat5; have HV5 := Lib.hid hown5.row; have HB5 := Lib.hid (below_grown HBR.out HV.out (Nat.le_refl _) zR hg5); clear hown5 hg5 hat5)
          have HB6 := Lib.hid (HB4.out.trans (HB5.out.mono z4))
          have HE5 := Lib.hid (HE.out.below HB6.out (Nat.le_refl _))
          have z5 := HB6.out.size
          have HRL5 := Lib.hid (HRL.out.below HB5.out (Nat.le_refl _))
          refine (unpack_any (HE5.out.sub (by decide)) A2 (k + m) C2 _ HV5.out (by omega)).mono ?_
          rw [HU.out]
          rintro e w6 ⟨v, rfl, ho6, hb6⟩
          obtain ⟨A7, C7, rfl, hr6⟩ := ho6.row
          rw [List.length_replicate] at hr6 ⊢
          have HR6 := Lib.hid hr6
          have HRL6 := Lib.hid (HRL5.out.below hb6 (Nat.le_refl _))
          have HB7 := Lib.hid (HB6.out.trans (hb6.mono z5))
          have z7 := HB7.out.size
          clear ho6 hr6 hb6
          have HSP := Lib.hid (sameParts_yes A7 Ao (x + 1) C7 Co _ w6 HR6.out HRL6.out)
          go_wp2_with fail
          refine HSP.out.mono ?_
          rintro e w8 ⟨rfl, hb8⟩
          have HB8 := Lib.hid (HB7.out.trans (hb8.mono z7))
          clear hb8
          go_wp2_with fail
          go_ret
          exact ⟨rfl, HB8.out⟩
end Go.Proofs.YtplcdjdmkmdddaaDoor
