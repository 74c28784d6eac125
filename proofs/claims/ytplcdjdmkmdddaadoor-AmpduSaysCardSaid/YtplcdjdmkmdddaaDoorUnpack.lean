/-
  ampdu.up; ampdu.Unpack.
-/
import Derived.Test.YtplcdjdmkmdddaaDoorAmpdu
import Derived.Test.YtplcdjdmkmdddaaDoorParts
namespace Go.Proofs.YtplcdjdmkmdddaaDoor
open Go.ChangeShapes Go.WideShapes Go.ChangeAt Go.RowKit
set_option linter.unusedVariables false

set_option maxHeartbeats 400000 in
theorem up4_any (n : Nat) (w : World) (h1 : n ≤ 1000000000) : Calls Tryd.prog 23 #[.int .i64 n] w fun e w' => e = .returned (.int .i64 (up4 n : Int)) ∧ w = w' := by
  have HU := Lib.hid (show (up4 n : Int) = ((n : Int) + 3) / 4 * 4 by unfold up4; omega)
  go_enter Tryd.func23, Tryd.ntmps23
  go_wp2_with fail
  go_ret
  exact ⟨ret_i64 (by rw [HU.out]; omega), rfl⟩

theorem err_neq (E : Nat → Addr) (i : Nat) (w : World) : (binOp .neq 27 (errV E i) .nilIface).run Tryd.prog w = .ok (.bool true) w := err_nonnil E (some i) w

set_option maxHeartbeats 3200000 in
theorem unpack_any {w : World} {E : Nat → Addr} (hE : Errs [0, 1, 5] w E) (A : Option Addr) (n C : Nat) (b : List UInt8) (h : Row w 1 A n C (b.map u8v)) (hn : n ≤ 1048576) :
    Calls Tryd.prog 13 #[.slice A n C] w fun e w' => ∃ v, e = .returned v ∧ OwnP w' w.heap.size v (unpackP b) ∧ Below w.heap.size w w' := by
  have HE := Lib.hid hE
  have H := Lib.hid h
  clear hE h
  go_enter Tryd.func13, Tryd.ntmps13
  go_wp2_with fail
  go_loopw [0, 3] (fun s out wr => ∃ (A : Option Addr) (k C : Nat) (r : List UInt8) (L : List (List UInt8)), s = .slice A k C ∧ k ≤ n ∧ Row w 1 A k C (r.map u8v) ∧ OwnP wr w.heap.size out L ∧ L.length + k ≤ n ∧ L ++ unpackP r = unpackP b ∧ Below w.heap.size w wr)
    (fun s _ _ => match s with | .slice _ k _ => k | _ => 0)
  case atStart => exact ⟨A, n, C, b, [], rfl, Nat.le_refl _, H.out, ownP_nil _ _, by simp, rfl, Below.refl _ _⟩
  case round =>
    obtain ⟨A, k, C, r, L, rfl, hk, hr, ho, hLk, hU, hb⟩ := hrel
    have HR := Lib.hid hr
    have HO := Lib.hid ho
    have HU := Lib.hid hU
    have HB := Lib.hid hb
    have hm := hr.len_cap
    have hrl : r.length = k := by simpa using hr.1
    have HRL := Lib.hid hrl
    clear hr ho hU hb hrl
    by_cases h4 : k < 4
    case pos =>
      go_wp2_with fail
      go_ret
      refine ⟨_, rfl, ?_, HB.out⟩
      have := HU.out
      rw [unpack_short (by rw [HRL.out]; exact h4), List.append_nil] at this
      rw [← this]; exact HO.out
    case neg =>
      have HRW := Lib.hid (HR.out.below HB.out (Nat.le_refl _))
      have HEW := Lib.hid (HE.out.below HB.out (Nat.le_refl _))
      obtain ⟨bb, off, rfl, hlt, -⟩ := HR.out.at_ (by omega)
      have zB := HB.out.size
      rcases hp : partP r with i | x
      case error =>
        have HP := Lib.hid (unpack_err (by rw [HRL.out]; exact h4) hp)
        have HC := Lib.hid (part_err HEW.out _ k C r HRW.out i hp)
        have he := fun w => err_neq E i w
        have hg : ∀ w, (eqGuard .neq 27 (.tmp 14) (.const .nilIface) (errV E i) .nilIface).run Tryd.prog w = .ok () w := fun w => err_guard' E (some i) (.tmp 14) .nilIface w
        clear hp
        go_wp2_with fail
        refine HC.out.mono ?_
        rintro e w1 ⟨rfl, hb1⟩
        have HO1 := Lib.hid (HO.out.below hb1 (Nat.le_refl _))
        have HB1 := Lib.hid (HB.out.trans (hb1.mono zB))
        have HD := Lib.hid (row_drop8 HR.out (k := 4) (by omega))
        clear hb1
        by_cases hC : C = 4
        case pos =>
          obtain rfl : k = 4 := by omega
          have HD2 := HD.out
          rw [if_pos hC, hC, Nat.sub_self] at HD2
          have HD3 := Lib.hid HD2
          clear HD2
          subst hC
          go_wp2_with fail
          go_roundw
          case rel => exact ⟨_, 0, 0, r.drop 4, L, rfl, by omega, HD3.out, HO1.out, by omega, by rw [← HP.out]; exact HU.out, HB1.out⟩
          case measure => simp
        case neg =>
          have HD2 := HD.out
          rw [if_neg hC] at HD2
          have HD3 := Lib.hid HD2
          clear HD2
          go_wp2_with fail
          go_roundw
          case rel => exact ⟨_, k - 4, C - 4, r.drop 4, L, rfl, by omega, HD3.out, HO1.out, by omega, by rw [← HP.out]; exact HU.out, HB1.out⟩
          case measure => simp; omega
      case ok =>
        have HP := Lib.hid (unpack_ok hp)
        obtain ⟨p1, p2, p3, p4, p5⟩ := part_ok hp
        rw [HRL.out] at p4
        have HC := Lib.hid (part_yes _ k C r x HRW.out hp)
        have hle := up4_le x.length
        have hle2 : up4 x.length ≤ x.length + 3 := by unfold up4; omega
        have hx := up4_any x.length
        have HXX := Lib.hid hx
        clear hp p2 hx
        go_wp2_with fail
        refine HC.out.mono ?_
        rintro e w1 ⟨A2, C2, rfl, hown, hb1⟩
        have HO1 := Lib.hid (HO.out.below hb1 (Nat.le_refl _))
        have HB1 := Lib.hid (HB.out.trans (hb1.mono zB))
        have HY1 := Lib.hid (OwnU8.base_le hown zB)
        have z1 := HB1.out.size
        clear hown hb1
        go_wp2_with (at_builtin; refine append_part _ rfl (.tmp 18) (.tmp 20) rfl w.heap.size L (HO1.out.alloc _) (by omega) A2 C2 x (HY1.out.alloc _) w1.heap.size rfl (row_slice _ _ _) (by simp; omega) ?_; intro v' w2 ho2 hsh hb2 hk2; obtain ⟨A5, C5, rfl⟩ := hsh; have HO2 := Lib.hid ho2; have HB2 := Lib.hid ((HB1.out.alloc z1 _).trans hb2); clear ho2 hb2 hk2)
        have HRX := Lib.hid (show (L ++ [x]) ++ unpackP (r.drop (4 + up4 x.length)) = unpackP b by rw [List.append_assoc, List.singleton_append, ← HP.out]; exact HU.out)
        have hlen : (L ++ [x]).length = L.length + 1 := by simp
        have HLEN := Lib.hid hlen
        clear hlen
        have HDR := Lib.hid (fun (t : Nat) (ht : t ≤ k) => row_drop8 HR.out ht)
        refine (HXX.out w2 (by omega)).mono ?_
        rintro e w3 ⟨rfl, rfl⟩
        generalize up4 x.length = u at *
        by_cases ht : 4 + u ≤ k
        case pos =>
          have m1 : (if (4 : Int) + (u : Int) < (k : Int) then (4 : Int) + (u : Int) else (k : Int)) = (4 : Int) + (u : Int) := by split <;> omega
          have m2 : (if (k : Int) < (4 : Int) + (u : Int) then (k : Int) else (4 : Int) + (u : Int)) = (4 : Int) + (u : Int) := by split <;> omega
          have m3 : ((4 : Int) + (u : Int)).toNat = 4 + u := by omega
          have m4 : (4 : Int) + (u : Int) ≤ (k : Int) := by omega
          have m5 : (0 : Int) ≤ (4 : Int) + (u : Int) := by omega
          have HD := Lib.hid (HDR.out (4 + u) ht)
          by_cases hC : C = 4 + u
          case pos =>
            have HD2 := HD.out
            rw [if_pos hC] at HD2
            obtain ⟨k1, k2⟩ : k - (4 + u) = 0 ∧ C - (4 + u) = 0 := by omega
            rw [k1, k2] at HD2
            have HD3 := Lib.hid HD2
            clear HD2 k1 k2
            go_wp2_with fail
            go_roundw
            case rel => exact ⟨_, 0, 0, r.drop (4 + u), L ++ [x], rfl, by omega, HD3.out, HO2.out, by rw [HLEN.out]; omega, HRX.out, HB2.out⟩
            case measure => simp; omega
          case neg =>
            have HD2 := HD.out
            rw [if_neg hC] at HD2
            have HD3 := Lib.hid HD2
            clear HD2
            go_wp2_with fail
            go_roundw
            case rel => exact ⟨_, k - (4 + u), C - (4 + u), r.drop (4 + u), L ++ [x], rfl, by omega, HD3.out, HO2.out, by rw [HLEN.out]; omega, HRX.out, HB2.out⟩
            case measure => simp; omega
        case neg =>
          have m1 : (if (4 : Int) + (u : Int) < (k : Int) then (4 : Int) + (u : Int) else (k : Int)) = (k : Int) := by split <;> omega
          have m2 : (if (k : Int) < (4 : Int) + (u : Int) then (k : Int) else (4 : Int) + (u : Int)) = (k : Int) := by split <;> omega
          have HD := Lib.hid (HDR.out k (Nat.le_refl _))
          have e1 : r.drop k = r.drop (4 + u) := by
            rw [List.drop_of_length_le (by rw [HRL.out]; exact Nat.le_refl _), List.drop_of_length_le (by rw [HRL.out]; omega)]
          have E1 := Lib.hid e1
          clear e1
          by_cases hC : C = k
          case pos =>
            have HD2 := HD.out
            rw [if_pos hC, hC, Nat.sub_self] at HD2
            have HD3 := Lib.hid HD2
            clear HD2
            subst hC
            go_wp2_with fail
            go_roundw
            case rel => exact ⟨_, 0, 0, r.drop C, L ++ [x], rfl, by omega, HD3.out, HO2.out, by rw [HLEN.out]; omega, by rw [E1.out]; exact HRX.out, HB2.out⟩
            case measure => simp; omega
          case neg =>
            have HD2 := HD.out
            rw [if_neg hC, Nat.sub_self] at HD2
            have HD3 := Lib.hid HD2
            clear HD2
            go_wp2_with fail
            go_roundw
            case rel => exact ⟨_, 0, C - k, r.drop k, L ++ [x], rfl, by omega, HD3.out, HO2.out, by rw [HLEN.out]; omega, by rw [E1.out]; exact HRX.out, HB2.out⟩
            case measure => simp; omega
end Go.Proofs.YtplcdjdmkmdddaaDoor
