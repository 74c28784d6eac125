/-
  PartsWalk  Six  Idx  AggPlain  QosReadNo  PackPlain.
-/
import Derived.Test.YtoagmehgiaamlaaDoorMe
import Derived.Test.YtoagmehgiaamlaaDoorMc
import Derived.Test.YtoagmehgiaamlaaDoorMb
import Derived.Test.YtoagmehgiaamlaaDoorMd
namespace Go.Proofs.YtoagmehgiaamlaaDoor
open Go.ChangeShapes Go.WideShapes Go.ChangeAt Go.RowKit
set_option linter.unusedVariables false

def thenP (L : List (List UInt8)) (x : Except Nat (List (List UInt8))) : Except Nat (List (List UInt8)) := match x with
  | .error e => .error e
  | .ok l => .ok (L ++ l)
theorem then_then (L M : List (List UInt8)) (x : Except Nat (List (List UInt8))) : thenP L (thenP M x) = thenP (L ++ M) x := by cases x <;> simp [thenP]
theorem then_nil (x : Except Nat (List (List UInt8))) : thenP [] x = x := by cases x <;> simp [thenP]
theorem pts_bad {b x : List UInt8} (hp : partP b = .ok x) (h : ((b.drop (4 + x.length)).take (up4 x.length - x.length)).any (fun c => c != 0) = true) : ptsP b = .error 1 := by rw [pts_ok hp, if_pos h]
theorem pts_end {b x : List UInt8} (hp : partP b = .ok x) (h : ((b.drop (4 + x.length)).take (up4 x.length - x.length)).any (fun c => c != 0) = false) (h0 : 0 < min (b.length - (4 + x.length)) (up4 x.length - x.length)) (h1 : b.length - (4 + x.length) = min (b.length - (4 + x.length)) (up4 x.length - x.length)) : ptsP b = .error 0 := by
  rw [pts_ok hp, if_neg (by rw [h]; simp), if_pos ⟨h0, h1⟩]
theorem pts_go {b x : List UInt8} (hp : partP b = .ok x) (h : ((b.drop (4 + x.length)).take (up4 x.length - x.length)).any (fun c => c != 0) = false) (h1 : ¬ (0 < min (b.length - (4 + x.length)) (up4 x.length - x.length) ∧ b.length - (4 + x.length) = min (b.length - (4 + x.length)) (up4 x.length - x.length))) : ptsP b = thenP [x] (ptsP (b.drop (4 + up4 x.length))) := by
  rw [pts_ok hp, if_neg (by rw [h]; simp), if_neg h1]
  cases ptsP (b.drop (4 + up4 x.length)) <;> rfl

/-- what Parts gives back -/
def PartsR (w : World) (E : Nat → Addr) (r : Except Nat (List (List UInt8))) (e : Ending) (w' : World) : Prop := match r with
  | .error i => e = .returned (.tuple #[.slice none 0 0, errV E i]) ∧ Below w.heap.size w w'
  | .ok L => ∃ v, e = .returned (.tuple #[v, .nilIface]) ∧ OwnP w' w.heap.size v L ∧ Below w.heap.size w w'
theorem partsR_err {w w' : World} {E : Nat → Addr} {r : Except Nat (List (List UInt8))} {i : Nat} (h : r = .error i) {e : Ending} (he : e = .returned (.tuple #[.slice none 0 0, errV E i])) (hb : Below w.heap.size w w') : PartsR w E r e w' := by
  subst h; exact ⟨he, hb⟩
theorem partsR_ok {w w' : World} {E : Nat → Addr} {r : Except Nat (List (List UInt8))} {L : List (List UInt8)} (h : r = .ok L) {e : Ending} {v : Value} (he : e = .returned (.tuple #[v, .nilIface])) (ho : OwnP w' w.heap.size v L) (hb : Below w.heap.size w w') : PartsR w E r e w' := by
  subst h; exact ⟨v, he, ho, hb⟩
theorem parts_err {b : List UInt8} {i : Nat} (hb : b ≠ []) (h : ptsP b = .error i) : partsP b = .error i := by rw [partsP, if_neg hb, h]
theorem parts_many {b : List UInt8} {L : List (List UInt8)} (hb : b ≠ []) (h : ptsP b = .ok L) (hm : 64 < L.length ∨ 65535 < b.length) : partsP b = .error 3 := by
  rw [partsP, if_neg hb, h]; simp only; rw [if_pos hm]
theorem parts_ok {b : List UInt8} {L : List (List UInt8)} (hb : b ≠ []) (h : ptsP b = .ok L) (hm : ¬ (64 < L.length ∨ 65535 < b.length)) : partsP b = .ok L := by
  rw [partsP, if_neg hb, h]; simp only; rw [if_neg hm]
theorem pts_three {b r x : List UInt8} {L : List (List UInt8)} {k1 m : Nat} (hU : ptsP b = thenP L (ptsP r)) (hp : partP r = .ok x) (hx : 4 + x.length ≤ r.length) (hk : r.length - (4 + x.length) = k1) (hm : min k1 (up4 x.length - x.length) = m) :
    (((r.drop (4 + x.length)).take m).any (fun c => c != 0) = true → ptsP b = .error 1) ∧
    (((r.drop (4 + x.length)).take m).any (fun c => c != 0) = false → 0 < m → k1 = m → ptsP b = .error 0) ∧
    (((r.drop (4 + x.length)).take m).any (fun c => c != 0) = false → ¬ (0 < m ∧ k1 = m) → ptsP b = thenP (L ++ [x]) (ptsP ((r.drop (4 + x.length)).drop m))) := by
  have HLD : (r.drop (4 + x.length)).length = k1 := by rw [List.length_drop]; exact hk
  have hle := up4_le x.length
  have hpad : (r.drop (4 + x.length)).take m = (r.drop (4 + x.length)).take (up4 x.length - x.length) := by
    rcases (show m = up4 x.length - x.length ∨ (m = k1 ∧ k1 ≤ up4 x.length - x.length) by omega) with h | ⟨h, hle3⟩
    · rw [h]
    · rw [List.take_of_length_le (by omega), List.take_of_length_le (by omega)]
  rw [hpad]
  refine ⟨fun h => ?_, fun h h0 h1 => ?_, fun h h0 => ?_⟩
  · rw [hU, pts_bad hp h]; rfl
  · rw [hU, pts_end hp h (by rw [hk, hm]; exact h0) (by rw [hk, hm]; exact h1)]; rfl
  · rw [hU, pts_go hp h (by rw [hk, hm]; exact h0), then_then]
    congr 2
    rw [List.drop_drop]
    rcases (show m = up4 x.length - x.length ∨ (k1 = 0 ∧ m = 0) by omega) with h3 | ⟨h3, h4⟩
    · congr 1; omega
    · rw [List.drop_of_length_le (by omega), List.drop_of_length_le (by omega)]
theorem cut_form (C t bb off : Nat) : ∃ o, (if C = t then some (⟨bb, off, none⟩ : Addr) else some ⟨bb, off + t, none⟩) = some ⟨bb, o, none⟩ := by
  split
  · exact ⟨off, rfl⟩
  · exact ⟨off + t, rfl⟩

set_option maxHeartbeats 4000000 in
theorem parts_any {w : World} {E : Nat → Addr} (hE : Errs [0, 1, 3, 5] w E) (A : Option Addr) (n C : Nat) (b : List UInt8) (h : Row w 1 A n C (b.map u8v)) (hn : n ≤ 1048576) :
    Calls Tryd.prog 25 #[.slice A n C] w fun e w' => PartsR w E (partsP b) e w' := by
  have hbl : b.length = n := by simpa using h.1
  have HE := Lib.hid hE
  have H := Lib.hid h
  have HBL := Lib.hid hbl
  have hg0 := hE.at_ 0 2 (by decide) rfl
  have hg1 := hE.at_ 1 1 (by decide) rfl
  have hg3 := hE.at_ 3 3 (by decide) rfl
  have HG0 := Lib.hid hg0
  have HG1 := Lib.hid hg1
  have HG3 := Lib.hid hg3
  clear hE h hbl hg0 hg1 hg3
  by_cases hn0 : n = 0
  case pos =>
    subst hn0
    have hb : b = [] := List.eq_nil_of_length_eq_zero HBL.out
    have hg1 := HG1.out
    go_enter Tryd.func25, Tryd.ntmps25
    go_wp2_with fail
    go_quiet (fail)
    go_wp2_with fail
    go_ret2
    exact partsR_err (by rw [hb]; rfl) rfl (below_drewN _)
  case neg =>
  have hb : b ≠ [] := by intro e; have := HBL.out; rw [e] at this; simp at this; omega
  have HBN := Lib.hid hb
  have hn1 : ((n : Int) == 0) = false := by simp; omega
  clear hb
  go_enter Tryd.func25, Tryd.ntmps25
  go_wp2_with fail
  go_loopw [0, 5] (fun s out wr => ∃ (A : Option Addr) (k C : Nat) (r : List UInt8) (L : List (List UInt8)), s = .slice A k C ∧ k ≤ n ∧ Row w 1 A k C (r.map u8v) ∧ OwnP wr w.heap.size out L ∧ L.length + k ≤ n ∧ ptsP b = thenP L (ptsP r) ∧ Below w.heap.size w wr)
    (fun s _ _ => match s with | .slice _ k _ => k | _ => 0)
  case atStart => exact ⟨A, n, C, b, [], rfl, Nat.le_refl _, H.out, ownP_nil _ _, by simp, (then_nil _).symm, Below.refl _ _⟩
  case round =>
    obtain ⟨A, k, C, r, L, rfl, hk, hr, ho, hLk, hU, hb⟩ := hrel
    have HR := Lib.hid hr
    have HO := Lib.hid ho
    have HU := Lib.hid hU
    have HB := Lib.hid hb
    have hm := hr.len_cap
    have hrl : r.length = k := by simpa using hr.1
    have HRL := Lib.hid hrl
    clear hr ho hU hb hrl
    have zB := HB.out.size
    by_cases hk0 : k = 0
    case pos =>
      subst hk0
      have hr0 : r = [] := List.eq_nil_of_length_eq_zero HRL.out
      have HP := Lib.hid (show ptsP b = .ok L by rw [HU.out, hr0, pts_nil]; simp [thenP])
      clear hr0
      obtain ⟨Ao, Co, vs, rfl, how⟩ := HO.out
      by_cases q1 : 64 < L.length
      case pos =>
        have hg3 : wr.cell? _ = _ := (HB.out.cell (World.block_lt_of_cell? w _ HG3.out)).trans HG3.out
        have d1 : decide ((64 : Int) < (L.length : Int)) = true := decide_eq_true (by omega)
        go_wp2_with fail
        go_quiet (fail)
        go_wp2_with fail
        go_ret2
        exact partsR_err (parts_many HBN.out HP.out (.inl q1)) rfl (HB.out.trans (below_drewN _))
      case neg =>
      have d1 : decide ((64 : Int) < (L.length : Int)) = false := decide_eq_false (by omega)
      by_cases q2 : 65535 < n
      case pos =>
        have hg3 : wr.cell? _ = _ := (HB.out.cell (World.block_lt_of_cell? w _ HG3.out)).trans HG3.out
        have d2 : decide ((65535 : Int) < (n : Int)) = true := decide_eq_true (by omega)
        go_wp2_with fail
        go_quiet (fail)
        go_wp2_with fail
        go_ret2
        exact partsR_err (parts_many HBN.out HP.out (.inr (by rw [HBL.out]; exact q2))) rfl (HB.out.trans (below_drewN _))
      case neg =>
        have d2 : decide ((65535 : Int) < (n : Int)) = false := decide_eq_false (by omega)
        go_wp2_with fail
        go_ret2
        exact partsR_ok (parts_ok HBN.out HP.out (by rw [HBL.out]; omega)) rfl HO.out HB.out
    case neg =>
      have hkp : (0 : Int) < (k : Int) := by omega
      have HRW := Lib.hid (HR.out.below HB.out (Nat.le_refl _))
      have HEW := Lib.hid ((HE.out.sub (T := [0, 1, 5]) (by decide)).below HB.out (Nat.le_refl _))
      obtain ⟨bb, off, rfl, hlt, -⟩ := HR.out.at_ (by omega)
      have hrn : r ≠ [] := by intro e; have := HRL.out; rw [e] at this; simp at this; omega
      rcases hp : partP r with i | x
      case error =>
        have HP := Lib.hid (show ptsP b = .error i by rw [HU.out, pts_err hrn hp]; rfl)
        have HC := Lib.hid (part_err HEW.out _ k C r HRW.out i hp)
        have he := fun w => err_neq E i w
        have hg : ∀ w, (eqGuard .neq 42 (.tmp 23) (.const .nilIface) (errV E i) .nilIface).run Tryd.prog w = .ok () w := fun w => err_guard' E (some i) (.tmp 23) .nilIface w
        clear hp hrn
        go_wp2_with fail
        refine HC.out.mono ?_
        rintro e w1 ⟨rfl, hb1⟩
        have HB1 := Lib.hid (HB.out.trans (hb1.mono zB))
        clear hb1
        go_wp2_with fail
        go_ret2
        exact partsR_err (parts_err HBN.out HP.out) rfl HB1.out
      case ok =>
        obtain ⟨p1, p2, p3, p4, p5⟩ := part_ok hp
        rw [HRL.out] at p4
        have HC := Lib.hid (part_yes _ k C r x HRW.out hp)
        have HPT := Lib.hid hp
        have hle := up4_le x.length
        have hle2 : up4 x.length ≤ x.length + 3 := by unfold up4; omega
        have HXX := Lib.hid (fun w => up4_any x.length w (by omega))
        obtain ⟨o1, ho1⟩ := cut_form C (4 + x.length) bb off
        have HD := row_drop8 HR.out (k := 4 + x.length) p4
        rw [ho1] at HD
        have HD1 := Lib.hid HD
        have H3 := Lib.hid (fun k1 m => pts_three (k1 := k1) (m := m) HU.out hp (by rw [HRL.out]; exact p4))
        clear hp p2 HD hrn
        generalize hnn : x.length = nn at *
        generalize huu : up4 nn = u at *
        obtain ⟨k1, hk1⟩ : ∃ k1, k - (4 + nn) = k1 := ⟨_, rfl⟩
        obtain ⟨c1, hc1⟩ : ∃ c1, C - (4 + nn) = c1 := ⟨_, rfl⟩
        obtain ⟨d, hd⟩ : ∃ d, u - nn = d := ⟨_, rfl⟩
        obtain ⟨m, hmm⟩ : ∃ m, min k1 d = m := ⟨_, rfl⟩
        rw [hk1, hc1] at HD1
        obtain ⟨o2, ho2⟩ := cut_form c1 m bb o1
        have HDT := Lib.hid (row_take8 HD1.out (show m ≤ k1 by omega))
        have HDD := row_drop8 HD1.out (show m ≤ k1 by omega)
        have HD2 := Lib.hid HDD
        clear ho2
        obtain ⟨HBAD, HEND, HGO⟩ := H3.out k1 m (by rw [HRL.out]; exact hk1) (by rw [hd]; exact hmm)
        replace HBAD := Lib.hid HBAD
        replace HEND := Lib.hid HEND
        replace HGO := Lib.hid HGO
        have HMIN := Lib.hid hmm
        have HNN := Lib.hid hnn
        have HUU := Lib.hid huu
        have HDE := Lib.hid hd
        have HK1 := Lib.hid hk1
        have b1 : m ≤ k1 := by omega
        have b2 : m ≤ d := by omega
        have b3 : k1 ≤ c1 := by omega
        have b4 : d ≤ 3 := by omega
        have b5 : k1 ≤ 1048576 := by omega
        have HQ := Lib.hid (show (m = d ∨ m = k1) ∧ u = nn + d ∧ k = 4 + nn + k1 by omega)
        have i1 : (u : Int) - (nn : Int) = (d : Int) := by omega
        have i2 : (if (k1 : Int) < (d : Int) then (k1 : Int) else (d : Int)) = (m : Int) := by split <;> omega
        have i3 : (if (d : Int) < (k1 : Int) then (d : Int) else (k1 : Int)) = (m : Int) := by split <;> omega
        have i4 : ((4 : Int) + (nn : Int)).toNat = 4 + nn := by omega
        have i5 : (4 : Int) + (nn : Int) ≤ (k : Int) := by omega
        have i6 : (0 : Int) ≤ (4 : Int) + (nn : Int) := by omega
        have i7 : (m : Int) ≤ (c1 : Int) := by omega
        have i8 : (m : Int) ≤ (k1 : Int) := by omega
        have hgn : ∀ w, (eqGuard .neq 42 (.tmp 23) (.const .nilIface) .nilIface .nilIface).run Tryd.prog w = .ok () w := fun w => err_guard' E none (.tmp 23) .nilIface w
        clear hnn huu hd hmm HDD hle hle2
        go_wp2_with fail
        refine HC.out.mono ?_
        rintro e w1 ⟨A2, C2, rfl, hown, hb1⟩
        have HO1 := Lib.hid (HO.out.below hb1 (Nat.le_refl _))
        have HB1 := Lib.hid (HB.out.trans (hb1.mono zB))
        have HY1 := Lib.hid (OwnU8.base_le hown zB)
        have HY2 := HY1.out
        rw [← HNN.out] at HY2
        have HY3 := Lib.hid HY2
        have z1 := HB1.out.size
        clear hown hb1 HY2
        go_wp2_with (at_builtin; refine append_part _ rfl (.tmp 26) (.tmp 28) rfl w.heap.size L (HO1.out.alloc _) (by omega) A2 C2 x (HY3.out.alloc _) w1.heap.size rfl (by rw [HNN.out]; exact row_slice _ _ _) (by simp; omega) ?_; intro v' w2 ho2 hsh hb2 hk2; obtain ⟨A5, C5, rfl⟩ := hsh; have HO2 := Lib.hid ho2; have HB2 := Lib.hid ((HB1.out.alloc z1 _).trans hb2); clear ho2 hb2 hk2)
        refine (HXX.out _).mono ?_
        rintro e w3 ⟨rfl, rfl⟩
        clear hgn
        have HANY := Lib.hid (anyNz_any _ _ _ _ _ (HDT.out.below HB2.out (Nat.le_refl _)) _ rfl)
        rcases (show (m = d ∧ (d : Int) < (k1 : Int)) ∨ (m = k1 ∧ ¬ (d : Int) < (k1 : Int)) by omega) with ⟨rfl, hdk⟩ | ⟨rfl, hdk⟩
        · skip
          go_wp2_with fail
          refine HANY.out.mono ?_
          rintro e w3 ⟨rfl, rfl⟩
          rcases hany : ((r.drop (4 + nn)).take m).any (fun c => c != 0)
          case true =>
            have hg1 : w2.cell? _ = _ := (HB2.out.cell (World.block_lt_of_cell? w _ HG1.out)).trans HG1.out
            go_wp2_with fail
            go_quiet (fail)
            go_wp2_with fail
            go_ret2
            exact partsR_err (parts_err HBN.out (HBAD.out hany)) rfl (HB2.out.trans (below_drewN _))
          case false =>
            have HNY := Lib.hid hany
            clear hany
            have HPG := Lib.hid (HGO.out HNY.out (by omega))
            have e1 : ((k1 : Int) == (m : Int)) = false := by simp; omega
            by_cases hm0 : 0 < m
            · have e2 : decide ((0 : Int) < (m : Int)) = true := decide_eq_true (by omega)
              go_wp2_with fail
              have hq := HQ.out
              have hd2 := HD2.out
              rw [if_neg (by omega)] at hd2
              refine ⟨⟨_, _, _, _, _, rfl, by omega, hd2, HO2.out, ?_, HPG.out, HB2.out⟩, ?_⟩
              · simp only [List.length_append, List.length_cons, List.length_nil]; omega
              · show k1 - m < k; omega
            · have e2 : decide ((0 : Int) < (m : Int)) = false := decide_eq_false (by omega)
              obtain rfl : m = 0 := by omega
              go_wp2_with fail
              have hq := HQ.out
              refine ⟨⟨_, _, _, _, _, rfl, by omega, HD1.out, HO2.out, ?_, HPG.out, HB2.out⟩, ?_⟩
              · simp only [List.length_append, List.length_cons, List.length_nil]; omega
              · show k1 < k; omega
        · skip
          go_wp2_with fail
          refine HANY.out.mono ?_
          rintro e w3 ⟨rfl, rfl⟩
          rcases hany : ((r.drop (4 + nn)).take m).any (fun c => c != 0)
          case true =>
            have hg1 : w2.cell? _ = _ := (HB2.out.cell (World.block_lt_of_cell? w _ HG1.out)).trans HG1.out
            go_wp2_with fail
            go_quiet (fail)
            go_wp2_with fail
            go_ret2
            exact partsR_err (parts_err HBN.out (HBAD.out hany)) rfl (HB2.out.trans (below_drewN _))
          case false =>
            have HNY := Lib.hid hany
            clear hany
            by_cases hm0 : 0 < m
            · have HPE := Lib.hid (by first | exact HEND.out HNY.out hm0 rfl | exact HEND.out HNY.out hm0 trivial : ptsP b = .error 0)
              have e2 : decide ((0 : Int) < (m : Int)) = true := decide_eq_true (by omega)
              have hg0 : w2.cell? _ = _ := (HB2.out.cell (World.block_lt_of_cell? w _ HG0.out)).trans HG0.out
              go_wp2_with fail
              go_quiet (fail)
              go_wp2_with fail
              go_ret2
              exact partsR_err (parts_err HBN.out HPE.out) rfl (HB2.out.trans (below_drewN _))
            · have HPG := Lib.hid (HGO.out HNY.out (by omega))
              have e2 : decide ((0 : Int) < (m : Int)) = false := decide_eq_false (by omega)
              obtain rfl : m = 0 := by omega
              go_wp2_with fail
              have hq := HQ.out
              refine ⟨⟨_, _, _, _, _, rfl, by omega, HD1.out, HO2.out, ?_, HPG.out, HB2.out⟩, ?_⟩
              · simp only [List.length_append, List.length_cons, List.length_nil]; omega
              · show _ < k; omega
end Go.Proofs.YtoagmehgiaamlaaDoor

namespace Go.Proofs.YtoagmehgiaamlaaDoor
open Go.ChangeShapes Go.WideShapes Go.ChangeAt Go.RowKit
set_option linter.unusedVariables false

def sixA (f : Nat → UInt8) : Array Value := #[.int .u8 ((f 0).toNat : Int), .int .u8 ((f 1).toNat : Int), .int .u8 ((f 2).toNat : Int), .int .u8 ((f 3).toNat : Int), .int .u8 ((f 4).toNat : Int), .int .u8 ((f 5).toNat : Int)]
theorem sixA_one (f : Nat → UInt8) : (sixA f).all (·.oneCell') = true := by simp [sixA, Value.oneCell']
theorem sixA_set (f : Nat → UInt8) (k : Nat) (hk : k < 6) (v : UInt8) : (sixA f).setIfInBounds k (.int .u8 (v.toNat : Int)) = sixA (fun i => if i = k then v else f i) := by
  rcases (show k = 0 ∨ k = 1 ∨ k = 2 ∨ k = 3 ∨ k = 4 ∨ k = 5 by omega) with rfl | rfl | rfl | rfl | rfl | rfl <;> rfl

theorem results_cell1 {fn : Func} {p : Tmp} {ty : TypeId} (h : fn.results = #[.cell p ty]) (tmps : Array Value) (P : Program) (w : World) :
    (results fn tmps).run P w = ((asAddr (tmps.getD p undef)).run P w).andThen fun a w' => (loadVar ty a).run P w' := by
  unfold results
  rw [h]
  simp
theorem ret_cell1 {P : Program} {fn : Func} {R : Ending → World → Prop} {p : Tmp} {ty : TypeId} (hr : fn.results = #[.cell p ty]) {a : Act} {w : World} (n : Nat) (T : TypeId) (zs : Array Value)
    (hp : a.eval (.tmp p) = .pointer (some ⟨n, 0, none⟩)) (hk : Blk w n zs T) (hw : wide (P.underlying ty) = true) (hi : (P.info? ty).map (·.size) = some zs.size) (hd : a.defers = [])
    (h : R (.returned (.agg zs)) w) : bodyPost P fn R .ret a w := by
  refine bodyPost_ret (v := .agg zs) ?_ hd h
  have hp' : a.tmps.getD p undef = .pointer (some ⟨n, 0, none⟩) := hp
  obtain ⟨d, hd1, hd2⟩ : ∃ d, P.underlying ty = some d ∧ (match d with | .struct _ | .array _ _ => true | _ => false) = true := by
    cases he : P.underlying ty with
    | none => rw [he] at hw; simp [wide] at hw
    | some d => exact ⟨d, rfl, by rw [he] at hw; cases d <;> simp_all [wide]⟩
  have hl : (loadVar ty ⟨n, 0, none⟩).run P w = .ok (.agg zs) w := run_loadVar_row w n T ty zs (0, 0) d hk hd1 (by cases d <;> simp_all) hi
  rw [results_cell1 hr, hp']
  simp only [asAddr, Sem.run_pure, Result.andThen_ok, hl]

theorem six_zero (w : World) : (sixA (fun _ => 0)) = #[.int .u8 0, .int .u8 0, .int .u8 0, .int .u8 0, .int .u8 0, .int .u8 0] := rfl
set_option maxHeartbeats 1000000 in
theorem six_any (b off len cap : Nat) (xs : List UInt8) (w : World) (hrow : Row w 1 (some ⟨b, off, none⟩) len cap (xs.map u8v)) (h6 : 6 ≤ len) :
    Calls Tryd.prog 57 #[.slice (some ⟨b, off, none⟩) len cap] w fun e w' => e = .returned (av fun i => xs.getD i 0) ∧ Below w.heap.size w w' := by
  have hl : xs.length = len := by simpa using hrow.length
  have hkR : Blk ((w.alloc (.cells (sixA fun _ => 0) 26)).alloc (.cells (sixA fun _ => 0) 26)) w.heap.size (sixA fun _ => 0) 26 := (Blk.new w _ _).alloc _
  have hkL : Blk ((w.alloc (.cells (sixA fun _ => 0) 26)).alloc (.cells (sixA fun _ => 0) 26)) (w.heap.size + 1) (sixA fun _ => 0) 26 := by
    have := Blk.new (w.alloc (.cells (sixA fun _ => 0) 26)) (sixA fun _ => 0) 26
    simpa using this
  have hb0 : Below w.heap.size w ((w.alloc (.cells (sixA fun _ => 0) 26)).alloc (.cells (sixA fun _ => 0) 26)) := ((Below.refl _ _).alloc (Nat.le_refl _) _).alloc (by simp) _
  rw [six_zero w] at hkR hkL hb0
  have HRow := Lib.hid hrow
  have HL := Lib.hid hl
  clear hrow hl
  go_enter Tryd.func57, Tryd.ntmps57
  go_wp2_with fail
  generalize (w.alloc _).alloc _ = W at *
  rename_i KE hKend
  have HK := Lib.hid hKend
  clear hKend
  go_loopw [4] (fun i wr => ∃ k : Nat, k ≤ 6 ∧ i = .int .i64 k ∧ Hid (Blk wr (w.heap.size + 1) (sixA fun i => if i < k then xs.getD i 0 else 0) 26) ∧ Hid (Blk wr w.heap.size (sixA fun _ => 0) 26) ∧ Hid (Below w.heap.size w wr)) (fun i _ => 6 - (intOf i).toNat)
  case atStart => exact ⟨0, by omega, rfl, Lib.hid hkL, Lib.hid hkR, Lib.hid hb0⟩
  case round =>
    obtain ⟨k, hk, rfl, hL, hR, hB⟩ := hrel
    by_cases hlt : k < 6
    · obtain ⟨b', off', e, hb, hc⟩ := (HRow.out.below hB.out (Nat.le_refl _)).at_ (by omega)
      obtain ⟨rfl, rfl⟩ : b = b' ∧ off = off' := by injection e with e; injection e with e1 e2 e3; exact ⟨e1, e2⟩
      have hkx : k < xs.length := by rw [HL.out]; omega
      have d1 : wr.cell? ⟨b, off + k, none⟩ = some (.int .u8 ((xs[k]'hkx).toNat : Int)) := hc k _ (u8_get hkx)
      have d2 : wr.cell? ⟨w.heap.size + 1, k, none⟩ = some (.int .u8 (((fun i => if i < k then xs.getD i 0 else 0 : Nat → UInt8) k).toNat : Int)) := (hL.out.cell k).trans (six_at (fun i => if i < k then xs.getD i 0 else 0) k hlt)
      have f2 := hL.out.frozen k
      have e1 : 0 ≤ (k : Int) := by omega
      have e2 : (k : Int) < 6 := by omega
      have e3 : (k : Int) < (len : Int) := by omega
      have hset := Lib.hid (hL.out.set_ k (.int .u8 ((xs[k]'hkx).toNat : Int)))
      have hR2 := Lib.hid (hR.out.far (p := ⟨w.heap.size + 1, k, none⟩) (by simp) (.int .u8 ((xs[k]'hkx).toNat : Int)))
      have hge : w.heap.size ≤ w.heap.size + 1 := by omega
      have hB2 := Lib.hid (hB.out.setCell (p := ⟨w.heap.size + 1, k, none⟩) hge (.int .u8 ((xs[k]'hkx).toNat : Int)))
      have hxk := Lib.hid (show xs.getD k 0 = xs[k]'hkx by rw [List.getD_eq_getElem?_getD, List.getElem?_eq_getElem hkx]; rfl)
      clear hc hb
      generalize (xs[k]'hkx) = X at *
      go_wp2_with fail
      go_roundw
      case rel =>
        refine ⟨k + 1, by omega, by go_num, Lib.hid ?_, hR2, hB2⟩
        have := hset.out
        rw [sixA_set _ k hlt] at this
        have ef : (fun i => if i = k then X else if i < k then xs.getD i 0 else 0) = (fun i => if i < k + 1 then xs.getD i 0 else 0) := by
          funext i
          by_cases h1 : i = k
          · subst h1; rw [if_pos rfl, if_pos (by omega), hxk.out]
          · rw [if_neg h1]
            by_cases h2 : i < k
            · rw [if_pos h2, if_pos (by omega)]
            · rw [if_neg h2, if_neg (by omega)]
        rw [ef] at this
        exact this
      case measure => simp [intOf]; omega
    · have hke : k = 6 := by omega
      subst hke
      go_wp2_with fail
      refine HK.out _ _ ?_
      have hkL6 := hL.out
      have hkR6 := hR.out
      go_wp2_with (first
        | (refine wpList_load_blk _ (by rfl) 26 _ rfl (w.heap.size + 1) rfl 26 _ _ hkL6 Tryd.underlying26 rfl (by kernel_rfl) ?_)
        | (refine wpList_store_blk _ (by rfl) 26 _ _ rfl w.heap.size _ rfl rfl 26 _ hkR6 (by kernel_rfl) rfl (sixA_one _) ?_; intro w4 hk4 hg4))
      exact ret_cell1 rfl w.heap.size _ _ rfl hk4 (by kernel_rfl) (by kernel_rfl) rfl ⟨rfl, Below.grown hB.out hg4 hB.out.size (by simp)⟩
end Go.Proofs.YtoagmehgiaamlaaDoor

namespace Go.Proofs.YtoagmehgiaamlaaDoor
open Go.ChangeShapes Go.WideShapes Go.ChangeAt Go.RowKit
set_option linter.unusedVariables false

/-- the place of a number, or -1 -/
def posOf (xs : List Int) (s : Int) : Option Nat := xs.findIdx? (· == s)

set_option maxHeartbeats 800000 in
theorem index_no (a : Option Addr) (len cap : Nat) (xs : List Int) (s : Int) (w : World) (h : Row w 1 a len cap (xs.map (Value.int .i64))) (hs : s ∉ xs) :
    Calls Tryd.prog 77 #[.slice a len cap, .int .i64 s] w fun e w' => e = .returned (.int .i64 (-1)) ∧ w = w' := by
  have hm := h.len_le
  have hL : xs.length = len := by simpa using h.1
  have H := Lib.hid h
  have HS := Lib.hid hs
  clear h hs
  go_enter Tryd.func77, Tryd.ntmps77
  go_wp2_with fail
  go_loopw [8] (fun i wr => ∃ k : Nat, k ≤ len ∧ i = .int .i64 k ∧ wr = w) (fun i _ => len - (intOf i).toNat)
  case atStart => exact ⟨0, Nat.zero_le _, rfl, rfl⟩
  case round =>
    obtain ⟨k, hk, rfl, rfl⟩ := hrel
    by_cases hlt : k < len
    · obtain ⟨b, off, rfl, hb, hc⟩ := H.out.at_ (by omega)
      obtain ⟨z, hz⟩ : ∃ z, xs[k]? = some z := ⟨_, List.getElem?_eq_getElem (by omega)⟩
      have hcz : wr.cell? ⟨b, off + k, none⟩ = some (.int .i64 z) := hc k _ (by rw [List.getElem?_map, hz]; rfl)
      have hne : ¬ s = z := fun e => HS.out (e ▸ List.mem_of_getElem? hz)
      clear hc hz
      go_wp2_with fail
      go_roundw
      case rel => exact ⟨k + 1, by omega, by go_num, by trivial⟩
      case measure => simp [intOf]; omega
    · go_wp2_with fail
      go_ret
      first | exact ⟨rfl, rfl⟩ | exact ⟨rfl, trivial⟩

set_option maxHeartbeats 800000 in
theorem index_yes (a : Option Addr) (len cap : Nat) (xs : List Int) (s : Int) (w : World) (h : Row w 1 a len cap (xs.map (Value.int .i64))) (i : Nat) (hi : xs[i]? = some s) (hfst : ∀ j, j < i → xs[j]? ≠ some s) :
    Calls Tryd.prog 77 #[.slice a len cap, .int .i64 s] w fun e w' => e = .returned (.int .i64 (i : Int)) ∧ w = w' := by
  have hm := h.len_le
  have hL : xs.length = len := by simpa using h.1
  have hil : i < len := by rw [← hL]; exact (List.getElem?_eq_some_iff.1 hi).1
  have H := Lib.hid h
  have HI := Lib.hid hi
  have HF := Lib.hid hfst
  clear h hi hfst
  go_enter Tryd.func77, Tryd.ntmps77
  go_wp2_with fail
  go_loopw [8] (fun j wr => ∃ k : Nat, k ≤ i ∧ j = .int .i64 k ∧ wr = w) (fun j _ => len - (intOf j).toNat)
  case atStart => exact ⟨0, Nat.zero_le _, rfl, rfl⟩
  case round =>
    obtain ⟨k, hk, rfl, rfl⟩ := hrel
    have hlt : k < len := by omega
    obtain ⟨b, off, rfl, hb, hc⟩ := H.out.at_ (by omega)
    by_cases hki : k = i
    · subst hki
      have hcz : wr.cell? ⟨b, off + k, none⟩ = some (.int .i64 s) := hc k _ (by rw [List.getElem?_map, HI.out]; rfl)
      clear hc
      go_wp2_with fail
      go_ret
      first | exact ⟨rfl, rfl⟩ | exact ⟨rfl, trivial⟩
    · obtain ⟨z, hz⟩ : ∃ z, xs[k]? = some z := ⟨_, List.getElem?_eq_getElem (by omega)⟩
      have hcz : wr.cell? ⟨b, off + k, none⟩ = some (.int .i64 z) := hc k _ (by rw [List.getElem?_map, hz]; rfl)
      have hne : ¬ s = z := fun e => HF.out k (by omega) (e ▸ hz)
      clear hc hz
      go_wp2_with fail
      go_roundw
      case rel => exact ⟨k + 1, by omega, by go_num, by trivial⟩
      case measure => simp [intOf]; omega
end Go.Proofs.YtoagmehgiaamlaaDoor

namespace Go.Proofs.YtoagmehgiaamlaaDoor
open Go.ChangeShapes Go.WideShapes Go.ChangeAt Go.RowKit
set_option linter.unusedVariables false

def upP (n : Int) : Int := (n + 3) / 4 * 4
def aggS (a n : Int) : Int := upP a + 4 + max n 0
def aggP (L : List Int) : Int := L.foldl aggS 0
theorem agg_snoc (L : List Int) (n : Int) : aggP (L ++ [n]) = aggS (aggP L) n := by simp [aggP]
theorem aggS_le (a n : Int) : a + 4 ≤ aggS a n := by unfold aggS upP; omega
theorem aggS_top {a n : Int} (h : n ≤ 4095) : aggS a n ≤ a + 4102 := by unfold aggS upP; omega
theorem agg_nonneg (L : List Int) : 0 ≤ aggP L := by
  have key : ∀ (L : List Int) (a : Int), 0 ≤ a → 0 ≤ L.foldl aggS a := by
    intro L
    induction L with
    | nil => intro a h; exact h
    | cons n L ih => intro a h; exact ih _ (by have := aggS_le a n; omega)
  exact key L 0 (Int.le_refl _)
theorem agg_top (L : List Int) (h : ∀ n ∈ L, n ≤ 4095) : aggP L ≤ 4102 * L.length := by
  have key : ∀ (L : List Int) (a : Int), (∀ n ∈ L, n ≤ 4095) → L.foldl aggS a ≤ a + 4102 * L.length := by
    intro L
    induction L with
    | nil => intro a _; simp
    | cons n L ih =>
      intro a h
      have h1 := ih (aggS a n) fun m hm => h m (List.mem_cons_of_mem _ hm)
      have h2 := aggS_top (a := a) (h n (List.mem_cons_self ..))
      simp only [List.foldl_cons, List.length_cons]
      omega
  have h1 := key L 0 h
  show L.foldl aggS 0 ≤ _
  omega
theorem agg_append (L M : List Int) : aggP L ≤ aggP (L ++ M) := by
  have key : ∀ (M : List Int) (a : Int), a ≤ M.foldl aggS a := by
    intro M
    induction M with
    | nil => intro a; exact Int.le_refl _
    | cons n M ih => intro a; have := ih (aggS a n); have := aggS_le a n; simp only [List.foldl_cons]; omega
  have := key M (aggP L)
  simpa [aggP] using this

/-- lengths that are read -/
def RowN (w : World) (A : Option Addr) (n C : Nat) (L : List Int) : Prop := n = L.length ∧ Row w 1 A n C (L.map (Value.int .i64))
section
variable {w w' : World} {A : Option Addr} {n C : Nat} {L : List Int}
theorem RowN.below (h : RowN w A n C L) {B : Nat} (hb : Below B w w') (hB : w.heap.size ≤ B) : RowN w' A n C L := ⟨h.1, h.2.below hb hB⟩
theorem RowN.take (h : RowN w A n C L) {k : Nat} (hk : k ≤ n) : RowN w A k C (L.take k) := by
  refine ⟨by rw [List.length_take]; have := h.1; omega, ?_⟩
  have := Row.take h.2 hk
  rwa [Nat.mul_one, ← List.map_take] at this
theorem RowN.at_ (h : RowN w A n C L) {k : Nat} (hk : k < n) : ∃ b off z, A = some ⟨b, off, none⟩ ∧ b < w.heap.size ∧ L[k]? = some z ∧ w.cell? ⟨b, off + k, none⟩ = some (.int .i64 z) := by
  obtain ⟨b, off, hA, hlt, hc⟩ := h.2.at_ (by omega)
  have hL := h.1
  refine ⟨b, off, L[k]'(by omega), hA, hlt, List.getElem?_eq_getElem (by omega), hc k _ ?_⟩
  rw [List.getElem?_map, List.getElem?_eq_getElem (by omega)]; rfl
end
theorem take_at {L : List Int} {k : Nat} {z : Int} (h : L[k]? = some z) : L.take (k + 1) = L.take k ++ [z] := by
  obtain ⟨hk, rfl⟩ := List.getElem?_eq_some_iff.1 h
  exact List.take_succ_eq_append_getElem hk

set_option maxHeartbeats 1600000 in
theorem aggLen_any (A : Option Addr) (n C : Nat) (L : List Int) (w : World) (h : RowN w A n C L) (hn : n ≤ 1000) (hL : ∀ z ∈ L, -1000000 ≤ z ∧ z ≤ 4095) :
    Calls Tryd.prog 42 #[.slice A n C] w fun e w' => e = .returned (.int .i64 (aggP L)) ∧ w = w' := by
  have H := Lib.hid h
  have HL := Lib.hid hL
  have HN := Lib.hid h.1
  clear h hL
  go_enter Tryd.func42, Tryd.ntmps42
  go_wp2_with fail
  go_loopw [3, 4] (fun t i wr => ∃ k : Nat, k ≤ n ∧ i = .int .i64 k ∧ t = .int .i64 (aggP (L.take k)) ∧ wr = w) (fun _ i _ => n - (intOf i).toNat)
  case atStart => exact ⟨0, Nat.zero_le _, rfl, rfl, rfl⟩
  case round =>
    obtain ⟨k, hk, rfl, rfl, rfl⟩ := hrel
    by_cases hlt : k < n
    · obtain ⟨b, off, z, rfl, hb, hz, hc⟩ := H.out.at_ hlt
      obtain ⟨z0, z1⟩ := HL.out z (List.mem_of_getElem? hz)
      have a0 := agg_nonneg (L.take k)
      have a1 := agg_top (L.take k) (fun m hm => (HL.out m (List.mem_of_mem_take hm)).2)
      have a2 : (L.take k).length ≤ k := List.length_take_le _ _
      have HS := Lib.hid (show aggP (L.take (k + 1)) = (aggP (L.take k) + 3) / 4 * 4 + 4 + max z 0 by rw [take_at hz, agg_snoc]; rfl)
      clear hz
      generalize aggP (L.take k) = a at *
      have a3 : a ≤ 4102 * 1000 := by omega
      clear a1 a2
      by_cases hz0 : z < 0
      · go_wp2_with fail
        go_roundw
        case rel => exact ⟨k + 1, by omega, by go_num, by rw [HS.out]; go_num, by trivial⟩
        case measure => simp [intOf]; omega
      · go_wp2_with fail
        go_roundw
        case rel => exact ⟨k + 1, by omega, by go_num, by rw [HS.out]; go_num, by trivial⟩
        case measure => simp [intOf]; omega
    · obtain rfl : k = n := by omega
      go_wp2_with fail
      go_ret
      exact ⟨ret_i64 (by rw [List.take_of_length_le (by rw [HN.out]; exact Nat.le_refl _)]), by trivial⟩
end Go.Proofs.YtoagmehgiaamlaaDoor

namespace Go.Proofs.YtoagmehgiaamlaaDoor
open Go.ChangeShapes Go.WideShapes Go.ChangeAt Go.RowKit
set_option linter.unusedVariables false

/-- the cells of the frame that is none -/
def z0 : Array Value := qcells (fun _ => 0) 0 0 false false false none 0 0

theorem z0_eq : z0 = #[.int .u8 0, .int .u8 0, .int .u8 0, .int .u8 0, .int .u8 0, .int .u8 0, .int .u8 0, .int .u8 0, .int .u8 0, .int .u8 0, .int .u8 0, .int .u8 0, .int .u8 0, .int .u8 0, .int .u8 0, .int .u8 0, .int .u8 0, .int .u8 0, .int .i64 0, .int .i64 0, .bool false, .bool false, .bool false, .slice none 0 0] := by kernel_rfl

theorem u8_ne0 (x : UInt8) (h : ((x.toNat : Int) != 0) = true) : (x == 0) = false := by
  have : x ≠ 0 := by rintro rfl; simp at h
  simpa using this
theorem u8_is0 (x : UInt8) (h : ((x.toNat : Int) != 0) = false) : (x == 0) = true := by
  have : x.toNat = 0 := by simp at h; omega
  have : x = 0 := UInt8.toNat_inj.mp (by simpa using this)
  simpa using this
theorem shape_no1 {x1 x2 x3 x22 x24 x25 : UInt8} (h : (bits .andNot .u8 (x1.toNat : Int) 40 != 2) = true) : shapeOk x1 x2 x3 x22 x24 x25 = false := by
  rw [bne, go_form1] at h
  unfold shapeOk
  have : (x1 == 2 || x1 == 10 || x1 == 34 || x1 == 42) = false := by simpa using h
  simp [this]
theorem shape_no2 {x1 x2 x3 x22 x24 x25 : UInt8} (h : ((x2.toNat : Int) != 0) = true) : shapeOk x1 x2 x3 x22 x24 x25 = false := by
  simp [shapeOk, u8_ne0 _ h]
theorem shape_no3 {x1 x2 x3 x22 x24 x25 : UInt8} (h : ((x3.toNat : Int) != 0) = true) : shapeOk x1 x2 x3 x22 x24 x25 = false := by
  simp [shapeOk, u8_ne0 _ h]
theorem shape_no25 {x1 x2 x3 x22 x24 x25 : UInt8} (h : ((x25.toNat : Int) != 0) = true) : shapeOk x1 x2 x3 x22 x24 x25 = false := by
  simp [shapeOk, u8_ne0 _ h]
theorem shape_no22 {x1 x2 x3 x22 x24 x25 : UInt8} {sq : Nat} (hs : sq % 16 = x22.toNat % 16) (h : ((sq : Int) % 16 != 0) = true) : shapeOk x1 x2 x3 x22 x24 x25 = false := by
  have : x22.toNat % 16 ≠ 0 := by simp at h; omega
  simp [shapeOk, this]
theorem shape_no24 {x1 x2 x3 x22 x24 x25 : UInt8} (h : 8 ≤ bits .andNot .u8 (x24.toNat : Int) 16) : shapeOk x1 x2 x3 x22 x24 x25 = false := by
  have h2 := go_form24 x24
  rw [decide_eq_true h] at h2
  have : (decide (x24.toNat < 8) || (decide (16 ≤ x24.toNat) && decide (x24.toNat < 24))) = false := by revert h2; generalize (decide (x24.toNat < 8) || (decide (16 ≤ x24.toNat) && decide (x24.toNat < 24))) = q; cases q <;> simp
  unfold shapeOk
  rw [this]; simp
theorem shape_yes {x1 x2 x3 x22 x24 x25 : UInt8} {sq : Nat} (hs : sq % 16 = x22.toNat % 16) (h1 : (bits .andNot .u8 (x1.toNat : Int) 40 != 2) = false) (h2 : ((x2.toNat : Int) != 0) = false) (h3 : ((x3.toNat : Int) != 0) = false)
    (h25 : ((x25.toNat : Int) != 0) = false) (h22 : ((sq : Int) % 16 != 0) = false) (h24 : bits .andNot .u8 (x24.toNat : Int) 16 < 8) : shapeOk x1 x2 x3 x22 x24 x25 = true := by
  rw [bne, go_form1] at h1
  have a1 : (x1 == 2 || x1 == 10 || x1 == 34 || x1 == 42) = true := by revert h1; generalize (x1 == 2 || x1 == 10 || x1 == 34 || x1 == 42) = q; cases q <;> simp
  have a4 := go_form24 x24
  rw [decide_eq_false (by omega)] at a4
  have a5 : (decide (x24.toNat < 8) || (decide (16 ≤ x24.toNat) && decide (x24.toNat < 24))) = true := by revert a4; generalize (decide (x24.toNat < 8) || (decide (16 ≤ x24.toNat) && decide (x24.toNat < 24))) = q; cases q <;> simp
  have a6 : x22.toNat % 16 = 0 := by simp at h22; omega
  unfold shapeOk
  rw [a1, a5, u8_is0 _ h2, u8_is0 _ h3, u8_is0 _ h25, a6]; rfl

set_option maxRecDepth 100000 in
set_option maxHeartbeats 1000000 in
theorem qosRead_no (A : Option Addr) (n C : Nat) (xs : List UInt8) (w : World) {E : Nat → Addr} (hE : Errs [0, 1, 2, 4] w E) (hb : Row w 1 A n C (xs.map u8v)) (i : Nat) (hi : rdErr xs = some i) :
    Calls Tryd.prog 26 #[.slice A n C] w fun e w' => e = .returned (.tuple #[.agg z0, errV E i]) ∧ Below w.heap.size w w' := by
  have hlen : xs.length = n := by simpa using hb.length
  have hE1 := hE.alloc (.cells z0 35)
  have hb1 := hb.alloc (.cells z0 35)
  have e0 := hE1.at_ 0 2 (by decide) rfl
  have e1 := hE1.at_ 1 1 (by decide) rfl
  have e2 := hE1.at_ 2 5 (by decide) rfl
  have e4 := hE1.at_ 4 4 (by decide) rfl
  have l0 := World.block_lt_of_cell? w _ (hE.at_ 0 2 (by decide) rfl)
  have l1 := World.block_lt_of_cell? w _ (hE.at_ 1 1 (by decide) rfl)
  have l2 := World.block_lt_of_cell? w _ (hE.at_ 2 5 (by decide) rfl)
  have l4 := World.block_lt_of_cell? w _ (hE.at_ 4 4 (by decide) rfl)
  simp only [] at l0 l1 l2 l4
  have hk0 := Blk.new w z0 35
  have hb0 : Below w.heap.size w (w.alloc (.cells z0 35)) := (Below.refl _ _).alloc (Nat.le_refl _) _
  have hlt0 := hk0.lt
  by_cases h26 : n < 26
  · obtain rfl : i = 0 := by simpa [rdErr, hlen, h26] using hi.symm
    clear hi
    go_enter Tryd.func26, Tryd.ntmps26
    go_wp2_with fail
    change Code.wp _ _ _ _ (w.alloc (.cells z0 35))
    generalize w.alloc (.cells z0 35) = W0 at *
    refine wp_zero_err (by kernel_rfl) _ _ _ _ _ _ _ _ _ _ _ _ 35 z0 z0 (errV E 0) (by decide) (by decide) (by decide) (by simp) (by simp) rfl hk0 (by kernel_rfl) (by kernel_rfl) rfl (by kernel_rfl) (by intro w; kernel_rfl) e0 (by omega) ?_
    intro w1 hk1 hg1
    go_wp2_with fail
    exact ret_cell_tmp rfl _ _ z0 (errV E 0) rfl hk1 (by kernel_rfl) (by kernel_rfl) rfl rfl ⟨rfl, Below.grown (by assumption) hg1 (by omega) (by simp)⟩
  · obtain ⟨b, off, rfl, hbb, hc⟩ := hb1.at_ (by omega)
    have hcell : ∀ k, k < 26 → (w.alloc (.cells z0 35)).cell? ⟨b, off + k, none⟩ = some (u8v (xs.getD k 0)) := fun k hk => hc k _ (by rw [List.getElem?_map, List.getElem?_eq_getElem (by omega)]; simp [List.getD_eq_getElem?_getD, List.getElem?_eq_getElem (show k < xs.length by omega)])
    clear hc
    simp only [rdErr, hlen, if_neg h26] at hi
    have c0 := hcell 0 (by omega); rw [Nat.add_zero] at c0; have c1 := hcell 1 (by omega); have c2 := hcell 2 (by omega); have c3 := hcell 3 (by omega)
    have c22 := hcell 22 (by omega); have c23 := hcell 23 (by omega); have c24 := hcell 24 (by omega); have c25 := hcell 25 (by omega)
    clear hcell
    generalize xs.getD 0 0 = x0 at *
    generalize xs.getD 1 0 = x1 at *
    generalize xs.getD 2 0 = x2 at *
    generalize xs.getD 3 0 = x3 at *
    generalize xs.getD 22 0 = x22 at *
    generalize xs.getD 23 0 = x23 at *
    generalize xs.getD 24 0 = x24 at *
    generalize xs.getD 25 0 = x25 at *
    have t1 := Lib.hid (go_form1 x1)
    have t24 := Lib.hid (go_form24 x24)
    have tj := Lib.hid (go_join x22 x23)
    rw [z0_eq] at c0 c1 c2 c3 c22 c23 c24 c25 e0 e1 e2 e4 hk0 hb0
    simp only [u8v] at c0 c1 c2 c3 c22 c23 c24 c25
    clear hE1 hb1 hlt0
    go_enter Tryd.func26, Tryd.ntmps26
    go_wp2_with fail
    all_goals (have hlt0 := hk0.lt; generalize w.alloc _ = W0 at *)
    · have hq : ((x0.toNat : Int) != 136) = true := by assumption
      obtain rfl : i = 4 := by
        have : x0 ≠ 136 := by rintro rfl; simp at hq
        simpa [this] using hi.symm
      refine wp_zero_err (by kernel_rfl) _ _ _ _ _ _ _ _ _ _ _ _ 35 z0 z0 (errV E 4) (by decide) (by decide) (by decide) (by simp) (by simp) rfl hk0 (by kernel_rfl) (by kernel_rfl) rfl (by kernel_rfl) (by intro w; kernel_rfl) e4 (by omega) ?_
      intro w1 hk1 hg1
      go_wp2_with fail
      exact ret_cell_tmp rfl _ _ z0 (errV E 4) rfl hk1 (by kernel_rfl) (by kernel_rfl) rfl rfl ⟨rfl, Below.grown (by assumption) hg1 (by omega) (by simp)⟩
    · have hq : ((x0.toNat : Int) != 136) = false := by assumption
      have hx0 : x0 = 136 := by apply UInt8.toNat_inj.mp; simp at hq; simp; omega
      simp only [hx0, ne_eq, not_true, if_false] at hi
      clear hq c0
      go_region
      have tj' : bits .or .i64 (wrap64 (x22.toNat : Int)) (wrap64 (wrap64 (x23.toNat : Int) * 256)) = ((x22.toNat + 256 * x23.toNat : Nat) : Int) := by
        have h1 := UInt8.toNat_lt x22
        have h2 := UInt8.toNat_lt x23
        rw [IntWalk.wrap64_in (x22.toNat : Int) (by omega), IntWalk.wrap64_in (x23.toNat : Int) (by omega), IntWalk.wrap64_in _ (by omega)]
        exact tj.out
      obtain ⟨sq, hsq⟩ : ∃ sq, sq = x22.toNat + 256 * x23.toNat := ⟨_, rfl⟩
      have hsq16 : sq % 16 = x22.toNat % 16 := by omega
      rw [tj', ← hsq]
      replace hb0 : Below w.heap.size w W0.drew := hb0.trans (below_drewN (w := W0) 1)
      replace hlt0 : w.heap.size < W0.drew.heap.size := hlt0
      clear tj tj' t1 t24 hsq
      go_wp2_with fail
      all_goals (try (go_simp; go_wp2_with fail))
      iterate 6
        (· have hs : shapeOk x1 x2 x3 x22 x24 x25 = false := by
             first
             | exact shape_no1 (by assumption)
             | exact shape_no2 (by assumption)
             | exact shape_no3 (by assumption)
             | exact shape_no25 (by assumption)
             | exact shape_no22 hsq16 (by assumption)
             | exact shape_no24 (by assumption)
           obtain rfl : i = 1 := by simpa [hs] using hi.symm
           refine wp_zero_err (by kernel_rfl) _ _ _ _ _ _ _ _ _ _ _ _ 35 z0 z0 (errV E 1) (by decide) (by decide) (by decide) (by simp) (by simp) rfl hk0 (by kernel_rfl) (by kernel_rfl) rfl (by kernel_rfl) (by intro w; kernel_rfl) e1 (by omega) ?_
           intro w1 hk1 hg1
           go_wp2_with fail
           exact ret_cell_tmp rfl _ _ z0 (errV E 1) rfl hk1 (by kernel_rfl) (by kernel_rfl) rfl rfl ⟨rfl, Below.grown (by assumption) hg1 (by omega) (by simp)⟩)
      · have hs : shapeOk x1 x2 x3 x22 x24 x25 = true := shape_yes hsq16 (by assumption) (by assumption) (by assumption) (by assumption) (by assumption) (by assumption)
        have hq : 1500 < wrap64 ((n : Int) - 26) := by assumption
        rw [IntWalk.wrap64_in _ (by have := hb.len_le; omega)] at hq
        obtain rfl : i = 2 := by simpa [hs, show 1526 < n by omega] using hi.symm
        refine wp_zero_err (by kernel_rfl) _ _ _ _ _ _ _ _ _ _ _ _ 35 z0 z0 (errV E 2) (by decide) (by decide) (by decide) (by simp) (by simp) rfl hk0 (by kernel_rfl) (by kernel_rfl) rfl (by kernel_rfl) (by intro w; kernel_rfl) e2 (by omega) ?_
        intro w1 hk1 hg1
        go_wp2_with fail
        exact ret_cell_tmp rfl _ _ z0 (errV E 2) rfl hk1 (by kernel_rfl) (by kernel_rfl) rfl rfl ⟨rfl, Below.grown (by assumption) hg1 (by omega) (by simp)⟩
      · exfalso
        have hs : shapeOk x1 x2 x3 x22 x24 x25 = true := shape_yes hsq16 (by assumption) (by assumption) (by assumption) (by assumption) (by assumption) (by assumption)
        have hq : wrap64 ((n : Int) - 26) ≤ 1500 := by assumption
        rw [IntWalk.wrap64_in _ (by have := hb.len_le; omega)] at hq
        simp [hs, show ¬ 1526 < n by omega] at hi
end Go.Proofs.YtoagmehgiaamlaaDoor

namespace Go.Proofs.YtoagmehgiaamlaaDoor
open Go.ChangeShapes Go.WideShapes Go.ChangeAt Go.RowKit
set_option linter.unusedVariables false

def badX (x : List UInt8) : Bool := decide (x.length < 1) || decide (4095 < x.length)
def lensP (L : List (List UInt8)) : List Int := L.map fun x => (x.length : Int)
/-- parts as one, or the error's place: 2 Range, 3 Many -/
def packR (L : List (List UInt8)) : Except Nat (List UInt8) :=
  if L.any badX = true then .error 2
  else if L = [] then .error 2
  else if 64 < L.length ∨ 65535 < aggP (lensP L) then .error 3
  else .ok (packP L)
def PackR (w : World) (E : Nat → Addr) (r : Except Nat (List UInt8)) (e : Ending) (w' : World) : Prop := match r with
  | .error i => e = .returned (.tuple #[.slice none 0 0, errV E i]) ∧ Below w.heap.size w w'
  | .ok b => ∃ A C, e = .returned (.tuple #[.slice A b.length C, .nilIface]) ∧ OwnU8 w' w.heap.size A b.length C b ∧ Below w.heap.size w w'
theorem packR_err {w w' : World} {E : Nat → Addr} {r : Except Nat (List UInt8)} {i : Nat} (h : r = .error i) {e : Ending} (he : e = .returned (.tuple #[.slice none 0 0, errV E i])) (hb : Below w.heap.size w w') : PackR w E r e w' := by
  subst h; exact ⟨he, hb⟩
theorem packR_ok {w w' : World} {E : Nat → Addr} {r : Except Nat (List UInt8)} {b : List UInt8} (h : r = .ok b) {e : Ending} {A : Option Addr} {n C : Nat} (he : e = .returned (.tuple #[.slice A n C, .nilIface])) (ho : OwnU8 w' w.heap.size A n C b) (hb : Below w.heap.size w w') : PackR w E r e w' := by
  subst h
  have := ho.len
  subst this
  exact ⟨A, C, he, ho, hb⟩
theorem bad_no {x : List UInt8} (h : badX x = false) : 1 ≤ x.length ∧ x.length ≤ 4095 := by simp only [badX, Bool.or_eq_false_iff, decide_eq_false_iff_not] at h; omega
theorem takeL {α : Type} {L : List α} {k : Nat} {z : α} (h : L[k]? = some z) : L.take (k + 1) = L.take k ++ [z] := by
  obtain ⟨hk, rfl⟩ := List.getElem?_eq_some_iff.1 h
  exact List.take_succ_eq_append_getElem hk
theorem any_snoc {L M : List (List UInt8)} {x : List UInt8} (e : M = L ++ [x]) (h : L.any badX = false) (hx : badX x = false) : M.any badX = false := by rw [e, List.any_append, h]; simp [hx]
theorem any_at {L : List (List UInt8)} {k : Nat} {x : List UInt8} (h : L[k]? = some x) (hx : badX x = true) : L.any badX = true := List.any_eq_true.2 ⟨x, List.mem_of_getElem? h, hx⟩
theorem lens_snoc {L M : List (List UInt8)} {x : List UInt8} (e : M = L ++ [x]) : lensP M = lensP L ++ [(x.length : Int)] := by rw [e, lensP, List.map_append]; rfl

theorem row_two8 (w : World) (a b : UInt8) (t : TypeId) : Row (w.alloc (.cells #[.int .u8 (a.toNat : Int), .int .u8 (b.toNat : Int)] t)) 1 (some ⟨w.heap.size, 0, none⟩) 2 2 ([a, b].map u8v) := by
  rcases row_new w #[.int .u8 (a.toNat : Int), .int .u8 (b.toNat : Int)] t with h | h
  · exact h
  · simp [maxLen] at h
theorem hd_lo (n : Nat) : (((UInt8.ofNat (n * 16)).toNat : Nat) : Int) = (n : Int) * 16 % 256 := by rw [UInt8.toNat_ofNat']; omega
theorem hd_hi (n : Nat) (h : n ≤ 4095) : (((UInt8.ofNat (n * 16 / 256)).toNat : Nat) : Int) = (n : Int) * 16 / 256 := by rw [UInt8.toNat_ofNat']; omega
theorem row_hd (w : World) (n : Nat) (h : n ≤ 4095) (t : TypeId) : Row (w.alloc (.cells #[.int .u8 ((n : Int) * 16 % 256), .int .u8 ((n : Int) * 16 / 256)] t)) 1 (some ⟨w.heap.size, 0, none⟩) 2 2 ((hdB n).map u8v) := by
  rw [← hd_lo n, ← hd_hi n h]
  exact row_two8 w _ _ t
theorem pack_to {L M : List (List UInt8)} {x : List UInt8} {m nx d : Nat} (e : M = L ++ [x]) (hm : (packP L).length = m) (hx : x.length = nx) (hp : pad4 m = List.replicate d 0) :
    packP M = packP L ++ List.replicate d 0 ++ Crc.sealed (hdB nx) ++ [78] ++ x := by
  rw [e, pack_snoc, hm, hp, hx, delim]; simp only [List.append_assoc]
end Go.Proofs.YtoagmehgiaamlaaDoor

