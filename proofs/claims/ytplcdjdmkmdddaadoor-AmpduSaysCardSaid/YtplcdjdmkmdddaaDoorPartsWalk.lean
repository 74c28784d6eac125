/-
  ampdu.Parts.
-/
import Derived.Test.YtplcdjdmkmdddaaDoorPartsFn
namespace Go.Proofs.YtplcdjdmkmdddaaDoor
open Go.ChangeShapes Go.WideShapes Go.ChangeAt Go.RowKit
set_option linter.unusedVariables false

def thenP (L : List (List UInt8)) (x : Except Nat (List (List UInt8))) : Except Nat (List (List UInt8)) := match x with
  | .error e => .error e
  | .ok l => .ok (L ++ l)
theorem then_then (L M : List (List UInt8)) (x : Except Nat (List (List UInt8))) : thenP L (thenP M x) = thenP (L ++ M) x := by cases x <;> simp [thenP]
theorem then_nil (x : Except Nat (List (List UInt8))) : thenP [] x = x := by cases x <;> simp [thenP]
theorem pts_bad {b x : List UInt8} (hp : partP b = .ok x) (h : ((b.drop (4 + x.length)).take (up4 x.length - x.length)).any (fun c => c != 0) = true) : ptsP b = .error 1 := by rw [pts_ok hp, if_pos h]
theorem pts_end {b x : List UInt8} (hp : partP b = .ok x) (h : ((b.drop (4 + x.length)).take (up4 x.length - x.length)).any (fun c => c != 0) = false) (h0 : 0 < min (b.length - (4 + x.length)) (up4 x.length - x.length)) (h1 : b.length - (4 + x.length) = min (b.length - (4 + x.length)) (up4 x.length - x.length)) : ptsP b = .error 0 := by
  rw [pts_ok hp, if_neg (by rw [h]; simp), if_pos ⟨h0, h1⟩]
theorem pts_go {b x : List UInt8} (hp : partP b = .ok x) (h : ((b.drop (4 + x.length)).take (up4 x.length - x.length)).any (fun c => c != 0) = false) (h1 : ¬ (0 < min (b.length - (4 + x.length)) (up4 x.length - x.length) ∧ b.length - (4 + x.length) = min (b.length - (4 + x.length)) (up4 x.length - x.length))) : ptsP b = thenP [x] (ptsP (b.drop (4 + up4 x.length))) := by
  rw [pts_ok hp, if_neg (by rw [h]; simp), if_neg h1]
  cases ptsP (b.drop (4 + up4 x.length)) <;> rfl

/-- what Parts gives back -/
def PartsR (w : World) (E : Nat → Addr) (r : Except Nat (List (List UInt8))) (e : Ending) (w' : World) : Prop := match r with
  | .error i => e = .returned (.tuple #[.slice none 0 0, errV E i]) ∧ Below w.heap.size w w'
  | .ok L => ∃ v, e = .returned (.tuple #[v, .nilIface]) ∧ OwnP w' w.heap.size v L ∧ Below w.heap.size w w'
theorem partsR_err {w w' : World} {E : Nat → Addr} {r : Except Nat (List (List UInt8))} {i : Nat} (h : r = .error i) {e : Ending} (he : e = .returned (.tuple #[.slice none 0 0, errV E i])) (hb : Below w.heap.size w w') : PartsR w E r e w' := by
  subst h; exact ⟨he, hb⟩
theorem partsR_ok {w w' : World} {E : Nat → Addr} {r : Except Nat (List (List UInt8))} {L : List (List UInt8)} (h : r = .ok L) {e : Ending} {v : Value} (he : e = .returned (.tuple #[v, .nilIface])) (ho : OwnP w' w.heap.size v L) (hb : Below w.heap.size w w') : PartsR w E r e w' := by
  subst h; exact ⟨v, he, ho, hb⟩
theorem parts_err {b : List UInt8} {i : Nat} (hb : b ≠ []) (h : ptsP b = .error i) : partsP b = .error i := by rw [partsP, if_neg hb, h]
theorem parts_many {b : List UInt8} {L : List (List UInt8)} (hb : b ≠ []) (h : ptsP b = .ok L) (hm : 64 < L.length ∨ 65535 < b.length) : partsP b = .error 3 := by
  rw [partsP, if_neg hb, h]; simp only; rw [if_pos hm]
theorem parts_ok {b : List UInt8} {L : List (List UInt8)} (hb : b ≠ []) (h : ptsP b = .ok L) (hm : ¬ (64 < L.length ∨ 65535 < b.length)) : partsP b = .ok L := by
  rw [partsP, if_neg hb, h]; simp only; rw [if_neg hm]
theorem pts_three {b r x : List UInt8} {L : List (List UInt8)} {k1 m : Nat} (hU : ptsP b = thenP L (ptsP r)) (hp : partP r = .ok x) (hx : 4 + x.length ≤ r.length) (hk : r.length - (4 + x.length) = k1) (hm : min k1 (up4 x.length - x.length) = m) :
    (((r.drop (4 + x.length)).take m).any (fun c => c != 0) = true → ptsP b = .error 1) ∧
    (((r.drop (4 + x.length)).take m).any (fun c => c != 0) = false → 0 < m → k1 = m → ptsP b = .error 0) ∧
    (((r.drop (4 + x.length)).take m).any (fun c => c != 0) = false → ¬ (0 < m ∧ k1 = m) → ptsP b = thenP (L ++ [x]) (ptsP ((r.drop (4 + x.length)).drop m))) := by
  have HLD : (r.drop (4 + x.length)).length = k1 := by rw [List.length_drop]; exact hk
  have hle := up4_le x.length
  have hpad : (r.drop (4 + x.length)).take m = (r.drop (4 + x.length)).take (up4 x.length - x.length) := by
    rcases (show m = up4 x.length - x.length ∨ (m = k1 ∧ k1 ≤ up4 x.length - x.length) by omega) with h | ⟨h, hle3⟩
    · rw [h]
    · rw [List.take_of_length_le (by omega), List.take_of_length_le (by omega)]
  rw [hpad]
  refine ⟨fun h => ?_, fun h h0 h1 => ?_, fun h h0 => ?_⟩
  · rw [hU, pts_bad hp h]; rfl
  · rw [hU, pts_end hp h (by rw [hk, hm]; exact h0) (by rw [hk, hm]; exact h1)]; rfl
  · rw [hU, pts_go hp h (by rw [hk, hm]; exact h0), then_then]
    congr 2
    rw [List.drop_drop]
    rcases (show m = up4 x.length - x.length ∨ (k1 = 0 ∧ m = 0) by omega) with h3 | ⟨h3, h4⟩
    · congr 1; omega
    · rw [List.drop_of_length_le (by omega), List.drop_of_length_le (by omega)]
theorem cut_form (C t bb off : Nat) : ∃ o, (if C = t then some (⟨bb, off, none⟩ : Addr) else some ⟨bb, off + t, none⟩) = some ⟨bb, o, none⟩ := by
  split
  · exact ⟨off, rfl⟩
  · exact ⟨off + t, rfl⟩

set_option maxHeartbeats 4000000 in
theorem parts_any {w : World} {E : Nat → Addr} (hE : Errs [0, 1, 3, 5] w E) (A : Option Addr) (n C : Nat) (b : List UInt8) (h : Row w 1 A n C (b.map u8v)) (hn : n ≤ 1048576) :
    Calls Tryd.prog 16 #[.slice A n C] w fun e w' => PartsR w E (partsP b) e w' := by
  have hbl : b.length = n := by simpa using h.1
  have HE := Lib.hid hE
  have H := Lib.hid h
  have HBL := Lib.hid hbl
  have hg0 := hE.at_ 0 3 (by decide) rfl
  have hg1 := hE.at_ 1 2 (by decide) rfl
  have hg3 := hE.at_ 3 1 (by decide) rfl
  have HG0 := Lib.hid hg0
  have HG1 := Lib.hid hg1
  have HG3 := Lib.hid hg3
  clear hE h hbl hg0 hg1 hg3
  by_cases hn0 : n = 0
  case pos =>
    subst hn0
    have hb : b = [] := List.eq_nil_of_length_eq_zero HBL.out
    have hg1 := HG1.out
    go_enter Tryd.func16, Tryd.ntmps16
    go_wp2_with fail
    go_quiet (fail)
    go_wp2_with fail
    go_ret2
    exact partsR_err (by rw [hb]; rfl) rfl (below_drewN _)
  case neg =>
  have hb : b ≠ [] := by intro e; have := HBL.out; rw [e] at this; simp at this; omega
  have HBN := Lib.hid hb
  have hn1 : ((n : Int) == 0) = false := by simp; omega
  clear hb
  go_enter Tryd.func16, Tryd.ntmps16
  go_wp2_with fail
  go_loopw [0, 5] (fun s out wr => ∃ (A : Option Addr) (k C : Nat) (r : List UInt8) (L : List (List UInt8)), s = .slice A k C ∧ k ≤ n ∧ Row w 1 A k C (r.map u8v) ∧ OwnP wr w.heap.size out L ∧ L.length + k ≤ n ∧ ptsP b = thenP L (ptsP r) ∧ Below w.heap.size w wr)
    (fun s _ _ => match s with | .slice _ k _ => k | _ => 0)
  case atStart => exact ⟨A, n, C, b, [], rfl, Nat.le_refl _, H.out, ownP_nil _ _, by simp, (then_nil _).symm, Below.refl _ _⟩
  case round =>
    obtain ⟨A, k, C, r, L, rfl, hk, hr, ho, hLk, hU, hb⟩ := hrel
    have HR := Lib.hid hr
    have HO := Lib.hid ho
    have HU := Lib.hid hU
    have HB := Lib.hid hb
    have hm := hr.len_cap
    have hrl : r.length = k := by simpa using hr.1
    have HRL := Lib.hid hrl
    clear hr ho hU hb hrl
    have zB := HB.out.size
    by_cases hk0 : k = 0
    case pos =>
      subst hk0
      have hr0 : r = [] := List.eq_nil_of_length_eq_zero HRL.out
      have HP := Lib.hid (show ptsP b = .ok L by rw [HU.out, hr0, pts_nil]; simp [thenP])
      clear hr0
      obtain ⟨Ao, Co, vs, rfl, how⟩ := HO.out
      by_cases q1 : 64 < L.length
      case pos =>
        have hg3 : wr.cell? _ = _ := (HB.out.cell (World.block_lt_of_cell? w _ HG3.out)).trans HG3.out
        have d1 : decide ((64 : Int) < (L.length : Int)) = true := decide_eq_true (by omega)
        go_wp2_with fail
        go_quiet (fail)
        go_wp2_with fail
        go_ret2
        exact partsR_err (parts_many HBN.out HP.out (.inl q1)) rfl (HB.out.trans (below_drewN _))
      case neg =>
      have d1 : decide ((64 : Int) < (L.length : Int)) = false := decide_eq_false (by omega)
      by_cases q2 : 65535 < n
      case pos =>
        have hg3 : wr.cell? _ = _ := (HB.out.cell (World.block_lt_of_cell? w _ HG3.out)).trans HG3.out
        have d2 : decide ((65535 : Int) < (n : Int)) = true := decide_eq_true (by omega)
        go_wp2_with fail
        go_quiet (fail)
        go_wp2_with fail
        go_ret2
        exact partsR_err (parts_many HBN.out HP.out (.inr (by rw [HBL.out]; exact q2))) rfl (HB.out.trans (below_drewN _))
      case neg =>
        have d2 : decide ((65535 : Int) < (n : Int)) = false := decide_eq_false (by omega)
        go_wp2_with fail
        go_ret2
        exact partsR_ok (parts_ok HBN.out HP.out (by rw [HBL.out]; omega)) rfl HO.out HB.out
    case neg =>
      have hkp : (0 : Int) < (k : Int) := by omega
      have HRW := Lib.hid (HR.out.below HB.out (Nat.le_refl _))
      have HEW := Lib.hid ((HE.out.sub (T := [0, 1, 5]) (by decide)).below HB.out (Nat.le_refl _))
      obtain ⟨bb, off, rfl, hlt, -⟩ := HR.out.at_ (by omega)
      have hrn : r ≠ [] := by intro e; have := HRL.out; rw [e] at this; simp at this; omega
      rcases hp : partP r with i | x
      case error =>
        have HP := Lib.hid (show ptsP b = .error i by rw [HU.out, pts_err hrn hp]; rfl)
        have HC := Lib.hid (part_err HEW.out _ k C r HRW.out i hp)
        have he := fun w => err_neq E i w
        have hg : ∀ w, (eqGuard .neq 27 (.tmp 23) (.const .nilIface) (errV E i) .nilIface).run Tryd.prog w = .ok () w := fun w => err_guard' E (some i) (.tmp 23) .nilIface w
        clear hp hrn
        go_wp2_with fail
        refine HC.out.mono ?_
        rintro e w1 ⟨rfl, hb1⟩
        have HB1 := Lib.hid (HB.out.trans (hb1.mono zB))
        clear hb1
        go_wp2_with fail
        go_ret2
        exact partsR_err (parts_err HBN.out HP.out) rfl HB1.out
      case ok =>
        obtain ⟨p1, p2, p3, p4, p5⟩ := part_ok hp
        rw [HRL.out] at p4
        have HC := Lib.hid (part_yes _ k C r x HRW.out hp)
        have HPT := Lib.hid hp
        have hle := up4_le x.length
        have hle2 : up4 x.length ≤ x.length + 3 := by unfold up4; omega
        have HXX := Lib.hid (fun w => up4_any x.length w (by omega))
        obtain ⟨o1, ho1⟩ := cut_form C (4 + x.length) bb off
        have HD := row_drop8 HR.out (k := 4 + x.length) p4
        rw [ho1] at HD
        have HD1 := Lib.hid HD
        have H3 := Lib.hid (fun k1 m => pts_three (k1 := k1) (m := m) HU.out hp (by rw [HRL.out]; exact p4))
        clear hp p2 HD hrn
        generalize hnn : x.length = nn at *
        generalize huu : up4 nn = u at *
        obtain ⟨k1, hk1⟩ : ∃ k1, k - (4 + nn) = k1 := ⟨_, rfl⟩
        obtain ⟨c1, hc1⟩ : ∃ c1, C - (4 + nn) = c1 := ⟨_, rfl⟩
        obtain ⟨d, hd⟩ : ∃ d, u - nn = d := ⟨_, rfl⟩
        obtain ⟨m, hmm⟩ : ∃ m, min k1 d = m := ⟨_, rfl⟩
        rw [hk1, hc1] at HD1
        obtain ⟨o2, ho2⟩ := cut_form c1 m bb o1
        have HDT := Lib.hid (row_take8 HD1.out (show m ≤ k1 by omega))
        have HDD := row_drop8 HD1.out (show m ≤ k1 by omega)
        have HD2 := Lib.hid HDD
        clear ho2
        obtain ⟨HBAD, HEND, HGO⟩ := H3.out k1 m (by rw [HRL.out]; exact hk1) (by rw [hd]; exact hmm)
        replace HBAD := Lib.hid HBAD
        replace HEND := Lib.hid HEND
        replace HGO := Lib.hid HGO
        have HMIN := Lib.hid hmm
        have HNN := Lib.hid hnn
        have HUU := Lib.hid huu
        have HDE := Lib.hid hd
        have HK1 := Lib.hid hk1
        have b1 : m ≤ k1 := by omega
        have b2 : m ≤ d := by omega
        have b3 : k1 ≤ c1 := by omega
        have b4 : d ≤ 3 := by omega
        have b5 : k1 ≤ 1048576 := by omega
        have HQ := Lib.hid (show (m = d ∨ m = k1) ∧ u = nn + d ∧ k = 4 + nn + k1 by omega)
        have i1 : (u : Int) - (nn : Int) = (d : Int) := by omega
        have i2 : (if (k1 : Int) < (d : Int) then (k1 : Int) else (d : Int)) = (m : Int) := by split <;> omega
        have i3 : (if (d : Int) < (k1 : Int) then (d : Int) else (k1 : Int)) = (m : Int) := by split <;> omega
        have i4 : ((4 : Int) + (nn : Int)).toNat = 4 + nn := by omega
        have i5 : (4 : Int) + (nn : Int) ≤ (k : Int) := by omega
        have i6 : (0 : Int) ≤ (4 : Int) + (nn : Int) := by omega
        have i7 : (m : Int) ≤ (c1 : Int) := by omega
        have i8 : (m : Int) ≤ (k1 : Int) := by omega
        have hgn : ∀ w, (eqGuard .neq 27 (.tmp 23) (.const .nilIface) .nilIface .nilIface).run Tryd.prog w = .ok () w := fun w => err_guard' E none (.tmp 23) .nilIface w
        clear hnn huu hd hmm HDD hle hle2
        go_wp2_with fail
        refine HC.out.mono ?_
        rintro e w1 ⟨A2, C2, rfl, hown, hb1⟩
        have HO1 := Lib.hid (HO.out.below hb1 (Nat.le_refl _))
        have HB1 := Lib.hid (HB.out.trans (hb1.mono zB))
        have HY1 := Lib.hid (OwnU8.base_le hown zB)
        have HY2 := HY1.out
        rw [← HNN.out] at HY2
        have HY3 := Lib.hid HY2
        have z1 := HB1.out.size
        clear hown hb1 HY2
        go_wp2_with (at_builtin; refine append_part _ rfl (.tmp 26) (.tmp 28) rfl w.heap.size L (HO1.out.alloc _) (by omega) A2 C2 x (HY3.out.alloc _) w1.heap.size rfl (by rw [HNN.out]; exact row_slice _ _ _) (by simp; omega) ?_; intro v' w2 ho2 hsh hb2 hk2; obtain ⟨A5, C5, rfl⟩ := hsh; have HO2 := Lib.hid ho2; have HB2 := Lib.hid ((HB1.out.alloc z1 _).trans hb2); clear ho2 hb2 hk2)
        refine (HXX.out _).mono ?_
        rintro e w3 ⟨rfl, rfl⟩
        clear hgn
        have HANY := Lib.hid (anyNz_any _ _ _ _ _ (HDT.out.below HB2.out (Nat.le_refl _)) _ rfl)
        rcases (show (m = d ∧ (d : Int) < (k1 : Int)) ∨ (m = k1 ∧ ¬ (d : Int) < (k1 : Int)) by omega) with ⟨rfl, hdk⟩ | ⟨rfl, hdk⟩
        · skip
          go_wp2_with fail
          refine HANY.out.mono ?_
          rintro e w3 ⟨rfl, rfl⟩
          rcases hany : ((r.drop (4 + nn)).take m).any (fun c => c != 0)
          case true =>
            have hg1 : w2.cell? _ = _ := (HB2.out.cell (World.block_lt_of_cell? w _ HG1.out)).trans HG1.out
            go_wp2_with fail
            go_quiet (fail)
            go_wp2_with fail
            go_ret2
            exact partsR_err (parts_err HBN.out (HBAD.out hany)) rfl (HB2.out.trans (below_drewN _))
          case false =>
            have HNY := Lib.hid hany
            clear hany
            have HPG := Lib.hid (HGO.out HNY.out (by omega))
            have e1 : ((k1 : Int) == (m : Int)) = false := by simp; omega
            by_cases hm0 : 0 < m
            · have e2 : decide ((0 : Int) < (m : Int)) = true := decide_eq_true (by omega)
              go_wp2_with fail
              have hq := HQ.out
              have hd2 := HD2.out
              rw [if_neg (by omega)] at hd2
              refine ⟨⟨_, _, _, _, _, rfl, by omega, hd2, HO2.out, ?_, HPG.out, HB2.out⟩, ?_⟩
              · simp only [List.length_append, List.length_cons, List.length_nil]; omega
              · show k1 - m < k; omega
            · have e2 : decide ((0 : Int) < (m : Int)) = false := decide_eq_false (by omega)
              obtain rfl : m = 0 := by omega
              go_wp2_with fail
              have hq := HQ.out
              refine ⟨⟨_, _, _, _, _, rfl, by omega, HD1.out, HO2.out, ?_, HPG.out, HB2.out⟩, ?_⟩
              · simp only [List.length_append, List.length_cons, List.length_nil]; omega
              · show k1 < k; omega
        · skip
          go_wp2_with fail
          refine HANY.out.mono ?_
          rintro e w3 ⟨rfl, rfl⟩
          rcases hany : ((r.drop (4 + nn)).take m).any (fun c => c != 0)
          case true =>
            have hg1 : w2.cell? _ = _ := (HB2.out.cell (World.block_lt_of_cell? w _ HG1.out)).trans HG1.out
            go_wp2_with fail
            go_quiet (fail)
            go_wp2_with fail
            go_ret2
            exact partsR_err (parts_err HBN.out (HBAD.out hany)) rfl (HB2.out.trans (below_drewN _))
          case false =>
            have HNY := Lib.hid hany
            clear hany
            by_cases hm0 : 0 < m
            · have HPE := Lib.hid (by first | exact HEND.out HNY.out hm0 rfl | exact HEND.out HNY.out hm0 trivial : ptsP b = .error 0)
              have e2 : decide ((0 : Int) < (m : Int)) = true := decide_eq_true (by omega)
              have hg0 : w2.cell? _ = _ := (HB2.out.cell (World.block_lt_of_cell? w _ HG0.out)).trans HG0.out
              go_wp2_with fail
              go_quiet (fail)
              go_wp2_with fail
              go_ret2
              exact partsR_err (parts_err HBN.out HPE.out) rfl (HB2.out.trans (below_drewN _))
            · have HPG := Lib.hid (HGO.out HNY.out (by omega))
              have e2 : decide ((0 : Int) < (m : Int)) = false := decide_eq_false (by omega)
              obtain rfl : m = 0 := by omega
              go_wp2_with fail
              have hq := HQ.out
              refine ⟨⟨_, _, _, _, _, rfl, by omega, HD1.out, HO2.out, ?_, HPG.out, HB2.out⟩, ?_⟩
              · simp only [List.length_append, List.length_cons, List.length_nil]; omega
              · show _ < k; omega
end Go.Proofs.YtplcdjdmkmdddaaDoor
