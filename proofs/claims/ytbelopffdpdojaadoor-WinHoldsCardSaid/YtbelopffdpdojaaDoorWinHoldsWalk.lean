/-
  WinHolds: the walk.
-/
import Derived.Test.YtbelopffdpdojaaDoorWinHoldsPlain
import Derived.Test.YtbelopffdpdojaaDoorDo15
import Derived.Deep.CutBlock
import Derived.Deep.CutRange
import Derived.BigQuiet
namespace Go.Proofs.YtbelopffdpdojaaDoor
open Go.ChangeShapes Go.WideShapes Go.ChangeAt Go.RowKit
set_option linter.unusedVariables false

/-- what a round keeps -/
structure WI (w0 w : World) (B Z : Nat) (A : Option Addr) (C st d : Nat) (ds : List Nat) : Prop where
  wn : Wn w w0.heap.size B A C (WH Z st d ds)
  inv : HInv Z st d ds
  bel : Below w0.heap.size w0 w

set_option maxHeartbeats 4000000 in
set_option maxRecDepth 100000 in
theorem winHolds_walk (w : World) {E : Nat → Addr} (hE : Errs [2, 6] w E) (start : Int) (hs : (Lit.int .i64 start).wf = true) (size : Int) (hz : (Lit.int .i64 size).wf = true) (a : Option Addr) (len cap : Nat) (F : Nat → DoR) (hd : Dos w a len F) :
    Calls Tryd.prog 4 #[.int .i64 start, .int .i64 size, .slice a len cap] w fun e w' => e = .returned (.bool true) ∧ Below w.heap.size w w' := by
  obtain ⟨s0, s1⟩ := bounds_i64 hs
  obtain ⟨z0, z1⟩ := bounds_i64 hz
  obtain ⟨S, hS, eS'⟩ := number_nat start 4096 (by omega)
  obtain ⟨Y, hY, eY'⟩ := number_nat size 64 (by omega)
  have eS : start % 4096 = (S : Int) := eS'
  have eY : size % 64 = (Y : Int) := eY'
  clear hs hz eS' eY'
  have HE := Lib.hid hE
  have HDo := Lib.hid hd
  clear hE hd
  go_enter Tryd.func4, Tryd.ntmps4
  go_wp2_with fail
  refine (wfirst_any _).mono ?_
  rintro e w1 ⟨rfl, b1⟩
  have z1' := b1.size
  go_wp2_with fail
  refine (number_any start 4096 _ (by omega) (by omega) s0 s1).mono ?_
  rintro e w2 ⟨rfl, rfl⟩
  rw [eS]
  go_wp2_with fail
  refine (number_any size 64 _ (by omega) (by omega) z0 z1).mono ?_
  rintro e w2 ⟨rfl, rfl⟩
  rw [eY]
  clear eS eY
  by_cases hlen : len > 200
  · go_wp2_with fail
    go_ret
    exact ⟨rfl, b1⟩
  go_wp2_with fail
  refine (new_ok (S : Int) ((Y : Int) + 1) w1 (by omega) (by omega) (by omega) (by omega)).mono ?_
  rintro e w2 ⟨rfl, h2, b2⟩
  have h2' : WI w w2 w1.heap.size (Y + 1) none 0 S 0 [] := by
    have e : WH (Y + 1) S 0 [] = ⟨(S : Int), (S : Int), (Y : Int) + 1, []⟩ := by
      have e1 : atD S 0 = (S : Int) := by unfold atD; omega
      simp only [WH, e1, List.map_nil]
      rfl
    refine ⟨?_, hinv_start _ _ hS (by omega), b1.trans (b2.mono z1')⟩
    rw [e]
    exact ⟨h2.blk, h2.own.base_le z1'⟩
  have HS2 := Lib.hid h2'
  clear h2 h2' b2 b1
  go_wp2_with fail
  go_loopw [10] (fun i wr => ∃ k : Nat, k ≤ len ∧ i = .int .i64 k ∧ ∃ A C st d ds, WI w wr w1.heap.size (Y + 1) A C st d ds) (fun i _ => len - (intOf i).toNat)
  case atStart => exact ⟨0, Nat.zero_le _, rfl, none, 0, S, 0, [], HS2.out⟩
  case round =>
    obtain ⟨k, hk, rfl, A, C, st, d, ds, hS3⟩ := hrel
    have HS3 := Lib.hid hS3
    have z3 := hS3.bel.size
    clear hS3 HS2
    by_cases hlt : k < len
    · obtain ⟨b1, off1, rfl, hb1, hc1, hok⟩ := HDo.out k hlt
      obtain ⟨x, hx⟩ : ∃ x, F k = x := ⟨_, rfl⟩
      rw [hx] at hc1 hok
      clear hx
      have g0' : w.cell? ⟨b1, off1 + k * 2, none⟩ = some (.int .i64 (x 0)) := hc1 0 _ rfl
      have g1' : w.cell? ⟨b1, off1 + k * 2 + 1, none⟩ = some (.int .i64 (x 1)) := hc1 1 _ rfl
      have hok1 := hok 1 (by omega)
      have hdl := HS3.out.inv.len
      have hdz := HS3.out.inv.dz
      have hOL : (WH (Y + 1) st d ds).o.length = ds.length := by simp [WH]
      have HOL := Lib.hid hOL
      have RM := Lib.hid (WH_room HS3.out.inv)
      clear hc1 hok hOL
      go_wp2_with fail
      refine (out_any HS3.out.wn (by rw [HOL.out]; omega)).mono ?_
      rintro e w3 ⟨A3, C3, rfl, hown3, hb3⟩
      rw [HOL.out]
      have HB3 := Lib.hid (HS3.out.bel.trans (hb3.mono z3))
      have HW3 := Lib.hid (HS3.out.wn.below hb3 (Nat.le_refl _))
      have z4 := HB3.out.size
      have g0 : w3.cell? ⟨b1, off1 + k * 2, none⟩ = some (.int .i64 (x 0)) := (HB3.out.cell (p := ⟨b1, off1 + k * 2, none⟩) hb1).trans g0'
      have g1 : w3.cell? ⟨b1, off1 + k * 2 + 1, none⟩ = some (.int .i64 (x 1)) := (HB3.out.cell (p := ⟨b1, off1 + k * 2 + 1, none⟩) hb1).trans g1'
      have HO3 := Lib.hid hown3
      clear hb3 hown3 g0' g1'
      go_upto_if 50 with fail
      go_cut [11] from 37 to 146 (fun v wx => ∃ A C st d ds, WI w wx w1.heap.size (Y + 1) A C st d ds)
      case first =>
        by_cases hk1 : x 0 = 1
        · by_cases hroom : d < Y + 1
          · go_wp2_with fail
            refine (next_yes HW3.out (by show (0 : Int) ≤ ((Y + 1 : Nat) : Int); omega) (by show ((Y + 1 : Nat) : Int) ≤ 1000000; omega) (by rw [RM.out]; omega) (by rw [HOL.out]; omega) z4).mono ?_
            rintro e w4 ⟨rfl, A4, C4, h4, t4, _⟩
            obtain ⟨n1, n2⟩ := WH_next HS3.out.inv hroom
            rw [n1] at h4
            have fin : WI w w4 w1.heap.size (Y + 1) A4 C4 st (d + 1) (ds ++ [d]) := ⟨h4, n2, HB3.out.trans (HW3.out.belowT z1' t4)⟩
            have FIN := Lib.hid fin
            clear fin h4 t4 n1 n2
            go_wp2_with fail
            go_meet
            case rel => exact ⟨_, _, _, _, _, FIN.out⟩
          · go_wp2_with fail
            refine (next_no HW3.out (by show (0 : Int) ≤ ((Y + 1 : Nat) : Int); omega) (by show ((Y + 1 : Nat) : Int) ≤ 1000000; omega) (by rw [RM.out]; omega)).mono ?_
            rintro e w4 ⟨rfl, nq, rfl⟩
            have FIN := Lib.hid (show WI w (w3.drewN nq) w1.heap.size (Y + 1) A C st d ds from ⟨HW3.out.drewN nq, HS3.out.inv, HB3.out.trans (below_drewN nq)⟩)
            go_wp2_with fail
            go_meet
            case rel => exact ⟨_, _, _, _, _, FIN.out⟩
        · by_cases hnil : ds.length = 0
          · rw [hnil]
            have FIN := Lib.hid (show WI w w3 w1.heap.size (Y + 1) A C st d ds from ⟨HW3.out, HS3.out.inv, HB3.out⟩)
            clear hnil
            go_wp2_with fail
            go_meet
            case rel => exact ⟨_, _, _, _, _, FIN.out⟩
          · have hpos : 0 < ds.length := by omega
            obtain ⟨j, hj, ej⟩ := number_nat (x 1) ds.length hpos
            obtain ⟨y, hy⟩ : ∃ y, ds[j]? = some y := ⟨_, List.getElem?_eq_getElem hj⟩
            obtain ⟨f1, f2⟩ := WH_first HS3.out.inv hy
            have hln : ds.length ≤ 64 := by omega
            obtain ⟨g, rfl, _, _, hC3, hcell3, _, _⟩ := (show OwnI w3 w.heap.size A3 ds.length C3 (WH (Y + 1) st d ds).o by have := HO3.out; rw [HOL.out] at this; exact this.base_le z3).open_ hpos
            have cj : w3.cell? ⟨g, j, none⟩ = some (.int .i64 (atD st y)) := hcell3 j _ f1
            have F1 := Lib.hid f1
            have F2 := Lib.hid f2
            clear f1 f2 hy hcell3 hnil
            go_wp2_with fail
            refine (number_any (x 1) (ds.length : Int) _ (by omega) (by omega) hok1.1 hok1.2).mono ?_
            rintro e w4 ⟨rfl, rfl⟩
            rw [ej]
            clear ej
            go_wp2_with fail
            refine (done_yes HW3.out (atD st y) j F1.out F2.out (by rw [HOL.out]; omega) z4).mono ?_
            rintro e w4 ⟨rfl, A4, C4, h4, t4, _⟩
            obtain ⟨st', d', ds', n1, n2⟩ := WH_done HS3.out.inv j
            rw [n1] at h4
            have FIN := Lib.hid (show WI w w4 w1.heap.size (Y + 1) A4 C4 st' d' ds' from ⟨h4, n2, HB3.out.trans (HW3.out.belowT z1' t4)⟩)
            clear h4 t4 n1 n2
            go_wp2_with fail
            go_meet
            case rel => exact ⟨_, _, _, _, _, FIN.out⟩
      case rest =>
        obtain ⟨A4, C4, st4, d4, ds4, hP⟩ := hcut
        have HP := Lib.hid hP
        clear hP HS3 HW3 HO3 HB3 RM HOL z3 z4 g0 g1 hdl hdz
        have hlen4 : (WH (Y + 1) st4 d4 ds4).o.length = ds4.length := by simp [WH]
        have HL4 := Lib.hid hlen4
        have hdl := HP.out.inv.len
        have hdz := HP.out.inv.dz
        have hst := HP.out.inv.lt
        have zc := HP.out.bel.size
        clear hlen4
        go_wp2_with fail
        refine (out_any HP.out.wn (by rw [HL4.out]; omega)).mono ?_
        rintro e w4 ⟨A5, C5, rfl, hown, hb4⟩
        rw [HL4.out]
        rw [HL4.out] at hown
        have HW4 := Lib.hid (HP.out.wn.below hb4 (Nat.le_refl _))
        have HB4 := Lib.hid (HP.out.bel.trans (hb4.mono zc))
        have HO4 := Lib.hid hown
        have HI4 := Lib.hid HP.out.inv
        have z4 := HB4.out.size
        obtain ⟨n, hn⟩ : ∃ n, ds4.length = n := ⟨_, rfl⟩
        rw [hn] at hown hdl ⊢
        have HN := Lib.hid hn
        have dg1 : decide ((Y : Int) + 1 < (n : Int)) = false := decide_eq_false (by omega)
        have dg4 : decide ((Y : Int) + 1 < (d4 : Int)) = false := decide_eq_false (by omega)
        clear hb4 hn
        rcases Nat.eq_zero_or_pos n with hn0 | hn0
        · subst hn0
          have hnil : ds4 = [] := List.eq_nil_of_length_eq_zero HN.out
          have hd0 : d4 = 0 := HI4.out.nil hnil
          subst hd0
          have e0 : atD st4 0 = (st4 : Int) := by unfold atD; omega
          have cS := Lib.hid (show ∀ n, Calls Tryd.prog 14 #[.pointer (some ⟨w1.heap.size, 0, none⟩)] (w4.drewN n) fun e w'' => e = .returned (.int .i64 (st4 : Int)) ∧ ∃ m, w'' = w4.drewN m from fun n => quiet_same (start_any (HW4.out.drewN n)))
          have cA := Lib.hid (show ∀ n, Calls Tryd.prog 12 #[.pointer (some ⟨w1.heap.size, 0, none⟩)] (w4.drewN n) fun e w'' => e = .returned (.int .i64 (st4 : Int)) ∧ ∃ m, w'' = w4.drewN m from fun n => quiet_same (by have := ahead_any (HW4.out.drewN n); rw [show (WH (Y + 1) st4 0 ds4).nx = (st4 : Int) from e0] at this; exact this))
          have cD := Lib.hid (show ∀ n, Calls Tryd.prog 15 #[.int .i64 (st4 : Int), .int .i64 (st4 : Int)] (w4.drewN n) fun e w'' => e = .returned (.int .i64 0) ∧ ∃ m, w'' = w4.drewN m from fun n => quiet_same (by have := rdist_any (st4 : Int) (st4 : Int) (w4.drewN n); rw [show ((st4 : Int) - (st4 : Int)) % 4096 = 0 by omega] at this; exact this))
          have cD2 := cD
          have cI := cD
          have dz1 : decide ((Y : Int) + 1 < 0) = false := decide_eq_false (by omega)
          have dz2 : decide ((0 : Int) < 0) = false := rfl
          have dz3 : ((0 : Int) == 0) = true := rfl
          clear hnil e0 hown dg1 dg4
          go_wp2_with fail
          go_quiet ((first
            | (go_at_call 14; (with_reducible exact cS.out _))
            | (go_at_call 12; (with_reducible exact cA.out _))
            | (go_at_call 16; (with_reducible exact cI.out _))
            | (go_at_call 15; first | (with_reducible exact cD.out _) | (with_reducible exact cD2.out _))))
          go_wp2_with fail
          go_loopw [12] (fun q wq => q = .int .i64 0 ∧ Below w4.heap.size w4 wq) (fun _ _ => 0)
          case atStart => exact ⟨rfl, below_drewN _⟩
          case round =>
            obtain ⟨rfl, hbw⟩ := hrel
            have FIN := Lib.hid (show WI w wr w1.heap.size (Y + 1) A4 C4 st4 0 ds4 from ⟨HW4.out.below hbw (Nat.le_refl _), HI4.out, HB4.out.trans (hbw.mono z4)⟩)
            clear hbw
            go_wp2_with fail
            go_roundw
            case rel => first | exact ⟨k + 1, by omega, by go_num, _, _, _, _, _, FIN.out⟩ | ((repeat apply Exists.intro); exact ⟨⟨k + 1, by omega, by go_num, _, _, _, _, _, FIN.out⟩, rfl⟩)
            case measure => simp [intOf]; omega
        · obtain ⟨g, rfl, hg1, hg2, hC5, hcell5, _, _⟩ := hown.open_ hn0
          have hz0 : ds4[0]? = some 0 := HI4.out.zero (by intro e; have := HN.out; rw [e] at this; simp at this; omega)
          have e0 : atD st4 0 = (st4 : Int) := by unfold atD; omega
          have c0 : w4.cell? ⟨g, 0, none⟩ = some (.int .i64 (st4 : Int)) := by
            have := hcell5 0 (atD st4 0) (by show (ds4.map (atD st4))[0]? = _; rw [List.getElem?_map, hz0]; rfl)
            rwa [e0] at this
          have HC := Lib.hid hcell5
          have dg2 : decide ((0 : Int) < (n : Int)) = true := decide_eq_true (by omega)
          have dg3 : ((n : Int) == 0) = false := by simp; omega
          have eD : (atD st4 d4 - (st4 : Int)) % 4096 = (d4 : Int) := by unfold atD; omega
          have cS := Lib.hid (show ∀ n, Calls Tryd.prog 14 #[.pointer (some ⟨w1.heap.size, 0, none⟩)] (w4.drewN n) fun e w'' => e = .returned (.int .i64 (st4 : Int)) ∧ ∃ m, w'' = w4.drewN m from fun n => quiet_same (start_any (HW4.out.drewN n)))
          have cA := Lib.hid (show ∀ n, Calls Tryd.prog 12 #[.pointer (some ⟨w1.heap.size, 0, none⟩)] (w4.drewN n) fun e w'' => e = .returned (.int .i64 (atD st4 d4)) ∧ ∃ m, w'' = w4.drewN m from fun n => quiet_same (ahead_any (HW4.out.drewN n)))
          have cD := Lib.hid (show ∀ n, Calls Tryd.prog 15 #[.int .i64 (st4 : Int), .int .i64 (atD st4 d4)] (w4.drewN n) fun e w'' => e = .returned (.int .i64 (d4 : Int)) ∧ ∃ m, w'' = w4.drewN m from fun n => quiet_same (by have := rdist_any (st4 : Int) (atD st4 d4) (w4.drewN n); rw [eD] at this; exact this))
          have cD2 := cD
          have cI := cD
          clear hz0 e0 hcell5 hown eD
          go_wp2_with fail
          go_quiet ((first
            | (go_at_call 14; (with_reducible exact cS.out _))
            | (go_at_call 12; (with_reducible exact cA.out _))
            | (go_at_call 16; (with_reducible exact cI.out _))
            | (go_at_call 15; first | (with_reducible exact cD.out _) | (with_reducible exact cD2.out _))))
          clear cS cA cD cD2 cI c0
          go_wp2_with fail
          go_loopw [12] (fun q wq => ∃ m : Nat, m ≤ n ∧ q = .int .i64 (m : Int) ∧ Hid (Below w4.heap.size w4 wq)) (fun q _ => n - (intOf q).toNat)
          case atStart => exact ⟨0, by omega, rfl, Lib.hid (below_drewN _)⟩
          case round =>
            obtain ⟨m, hm, rfl, HBW⟩ := hrel
            have HWr := Lib.hid (HW4.out.below HBW.out (Nat.le_refl _))
            have HBr := Lib.hid (HB4.out.trans (HBW.out.mono z4))
            by_cases hmn : m < n
            · obtain ⟨a, ha⟩ : ∃ a, ds4[m]? = some a := ⟨_, List.getElem?_eq_getElem (by rw [HN.out]; exact hmn)⟩
              have had := HI4.out.below a (List.mem_of_getElem? ha)
              have ca : wr.cell? ⟨g, m, none⟩ = some (.int .i64 (atD st4 a)) := (HBW.out.cell (p := ⟨g, m, none⟩) hg2).trans (HC.out m (atD st4 a) (by show (ds4.map (atD st4))[m]? = _; rw [List.getElem?_map, ha]; rfl))
              have eA : (atD st4 a - (st4 : Int)) % 4096 = (a : Int) := by unfold atD; omega
              have eI : decide ((atD st4 a - (st4 : Int)) % 4096 < (Y : Int) + 1) = true := by rw [eA]; simp; omega
              have cS := Lib.hid (show ∀ n, Calls Tryd.prog 14 #[.pointer (some ⟨w1.heap.size, 0, none⟩)] (wr.drewN n) fun e w'' => e = .returned (.int .i64 (st4 : Int)) ∧ ∃ m, w'' = wr.drewN m from fun n => quiet_same (start_any (HWr.out.drewN n)))
              have cI := Lib.hid (show ∀ n, Calls Tryd.prog 16 #[.int .i64 (st4 : Int), .int .i64 ((Y : Int) + 1), .int .i64 (atD st4 a)] (wr.drewN n) fun e w'' => e = .returned (.bool true) ∧ ∃ m, w'' = wr.drewN m from fun n => quiet_same (by have := rin_any (st4 : Int) ((Y : Int) + 1) (atD st4 a) (wr.drewN n); rw [eI] at this; exact this))
              have cD := Lib.hid (show ∀ n, Calls Tryd.prog 15 #[.int .i64 (st4 : Int), .int .i64 (atD st4 a)] (wr.drewN n) fun e w'' => e = .returned (.int .i64 (a : Int)) ∧ ∃ m, w'' = wr.drewN m from fun n => quiet_same (by have := rdist_any (st4 : Int) (atD st4 a) (wr.drewN n); rw [eA] at this; exact this))
              have cA := cS
              rcases Nat.eq_zero_or_pos m with hm0 | hm0
              · subst hm0
                have cD2 := cD
                clear ha eI eA
                go_wp2_with fail
                go_quiet ((first
                  | (go_at_call 14; (with_reducible exact cS.out _))
                  | (go_at_call 12; (with_reducible exact cA.out _))
                  | (go_at_call 16; (with_reducible exact cI.out _))
                  | (go_at_call 15; first | (with_reducible exact cD.out _) | (with_reducible exact cD2.out _))))
                go_wp2_with fail
                go_roundw
                case rel => first | exact ⟨1, by omega, rfl, Lib.hid (HBW.out.trans (below_drewN _))⟩ | ((repeat apply Exists.intro); exact ⟨⟨1, by omega, rfl, Lib.hid (HBW.out.trans (below_drewN _))⟩, rfl⟩)
                case measure => simp [intOf]; omega
              · obtain ⟨q, rfl⟩ : ∃ q, m = q + 1 := ⟨m - 1, by omega⟩
                obtain ⟨b, hb⟩ : ∃ b, ds4[q]? = some b := ⟨_, List.getElem?_eq_getElem (by rw [HN.out]; omega)⟩
                have hab := HI4.out.get (by omega : q < q + 1) hb ha
                have cb : wr.cell? ⟨g, q, none⟩ = some (.int .i64 (atD st4 b)) := (HBW.out.cell (p := ⟨g, q, none⟩) hg2).trans (HC.out q (atD st4 b) (by show (ds4.map (atD st4))[q]? = _; rw [List.getElem?_map, hb]; rfl))
                have eB : (atD st4 b - (st4 : Int)) % 4096 = (b : Int) := by unfold atD; omega
                have cD2 := Lib.hid (show ∀ n, Calls Tryd.prog 15 #[.int .i64 (st4 : Int), .int .i64 (atD st4 b)] (wr.drewN n) fun e w'' => e = .returned (.int .i64 (b : Int)) ∧ ∃ m, w'' = wr.drewN m from fun n => quiet_same (by have := rdist_any (st4 : Int) (atD st4 b) (wr.drewN n); rw [eB] at this; exact this))
                have dle : decide ((a : Int) ≤ (b : Int)) = false := decide_eq_false (by omega)
                have dk : decide ((0 : Int) < ((q + 1 : Nat) : Int)) = true := decide_eq_true (by omega)
                have dk2 : decide ((0 : Int) < (q : Int) + 1) = true := decide_eq_true (by omega)
                clear ha hb eI eA eB
                go_wp2_with fail
                go_quiet ((first
                  | (go_at_call 14; (with_reducible exact cS.out _))
                  | (go_at_call 12; (with_reducible exact cA.out _))
                  | (go_at_call 16; (with_reducible exact cI.out _))
                  | (go_at_call 15; first | (with_reducible exact cD.out _) | (with_reducible exact cD2.out _))))
                go_wp2_with fail
                go_roundw
                case rel => first | exact ⟨q + 1 + 1, by omega, by go_num, Lib.hid (HBW.out.trans (below_drewN _))⟩ | ((repeat apply Exists.intro); exact ⟨⟨q + 1 + 1, by omega, by go_num, Lib.hid (HBW.out.trans (below_drewN _))⟩, rfl⟩)
                case measure => simp [intOf]; omega
            · have FIN := Lib.hid (show WI w wr w1.heap.size (Y + 1) A4 C4 st4 d4 ds4 from ⟨HWr.out, HI4.out, HBr.out⟩)
              go_wp2_with fail
              go_roundw
              case rel => first | exact ⟨k + 1, by omega, by go_num, _, _, _, _, _, FIN.out⟩ | ((repeat apply Exists.intro); exact ⟨⟨k + 1, by omega, by go_num, _, _, _, _, _, FIN.out⟩, rfl⟩)
              case measure => simp [intOf]; omega
    · go_wp2_with fail
      go_ret
      exact ⟨rfl, HS3.out.bel⟩
end Go.Proofs.YtbelopffdpdojaaDoor
