/-
  BaOnce: the walk, with a session.
-/
import Derived.Test.YthjjneanabnjoaaDoorBaOnceGame
import Derived.Test.YthjjneanabnjoaaDoorDo16
import Derived.Test.YthjjneanabnjoaaDoorSee
import Derived.Test.YthjjneanabnjoaaDoorNumber
import Derived.Deep.CutBlock
import Derived.Deep.CutRange
import Derived.Deep.RegionHeld3
import Derived.BigQuiet
namespace Go.Proofs.YthjjneanabnjoaaDoor
open Go.ChangeShapes Go.WideShapes Go.ChangeAt Go.RowKit
set_option linter.unusedVariables false

set_option maxRecDepth 100000 in
set_option maxHeartbeats 12800000 in
theorem baOnce_on (w : World) {E : Nat → Addr} (hE : Errs [2, 6, 8, 9, 10] w E) (a0 : Int) (w0 : (Lit.int .i64 a0).wf = true) (a1 : Int) (w1 : (Lit.int .i64 a1).wf = true) (dA : Option Addr) (n dC : Nat) (F : Nat → DoR) (hD : Dos w dA n F) :
    Calls Tryd.prog 8 #[.int .i64 a0, .int .i64 a1, .bool true, .slice dA n dC] w fun e w' => e = .returned (.bool true) ∧ Below w.heap.size w w' := by
  obtain ⟨x0, x1⟩ := bounds_i64 w0
  obtain ⟨y0, y1⟩ := bounds_i64 w1
  have NZ := Lib.hid (fun w => number_any a0 64 w (by decide) (by decide) x0 x1)
  have NR := Lib.hid (fun w => number_any a1 5 w (by decide) (by decide) y0 y1)
  obtain ⟨z0, hz0, ez⟩ := number_nat a0 64 (by decide)
  rw [show a0 % 64 = (z0 : Int) from ez] at NZ
  obtain ⟨R, hR, eR⟩ := number_nat a1 5 (by decide)
  rw [show a1 % 5 = (R : Int) from eR] at NR
  clear w0 w1 x0 x1 y0 y1 ez eR
  have HE := Lib.hid hE
  have HDS := Lib.hid hD
  clear hE hD
  go_enter Tryd.func8, Tryd.ntmps8
  go_wp2_with fail
  refine (bfirst_any w).mono ?_
  rintro e w1 ⟨rfl, hb1⟩
  have HB1 := Lib.hid hb1
  have z1 := hb1.size
  clear hb1
  go_wp2_with fail
  refine (NZ.out w1).mono ?_
  rintro e wq ⟨rfl, rfl⟩
  obtain ⟨Z, hZ⟩ : ∃ Z, z0 + 1 = Z := ⟨_, rfl⟩
  have q1 : IntKind.i64.wrap ((z0 : Int) + 1) = (Z : Int) := by rw [← hZ, IntWalk.i64_in _ (by omega)]; omega
  have hZ1 : 1 ≤ Z := by omega
  have hZ2 : Z ≤ 64 := by omega
  clear hZ hz0
  go_wp2_with fail
  refine (NR.out w1).mono ?_
  rintro e wq ⟨rfl, rfl⟩
  clear NR NZ
  by_cases hn : n ≤ 120
  case neg =>
    have gn : decide (120 < (n : Int)) = true := decide_eq_true (by omega)
    go_wp2_with fail
    go_ret
    exact ⟨rfl, HB1.out⟩
  case pos =>
    have gn : decide (120 < (n : Int)) = false := decide_eq_false (by omega)
    go_wp2_with fail
    refine (bnew_ok (Z : Int) (R : Int) 1000 w1 (by omega) (by omega) (by omega) (by omega) (by decide) (by decide)).mono ?_
    rintro e w2 hnew
    obtain ⟨B, p, rfl, hS2, hb2⟩ := ss_new hnew
    have HS2 := Lib.hid hS2
    have HB2 := Lib.hid (HB1.out.trans (hb2.mono z1))
    clear hS2 hb2 hnew HB1 q1
    go_wp2_with fail
    refine (ask_ok HS2.out.bs 0 (by decide) (by decide) rfl rfl).mono ?_
    rintro e w3 ⟨rfl, hs3⟩
    obtain ⟨p3, hS3, hb3, -, -⟩ := HS2.out.step hs3
    have HS3 := Lib.hid hS3
    have HB3 := Lib.hid (HB2.out.trans (hb3.mono z1))
    have HE3 := Lib.hid (HE.out.below HB3.out (Nat.le_refl _))
    clear hS3 hb3 hs3 HS2 HB2
    have HANS := Lib.hid (answer_on HS3.out.bs (HE3.out.sub (by decide)) 0 rfl (by decide) (by decide) (by show (1 : Int) ≤ (Z : Int); omega) (by show (Z : Int) ≤ 64; omega) rfl)
    go_wp2_with fail
    refine HANS.out.mono ?_
    rintro e w4 ⟨rfl, hs4⟩
    obtain ⟨p4, hS4, hb4, -, -⟩ := HS3.out.step hs4
    have HS6 := Lib.hid hS4
    have HB6 := Lib.hid (HB3.out.trans (hb4.mono z1))
    have HO6 := Lib.hid (oi_on Z R hZ2)
    clear hS4 hb4 hs4 HS3 HB3 HE3 HANS
    have HL6 := Lib.hid (show (onS (askS (newS (Z : Int) (R : Int) 1000) 0) 0).l.length + 0 = 0 from rfl)
    generalize onS (askS (newS (Z : Int) (R : Int) 1000) 0) 0 = s0 at *
    have z6 := HB6.out.size
    obtain ⟨wa, hwa⟩ : ∃ wa, wa = w4.alloc (.cells #[.int .i64 0] 3) := ⟨_, rfl⟩
    have ha1 : wa.heap.size = w4.heap.size + 1 := by rw [hwa]; simp
    have qn : IntKind.i64.wrap ((n : Int) + 2) = (n : Int) + 2 := IntWalk.i64_in _ (by omega)
    have HKN := Lib.hid (show Blk wa w4.heap.size #[.int .i64 0] 3 by rw [hwa]; exact Blk.new w4 _ _)
    have HSA := Lib.hid (show Ss wa w1.heap.size B p4 s0 by rw [hwa]; exact HS6.out.alloc _)
    have HBA := Lib.hid (show Below w.heap.size w wa by rw [hwa]; exact HB6.out.alloc z6 _)
    go_wp2_with (at_make; (try rw [← hwa]); refine make_bool_full _ rfl _ _ rfl .i64 .i64 ((n : Int) + 2) ((n : Int) + 2) (n + 2) rfl rfl (by simp) (by simp) (by omega) ?_; intro w5 hown5 hg5)
    have hsz := HS6.out.bas
    have hb5 := (Below.refl wa.heap.size wa).grown hg5 (Nat.le_refl _) (fun k hk => by cases hk)
    have hz5 := hb5.size
    have hown6 : OwnB w5 w1.heap.size (some ⟨w4.heap.size + 1, 0, none⟩) (n + 2) (n + 2) ((List.range (n + 2)).map fun _ => false) := by rw [← ha1]; exact hown5.base_le (by omega)
    obtain ⟨wb, hwb⟩ : ∃ wb, wb = (w5.alloc (.cells #[.slice (some ⟨w4.heap.size + 1, 0, none⟩) (n + 2) (n + 2)] 68)).alloc (.cells #[.int .i64 0] 3) := ⟨_, rfl⟩
    rw [← hwb]
    have HG : Hid (Gm wb w1.heap.size B w4.heap.size w5.heap.size (w5.heap.size + 1) (w4.heap.size + 1) (n + 2) p4 s0 0 0 (fun _ => false)) := Lib.hid (by
      rw [hwb]
      refine ⟨(((HSA.out.below hb5 (Nat.le_refl _)).alloc _).alloc _), ⟨((HKN.out.below hb5 HKN.out.lt).alloc _).alloc _, (Blk.new w5 _ _).alloc _, ?_, (hown6.alloc _).alloc _, by omega⟩, ?_, by omega, by omega, by omega⟩
      · have h := Blk.new (w5.alloc (.cells #[.slice (some ⟨w4.heap.size + 1, 0, none⟩) (n + 2) (n + 2)] 68)) #[.int .i64 0] 3
        rw [show (w5.alloc (.cells #[.slice (some ⟨w4.heap.size + 1, 0, none⟩) (n + 2) (n + 2)] 68)).heap.size = w5.heap.size + 1 by simp] at h
        exact h
      · intro k hk hx
        have := (HS6.out.ge k hx).2
        rcases hk with rfl | rfl | rfl | rfl <;> omega)
    have hbw5 := HBA.out.trans (hb5.mono HBA.out.size)
    have HBB : Hid (Below w.heap.size w wb) := Lib.hid (by rw [hwb]; exact (hbw5.alloc hbw5.size _).alloc (by have := hbw5.size; simp; omega) _)
    clear hwb hbw5 hown5 hown6 hg5 hb5 hz5 HSA HKN HBA HS6 HB6 hsz qn ha1 hwa z6 wa
    generalize w4.heap.size + 1 = gg at HG ⊢
    generalize w4.heap.size = bn at HG ⊢
    generalize w5.heap.size + 1 = bo at HG ⊢
    generalize w5.heap.size = bg at HG ⊢
    clear gn
    go_loopw [17, 19] (fun tv iv wr => ∃ (i : Nat) (now : Int) (p : BP) (s : BS) (nn over : Nat) (fl : Nat → Bool), i ≤ n ∧ iv = .int .i64 i ∧ tv = .int .i64 now ∧ 0 ≤ now ∧ now ≤ 300 * (i : Int) ∧ nn ≤ i ∧ s.l.length + over = nn ∧ Gm wr w1.heap.size B bn bg bo gg (n + 2) p s nn over fl ∧ OI Z R nn fl s ∧ Below w.heap.size w wr) (fun _ iv _ => n - (intOf iv).toNat)
    case atStart => exact ⟨0, 0, _, _, 0, 0, _, Nat.zero_le _, rfl, rfl, by omega, by omega, by omega, HL6.out, HG.out, HO6.out, HBB.out⟩
    case round =>
      obtain ⟨i, now, p5, s, nn, over, fl, hi, rfl, rfl, hw0, hw1, hnn, hlo, hG, hO, hB⟩ := hrel
      have HH := Lib.hid (And.intro hG (And.intro hO hB))
      have HLO := Lib.hid (And.intro hlo (And.intro hw0 (And.intro hw1 hnn)))
      clear hG hO hB hw0 hw1 hnn hlo HG HO6 HBB HL6
      by_cases hin : i < n
      case neg =>
        obtain rfl : i = n := by omega
        go_wp2_with fail
        go_ret
        exact ⟨rfl, HH.out.2.2⟩
      case pos =>
        obtain ⟨b1, off1, hdA, hb1, hc1, hok⟩ := HDS.out i hin
        subst hdA
        obtain ⟨x, hx⟩ : ∃ x, F i = x := ⟨_, rfl⟩
        rw [hx] at hc1 hok
        have HOK := Lib.hid hok
        clear hx hok
        have g0 : wr.cell? ⟨b1, off1 + i * 5, none⟩ = some (.int .i64 (x 0)) := (HH.out.2.2.cell (p := ⟨b1, off1 + i * 5, none⟩) hb1).trans (hc1 0 _ rfl)
        have g1 : wr.cell? ⟨b1, off1 + i * 5 + 1, none⟩ = some (.int .i64 (x 1)) := (HH.out.2.2.cell (p := ⟨b1, off1 + i * 5 + 1, none⟩) hb1).trans (hc1 1 _ rfl)
        have g2 : wr.cell? ⟨b1, off1 + i * 5 + 2, none⟩ = some (.int .i64 (x 2)) := (HH.out.2.2.cell (p := ⟨b1, off1 + i * 5 + 2, none⟩) hb1).trans (hc1 2 _ rfl)
        have g3 : wr.cell? ⟨b1, off1 + i * 5 + 3, none⟩ = some (.int .i64 (x 3)) := (HH.out.2.2.cell (p := ⟨b1, off1 + i * 5 + 3, none⟩) hb1).trans (hc1 3 _ rfl)
        have g4 : wr.cell? ⟨b1, off1 + i * 5 + 4, none⟩ = some (.int .u64 (x 4)) := (HH.out.2.2.cell (p := ⟨b1, off1 + i * 5 + 4, none⟩) hb1).trans (hc1 4 _ rfl)
        have D1 := Lib.hid (HH.out.1.new (docells x) wr.heap.size rfl (Blk.new wr (docells x) 71) ((Below.refl _ _).alloc (Nat.le_refl _) _))
        have B1 := Lib.hid (HH.out.2.2.alloc HH.out.2.2.size (.cells (docells x) 71))
        have HO := Lib.hid HH.out.2.1
        have hix : (i : Int) < (n : Int) := by omega
        clear hc1 HH
        unfold docells at D1 B1
        go_upto_block 2 with fail
        obtain ⟨kd, hkd⟩ : ∃ kd, kd = (x 0).tmod 6 := ⟨_, rfl⟩
        rw [← hkd]
        generalize hwd : wr.alloc (.cells #[.int .i64 (x 0), .int .i64 (x 1), .int .i64 (x 2), .int .i64 (x 3), .int .u64 (x 4)] 71) = wd at D1 B1 ⊢
        generalize hdk : wr.heap.size = dk at D1 ⊢
        clear g0 g1 g2 g3 g4 hkd hwd hdk hix hb1
        go_cut [17, 21, 22, 23, 24, 25, 26, 27, 28, 29] from 72 to 216 (fun tv v21 v22 v23 v24 v25 v26 v27 v28 v29 wx => ∃ (now' : Int) (p' : BP) (s' : BS) (nn' over' : Nat) (fl' : Nat → Bool), tv = .int .i64 now' ∧ (0 ≤ now' ∧ now' ≤ 300 * ((i : Int) + 1) ∧ nn' ≤ i + 1 ∧ s'.l.length + over' = nn') ∧ Gm wx w1.heap.size B bn bg bo gg (n + 2) p' s' nn' over' fl' ∧ OI Z R nn' fl' s' ∧ Below w.heap.size w wx)
        case first =>
          obtain ⟨hl1, hl2, hl3, hl4⟩ := HLO.out
          have HE1 := Lib.hid (HE.out.below B1.out (Nat.le_refl _))
          by_cases k0 : kd = 0
          case pos =>
            as_aux_lemma =>
              subst k0
              have c0 : wd.cell? ⟨bn, 0, none⟩ = some (.int .i64 (nn : Int)) := D1.out.gm.bk.cn.cell 0
              have qn1 : IntKind.i64.wrap ((nn : Int) + 1) = (nn : Int) + 1 := IntWalk.i64_in _ (by omega)
              by_cases hfr : s.asks = true ∨ room s.w = 0
              case pos =>
                have HX := Lib.hid (show Calls Tryd.prog 12 #[.pointer (some ⟨B, 0, none⟩), .agg #[.int .i64 ((nn : Int) + 1), .int .u32 0, .int .i64 0, .int .i64 0, .slice none 0 0], .int .i64 now] wd (FreshNo E wd 8) from fresh_full (E := E) D1.out.gm.ss.bs (HE1.out.cell 8 (by decide)) (pk ((nn : Int) + 1)) none 0 now HO.out.state HO.out.sz.1 HO.out.sz.2 hfr)
                go_wp2_with fail
                refine HX.out.mono ?_
                rintro e w5 ⟨rfl, hb5⟩
                rw [zmp_eq]
                have G5 := Lib.hid ((D1.out.gm.below hb5 (Nat.le_refl _)).alloc (.cells #[.int .i64 0, .int .u32 0, .int .i64 0, .int .i64 0, .slice none 0 0, .int .i64 0, .int .i64 0, .int .i64 0] 34))
                have hB5 := B1.out.trans (hb5.mono B1.out.size)
                have B5 := Lib.hid (hB5.alloc hB5.size (.cells #[.int .i64 0, .int .u32 0, .int .i64 0, .int .i64 0, .slice none 0 0, .int .i64 0, .int .i64 0, .int .i64 0] 34))
                clear hB5 hb5 HX D1 B1 hfr
                have gn : ∀ w, (binOp .eql 26 (errV E 8) .nilIface).run Tryd.prog w = .ok (.bool false) w := fun w => err_isnil E (some 8) w
                go_wp2_with fail
                apply_assumption
                try simp only [Act.put, List.setIfInBounds_toArray, List.set_cons_zero, List.set_cons_succ]
                go_wp2_with fail
                go_meet
                case rel => exact ⟨now, _, _, nn, over, _, rfl, ⟨by omega, by omega, by omega, by omega⟩, G5.out, HO.out, B5.out⟩
              case neg =>
                obtain ⟨hfa, hfr2⟩ := not_or.1 hfr
                have HX := Lib.hid (show Calls Tryd.prog 12 #[.pointer (some ⟨B, 0, none⟩), .agg #[.int .i64 ((nn : Int) + 1), .int .u32 0, .int .i64 0, .int .i64 0, .slice none 0 0], .int .i64 now] wd (FreshOk wd w1.heap.size B p5 s (pk ((nn : Int) + 1)) now) from fresh_ok D1.out.gm.ss.bs D1.out.gm.ss.bas (pk ((nn : Int) + 1)) none 0 now (pk_row _ _) (by show (0 : Nat) ≤ 1048576; decide) HO.out.state (by simpa using hfa) HO.out.sz.1 HO.out.sz.2 hfr2 (by have := HO.out.olen; omega) (by have := HO.out.len; omega) ⟨by omega, by omega⟩ ⟨by rw [HO.out.life]; decide, by rw [HO.out.life]; decide⟩ (fun k hk => by cases hk))
                go_wp2_with fail
                refine HX.out.mono ?_
                rintro e w5 ⟨A2, C2, A3, C3, rfl, ho3, hs5⟩
                obtain ⟨p6, hD5, hb5⟩ := D1.out.step hs5
                have O5 := Lib.hid (HO.out.fresh hfr2 now A2 C2)
                have e7 : mpA (freshM s (pk ((nn : Int) + 1)) now) A3 C3 = #[.int .i64 ((nn : Int) + 1), .int .u32 0, .int .i64 0, .int .i64 0, .slice A3 0 C3, .int .i64 s.w.nx, .int .i64 0, .int .i64 (now + s.life)] := rfl
                rw [e7]
                have hlf : (freshS s (pk ((nn : Int) + 1)) now A2 C2).l.length = s.l.length + 1 := by show (s.l ++ [_]).length = _; simp
                generalize s.w.nx = nx at *
                generalize now + s.life = nl at *
                generalize freshS s (pk ((nn : Int) + 1)) now A2 C2 = s5 at *
                have hG5 := hD5.gm.alloc (.cells #[.int .i64 ((nn : Int) + 1), .int .u32 0, .int .i64 0, .int .i64 0, .slice A3 0 C3, .int .i64 nx, .int .i64 0, .int .i64 nl] 34)
                have hB5 := B1.out.trans (hb5.mono z1)
                have hB6 := hB5.alloc hB5.size (.cells #[.int .i64 ((nn : Int) + 1), .int .u32 0, .int .i64 0, .int .i64 0, .slice A3 0 C3, .int .i64 nx, .int .i64 0, .int .i64 nl] 34)
                have c1 : (w5.alloc (.cells #[.int .i64 ((nn : Int) + 1), .int .u32 0, .int .i64 0, .int .i64 0, .slice A3 0 C3, .int .i64 nx, .int .i64 0, .int .i64 nl] 34)).cell? ⟨bn, 0, none⟩ = some (.int .i64 (nn : Int)) := hG5.bk.cn.cell 0
                have c2 := hG5.bk.cn.frozen 0
                obtain ⟨hG6, hb6⟩ := hG5.setN (nn + 1)
                rw [show ((nn + 1 : Nat) : Int) = (nn : Int) + 1 by omega] at hG6 hb6
                have G6 := Lib.hid hG6
                have B6 := Lib.hid (hB6.trans (hb6.mono z1))
                clear e7 hG5 hB5 hB6 hG6 hb6 hD5 hb5 hs5 ho3 HX hfr hfr2 hfa D1 B1
                go_wp2_with fail
                go_meet
                case rel => exact ⟨now, _, _, nn + 1, over, _, rfl, ⟨by omega, by omega, by omega, by omega⟩, G6.out, O5.out, B6.out⟩
          case neg =>
            have j0 : (kd == 0) = false := by simp [k0]
            by_cases k1 : kd = 1
            case pos =>
              as_aux_lemma =>
                subst k1
                have c0 : wd.cell? ⟨bn, 0, none⟩ = some (.int .i64 (nn : Int)) := D1.out.gm.bk.cn.cell 0
                have qn1 : IntKind.i64.wrap ((nn : Int) + 1) = (nn : Int) + 1 := IntWalk.i64_in _ (by omega)
                by_cases hfr : s.asks = true ∨ room s.w = 0
                case pos =>
                  have HX := Lib.hid (show Calls Tryd.prog 12 #[.pointer (some ⟨B, 0, none⟩), .agg #[.int .i64 ((nn : Int) + 1), .int .u32 0, .int .i64 0, .int .i64 0, .slice none 0 0], .int .i64 now] wd (FreshNo E wd 8) from fresh_full (E := E) D1.out.gm.ss.bs (HE1.out.cell 8 (by decide)) (pk ((nn : Int) + 1)) none 0 now HO.out.state HO.out.sz.1 HO.out.sz.2 hfr)
                  go_wp2_with fail
                  refine HX.out.mono ?_
                  rintro e w5 ⟨rfl, hb5⟩
                  rw [zmp_eq]
                  have G5 := Lib.hid ((D1.out.gm.below hb5 (Nat.le_refl _)).alloc (.cells #[.int .i64 0, .int .u32 0, .int .i64 0, .int .i64 0, .slice none 0 0, .int .i64 0, .int .i64 0, .int .i64 0] 34))
                  have hB5 := B1.out.trans (hb5.mono B1.out.size)
                  have B5 := Lib.hid (hB5.alloc hB5.size (.cells #[.int .i64 0, .int .u32 0, .int .i64 0, .int .i64 0, .slice none 0 0, .int .i64 0, .int .i64 0, .int .i64 0] 34))
                  clear hB5 hb5 HX D1 B1 hfr
                  have gn : ∀ w, (binOp .eql 26 (errV E 8) .nilIface).run Tryd.prog w = .ok (.bool false) w := fun w => err_isnil E (some 8) w
                  go_wp2_with fail
                  apply_assumption
                  try simp only [Act.put, List.setIfInBounds_toArray, List.set_cons_zero, List.set_cons_succ]
                  go_wp2_with fail
                  go_meet
                  case rel => exact ⟨now, _, _, nn, over, _, rfl, ⟨by omega, by omega, by omega, by omega⟩, G5.out, HO.out, B5.out⟩
                case neg =>
                  obtain ⟨hfa, hfr2⟩ := not_or.1 hfr
                  have HX := Lib.hid (show Calls Tryd.prog 12 #[.pointer (some ⟨B, 0, none⟩), .agg #[.int .i64 ((nn : Int) + 1), .int .u32 0, .int .i64 0, .int .i64 0, .slice none 0 0], .int .i64 now] wd (FreshOk wd w1.heap.size B p5 s (pk ((nn : Int) + 1)) now) from fresh_ok D1.out.gm.ss.bs D1.out.gm.ss.bas (pk ((nn : Int) + 1)) none 0 now (pk_row _ _) (by show (0 : Nat) ≤ 1048576; decide) HO.out.state (by simpa using hfa) HO.out.sz.1 HO.out.sz.2 hfr2 (by have := HO.out.olen; omega) (by have := HO.out.len; omega) ⟨by omega, by omega⟩ ⟨by rw [HO.out.life]; decide, by rw [HO.out.life]; decide⟩ (fun k hk => by cases hk))
                  go_wp2_with fail
                  refine HX.out.mono ?_
                  rintro e w5 ⟨A2, C2, A3, C3, rfl, ho3, hs5⟩
                  obtain ⟨p6, hD5, hb5⟩ := D1.out.step hs5
                  have O5 := Lib.hid (HO.out.fresh hfr2 now A2 C2)
                  have e7 : mpA (freshM s (pk ((nn : Int) + 1)) now) A3 C3 = #[.int .i64 ((nn : Int) + 1), .int .u32 0, .int .i64 0, .int .i64 0, .slice A3 0 C3, .int .i64 s.w.nx, .int .i64 0, .int .i64 (now + s.life)] := rfl
                  rw [e7]
                  have hlf : (freshS s (pk ((nn : Int) + 1)) now A2 C2).l.length = s.l.length + 1 := by show (s.l ++ [_]).length = _; simp
                  generalize s.w.nx = nx at *
                  generalize now + s.life = nl at *
                  generalize freshS s (pk ((nn : Int) + 1)) now A2 C2 = s5 at *
                  have hG5 := hD5.gm.alloc (.cells #[.int .i64 ((nn : Int) + 1), .int .u32 0, .int .i64 0, .int .i64 0, .slice A3 0 C3, .int .i64 nx, .int .i64 0, .int .i64 nl] 34)
                  have hB5 := B1.out.trans (hb5.mono z1)
                  have hB6 := hB5.alloc hB5.size (.cells #[.int .i64 ((nn : Int) + 1), .int .u32 0, .int .i64 0, .int .i64 0, .slice A3 0 C3, .int .i64 nx, .int .i64 0, .int .i64 nl] 34)
                  have c1 : (w5.alloc (.cells #[.int .i64 ((nn : Int) + 1), .int .u32 0, .int .i64 0, .int .i64 0, .slice A3 0 C3, .int .i64 nx, .int .i64 0, .int .i64 nl] 34)).cell? ⟨bn, 0, none⟩ = some (.int .i64 (nn : Int)) := hG5.bk.cn.cell 0
                  have c2 := hG5.bk.cn.frozen 0
                  obtain ⟨hG6, hb6⟩ := hG5.setN (nn + 1)
                  rw [show ((nn + 1 : Nat) : Int) = (nn : Int) + 1 by omega] at hG6 hb6
                  have G6 := Lib.hid hG6
                  have B6 := Lib.hid (hB6.trans (hb6.mono z1))
                  clear e7 hG5 hB5 hB6 hG6 hb6 hD5 hb5 hs5 ho3 HX hfr hfr2 hfa D1 B1
                  go_wp2_with fail
                  go_meet
                  case rel => exact ⟨now, _, _, nn + 1, over, _, rfl, ⟨by omega, by omega, by omega, by omega⟩, G6.out, O5.out, B6.out⟩
            case neg =>
              have j1 : (kd == 1) = false := by simp [k1]
              by_cases k2 : kd = 2
              case pos =>
                as_aux_lemma =>
                  subst k2
                  have HSW := Lib.hid (sweep_any D1.out.gm.ss.bs D1.out.gm.ss.hB D1.out.gm.ss.hW now (by have := HO.out.len; omega) HO.out.bodies HO.out.seqs HO.out.nodup HO.out.head)
                  go_wp2_with fail
                  refine HSW.out.mono ?_
                  rintro e w5 ⟨A5, n5, C5, L5, A6, n6, C6, rfl, ho5, hm5, hi5, hs5⟩
                  have hLl := congrArg List.length hm5
                  rw [List.length_map, List.length_map] at hLl
                  have hn5 := ho5.len
                  have hn6 := hi5.len
                  rw [OI.whys] at hn6
                  obtain rfl : n6 = n5 := by omega
                  obtain ⟨o1, o2, o3⟩ := HO.out.sweep now L5 hm5
                  have HEN := Lib.hid (HO.out.ends (goneP s.retry now) L5 hm5 (K := n + 2) (by omega))
                  obtain ⟨p6, hD5, hb5⟩ := D1.out.step hs5
                  have D5 := Lib.hid hD5
                  have B5 := Lib.hid (B1.out.trans (hb5.mono z1))
                  have O6 := Lib.hid o1
                  have HSN := Lib.hid o3
                  have HLL := Lib.hid o2
                  generalize sweepS s now = s2 at D5 O6 HSN HLL
                  have hl64 := HO.out.len
                  have hn5' : n6 ≤ 64 := by omega
                  have qR : IntKind.i64.wrap ((R : Int) + 1) = (R : Int) + 1 := IntWalk.i64_in _ (by omega)
                  have gk : ((n6 : Int) != (n6 : Int)) = false := by simp
                  have HCL := Lib.hid (end_any D5.out.gm.bk ho5 HEN.out (by omega) (by omega) (by omega) (by omega) ((R : Int) + 1) rfl)
                  clear hD5 hb5 hs5 o1 o2 o3 hi5 hn6 hLl hm5 HSW
                  go_wp2_with fail
                  refine HCL.out.mono ?_
                  rintro e w6 ⟨rfl, hk6, ht6⟩
                  obtain ⟨hD6, hb6⟩ := D5.out.ends hk6 ht6
                  have D6 := Lib.hid hD6
                  have B6 := Lib.hid (B5.out.trans (hb6.mono z1))
                  clear hD6 hb6 hk6 ht6 HCL D5 B5 HEN
                  have HDU := Lib.hid (due_any D6.out.gm.ss.bs (by have := O6.out.len; omega) O6.out.bodies)
                  go_wp2_with fail
                  refine HDU.out.mono ?_
                  rintro e w8 ⟨A8, n8, C8, M8, rfl, ho8, hm8, hb8⟩
                  have hn8 : n8 = (s2.l.filter (fun x => !x.fl)).length := by have h1 := ho8.len; have h2 := congrArg List.length hm8; rw [List.length_map, List.length_map] at h2; omega
                  have hms : M8.map (·.m.seq) = (s2.l.filter (fun x => !x.fl)).map (·.m.seq) := by
                    have h2 := congrArg (List.map (fun m : Mp => m.seq)) hm8
                    rw [List.map_map, List.map_map] at h2
                    exact h2
                  have h64 := O6.out.len
                  have hfl8 : (s2.l.filter (fun x => !x.fl)).length ≤ 64 := Nat.le_trans (List.length_filter_le _ _) h64
                  have HQ := Lib.hid (seqs_any A8 n8 C8 _ M8 w8 ho8 (by omega))
                  rw [hms] at HQ
                  have D8 := Lib.hid (D6.out.below hb8 (Nat.le_refl _))
                  have B8 := Lib.hid (B6.out.trans (hb8.mono B6.out.size))
                  have HN8 := Lib.hid (show n8 ≤ 64 by omega)
                  clear hm8 hms hb8 ho8 HDU D6 B6
                  have HL8 := Lib.hid hn8
                  clear hn8 hfl8
                  go_wp2_with fail
                  refine HQ.out.mono ?_
                  rintro e w9 ⟨A9, n9, C9, rfl, ho9, hb9⟩
                  have hn9 : n9 = (s2.l.filter (fun x => !x.fl)).length := by have h1 := ho9.len; rw [List.length_map] at h1; omega
                  have h9 : n9 ≤ 64 := by have := HN8.out; have := HL8.out; omega
                  have HN9 := Lib.hid hn9
                  clear hn9
                  have D9 := Lib.hid (D8.out.below hb9 (Nat.le_refl _))
                  have B9 := Lib.hid (B8.out.trans (hb9.mono B8.out.size))
                  have HGE := Lib.hid D8.out.gm.ss.ge
                  have HI9 := Lib.hid ho9
                  clear hb9 HQ D8 B8 ho9 HL8 HN8
                  have HFY := Lib.hid (flying_any D9.out.gm.ss.bs (by have := O6.out.len; omega) O6.out.bodies)
                  by_cases hf : s2.l.any (·.fl) = true
                  case pos =>
                    go_wp2_with fail
                    refine HFY.out.mono ?_
                    rintro e w10 ⟨A10, n10, C10, L10, rfl, ho10, hm10, hb10⟩
                    have hp10 : 0 < n10 := by
                      have h1 := ho10.len; have h2 := congrArg List.length hm10
                      rw [List.length_map, List.length_map] at h2
                      obtain ⟨y, hy, hfy⟩ := List.any_eq_true.1 hf
                      have h3 : 0 < (s2.l.filter (·.fl)).length := List.length_pos_of_mem (List.mem_filter.2 ⟨hy, hfy⟩)
                      omega
                    have g10 : ((n10 : Int) == 0) = false := by simp; omega
                    have g11 : (n10 == 0) = false := by simp; omega
                    have G10 := Lib.hid (D9.out.gm.below hb10 (Nat.le_refl _))
                    have B10 := Lib.hid (B9.out.trans (hb10.mono B9.out.size))
                    clear hb10 hm10 ho10 HFY D9 B9 hf HI9
                    go_wp2_with fail
                    go_meet
                    case rel => exact ⟨now, _, _, nn, over + n6, _, rfl, ⟨by omega, by omega, by omega, by have := HLL.out; omega⟩, G10.out, O6.out, B10.out⟩
                  case neg =>
                    have hf' : s2.l.any (·.fl) = false := by simpa using hf
                    have hall : s2.l.filter (fun x => !x.fl) = s2.l := List.filter_eq_self.2 (fun y hy => by have := List.any_eq_false.1 hf' y hy; simpa using this)
                    rw [hall] at HI9
                    rw [← O6.out.seqs] at HI9
                    go_wp2_with fail
                    refine HFY.out.mono ?_
                    rintro e w10 ⟨A10, n10, C10, L10, rfl, ho10, hm10, hb10⟩
                    obtain rfl : n10 = 0 := by
                      have h1 := ho10.len; have h2 := congrArg List.length hm10
                      rw [List.length_map, List.length_map] at h2
                      have h3 : (s2.l.filter (·.fl)) = [] := List.filter_eq_nil_iff.2 (fun y hy => by have := List.any_eq_false.1 hf' y hy; simpa using this)
                      rw [h3] at h2
                      have h4 : L10.length = 0 := h2
                      omega
                    have D10 := Lib.hid (D9.out.below hb10 (Nat.le_refl _))
                    have B10 := Lib.hid (B9.out.trans (hb10.mono B9.out.size))
                    have HI10 := Lib.hid (HI9.out.below hb10 (Nat.le_refl _))
                    clear hb10 hm10 ho10 HFY D9 B9 hf HI9 hall
                    by_cases hp9 : 0 < n9
                    case neg =>
                      have g9 : decide ((0 : Int) < (n9 : Int)) = false := decide_eq_false (by omega)
                      have g9' : decide (0 < n9) = false := decide_eq_false (by omega)
                      have G10 := Lib.hid D10.out.gm
                      clear D10 HI10
                      go_wp2_with fail
                      go_meet
                      case rel => exact ⟨now, _, _, nn, over + n6, _, rfl, ⟨by omega, by omega, by omega, by have := HLL.out; omega⟩, G10.out, O6.out, B10.out⟩
                    case pos =>
                      have g9 : decide ((0 : Int) < (n9 : Int)) = true := decide_eq_true (by omega)
                      have g9' : decide (0 < n9) = true := decide_eq_true (by omega)
                      have d1 : w10.cell? ⟨dk, 1, none⟩ = some (.int .i64 (x 1)) := D10.out.dk.cell 1
                      obtain ⟨j, hj, ej⟩ := number_nat (x 1) n9 hp9
                      have HNU := Lib.hid (number_any (x 1) (n9 : Int) w10 (by omega) (by omega) HOK.out.2.1.1 HOK.out.2.1.2)
                      rw [ej] at HNU
                      have hcap := HI10.out.row.len_cap
                      go_wp2_with fail
                      refine HNU.out.mono ?_
                      rintro e wq ⟨rfl, rfl⟩
                      have qj : IntKind.i64.wrap ((j : Int) + 1) = (j : Int) + 1 := IntWalk.i64_in _ (by omega)
                      have hj1 : (0 : Int) ≤ (j : Int) + 1 := by omega
                      have hj2 : (j : Int) + 1 ≤ (C9 : Int) := by omega
                      have HE10 := Lib.hid (HE.out.below B10.out (Nat.le_refl _))
                      have HW := Lib.hid (went_pass D10.out.gm.ss.bs (HE10.out.cell 9 (by decide)) A9 (j + 1) C9 (s2.w.o.take (j + 1)) (row_takeI HI10.out.row (by omega)) (fun k hk hx => by have h1 := (HI10.out.ge k hk).1; have h2 := (HGE.out k hx).2; omega) (O6.out.goes hf' (j + 1)) (fun y hy => ⟨(O6.out.sent y hy).1, by have := (O6.out.sent y hy).2; omega⟩))
                      have O11 := Lib.hid (O6.out.went (s2.w.o.take (j + 1)) (fun y hy => HSN.out y hy (by have := List.any_eq_false.1 hf' y hy; simpa using this)))
                      have hwl : (wentS s2 (s2.w.o.take (j + 1))).l.length = s2.l.length := by show (s2.l.map _).length = _; simp
                      go_wp2_with fail
                      refine HW.out.mono ?_
                      rintro e w11 (⟨h, -⟩ | ⟨-, rfl, hs11⟩)
                      case inl => rw [hf'] at h; cases h
                      obtain ⟨p11, hD11, hb11⟩ := D10.out.step hs11
                      have G11 := Lib.hid hD11.gm
                      have B11 := Lib.hid (B10.out.trans (hb11.mono z1))
                      generalize wentS s2 (s2.w.o.take (j + 1)) = s11 at *
                      clear hD11 hb11 hs11 HW HE10 D10 B10 HI10
                      go_wp2_with fail
                      go_meet
                      case rel => exact ⟨now, _, _, nn, over + n6, _, rfl, ⟨by omega, by omega, by omega, by have := HLL.out; omega⟩, G11.out, O11.out, B11.out⟩
              case neg =>
                have j2 : (kd == 2) = false := by simp [k2]
                by_cases k3 : kd = 3
                case pos =>
                  as_aux_lemma =>
                    subst k3
                    have hdr := Below.drew (Below.refl wd.heap.size wd)
                    have D1 := Lib.hid (D1.out.below hdr (Nat.le_refl _))
                    have B1 := Lib.hid (B1.out.trans (hdr.mono B1.out.size))
                    have HE1 := Lib.hid (HE.out.below B1.out (Nat.le_refl _))
                    clear hdr
                    have d0 : wd.drew.cell? ⟨dk, 4, none⟩ = some (.int .u64 (x 4)) := D1.out.dk.cell 4
                    have hq := HO.out.st_range
                    obtain ⟨hM0, hM1⟩ := HOK.out.2.2.2.2
                    have HST := Lib.hid (bstart_any D1.out.gm.ss.bs)
                    obtain ⟨q, hqq⟩ : ∃ q, s.w.st = q := ⟨_, rfl⟩
                    rw [hqq] at HST hq
                    by_cases hf : s.l.any (·.fl) = true
                    case pos =>
                      have hnr := HO.out.near hf
                      rw [hqq] at hnr
                      have HH := Lib.hid (show Calls Tryd.prog 19 #[.pointer (some ⟨B, 0, none⟩), .agg #[.int .u8 0, .int .u8 0, .int .u8 0, .int .u8 0, .int .u8 0, .int .u8 0, .int .u8 0, .int .u8 0, .int .u8 0, .int .u8 0, .int .u8 0, .int .u8 0, .int .i64 0, .int .i64 q, .int .u64 (x 4)]] wd.drew (HeardOk wd.drew w1.heap.size B p5 s q (x 4)) from heard_ok D1.out.gm.ss.bs D1.out.gm.ss.bas (fun _ => 0) (fun _ => 0) 0 q (x 4) hf hq.1 hq.2 hnr hM0 hM1 (by have := HO.out.len; omega) HO.out.bodies HO.out.seqs HO.out.nodup HO.out.head)
                      clear hnr hf
                      go_wp2_with fail
                      go_region_held3 (fun y => y.cell? ⟨dk, 4, none⟩ = some (.int .u64 (x 4)))
                        (first | exact d0 | exact d5)
                        (first
                          | (go_at_call 23; (refine HST.out.mono ?_); rintro e wq ⟨rfl, rfl⟩)
                          | (go_at_call 19; (refine HH.out.mono ?_); rintro e w5 ⟨A5, n5, C5, L5, rfl, ho5, hm5, hs5⟩; obtain ⟨p6, hD5, hb5⟩ := D1.out.step hs5; have d5 : w5.cell? ⟨dk, 4, none⟩ = some (.int .u64 (x 4)) := hD5.dk.cell 4))
                      have hLl := congrArg List.length hm5
                      rw [List.length_map, List.length_map] at hLl
                      have hn5 := ho5.len
                      obtain ⟨o1, o2⟩ := HO.out.heard q (x 4) L5 hm5
                      have HEN := Lib.hid (HO.out.ends (ackP q (x 4)) L5 hm5 (K := n + 2) (by omega))
                      have D5 := Lib.hid hD5
                      have B5 := Lib.hid (B1.out.trans (hb5.mono z1))
                      have O6 := Lib.hid o1
                      have HLL := Lib.hid o2
                      generalize heardS s q (x 4) = s2 at *
                      have hl64 := HO.out.len
                      have hn5' : n5 ≤ 64 := by omega
                      have qR : IntKind.i64.wrap ((R : Int) + 1) = (R : Int) + 1 := IntWalk.i64_in _ (by omega)
                      have gk : ((n5 : Int) != (n5 : Int)) = false := by simp
                      have HCL := Lib.hid (end_any D5.out.gm.bk ho5 HEN.out (by omega) (by omega) (by omega) (by omega) ((R : Int) + 1) rfl)
                      clear hD5 hb5 hs5 o1 o2 hLl hm5 HH HST d0
                      go_wp2_with fail
                      refine HCL.out.mono ?_
                      rintro e w6 ⟨rfl, hk6, ht6⟩
                      obtain ⟨hD6, hb6⟩ := D5.out.ends hk6 ht6
                      have D6 := Lib.hid hD6
                      have B6 := Lib.hid (B5.out.trans (hb6.mono z1))
                      clear hD6 hb6 hk6 ht6 HCL D5 B5 HEN
                      have G6 := Lib.hid D6.out.gm
                      clear D6
                      go_wp2_with fail
                      go_meet
                      case rel => exact ⟨now, _, _, nn, over + n5, _, rfl, ⟨by omega, by omega, by omega, by have := HLL.out; omega⟩, G6.out, O6.out, B6.out⟩
                    case neg =>
                      have hf' : s.l.any (·.fl) = false := by simpa using hf
                      have HH := Lib.hid (show Calls Tryd.prog 19 #[.pointer (some ⟨B, 0, none⟩), .agg #[.int .u8 0, .int .u8 0, .int .u8 0, .int .u8 0, .int .u8 0, .int .u8 0, .int .u8 0, .int .u8 0, .int .u8 0, .int .u8 0, .int .u8 0, .int .u8 0, .int .i64 0, .int .i64 q, .int .u64 (x 4)]] wd.drew (fun e w' => e = .returned (.tuple #[.slice none 0 0, errV E 9]) ∧ Below wd.drew.heap.size wd.drew w') from heard_state (E := E) D1.out.gm.ss.bs (HE1.out.cell 9 (by decide)) (fun _ => 0) (fun _ => 0) 0 q (x 4) hf')
                      clear hf hf'
                      go_wp2_with fail
                      go_region_held3 (fun y => y.cell? ⟨dk, 4, none⟩ = some (.int .u64 (x 4)))
                        (first | exact d0 | exact d5)
                        (first
                          | (go_at_call 23; (refine HST.out.mono ?_); rintro e wq ⟨rfl, rfl⟩)
                          | (go_at_call 19; (refine HH.out.mono ?_); rintro e w5 ⟨rfl, hb5⟩; have d5 : w5.cell? ⟨dk, 4, none⟩ = some (.int .u64 (x 4)) := (D1.out.below hb5 (Nat.le_refl _)).dk.cell 4))
                      have G5 := Lib.hid (D1.out.gm.below hb5 (Nat.le_refl _))
                      have B5 := Lib.hid (B1.out.trans (hb5.mono B1.out.size))
                      clear hb5 HH HST d0 d5 D1 B1
                      have gn : ∀ w, (binOp .eql 26 (errV E 9) .nilIface).run Tryd.prog w = .ok (.bool false) w := fun w => err_isnil E (some 9) w
                      go_wp2_with fail
                      apply_assumption
                      try simp only [Act.put, List.setIfInBounds_toArray, List.set_cons_zero, List.set_cons_succ]
                      go_wp2_with fail
                      go_meet
                      case rel => exact ⟨now, _, _, nn, over, _, rfl, ⟨by omega, by omega, by omega, by omega⟩, G5.out, HO.out, B5.out⟩
                case neg =>
                  have j3 : (kd == 3) = false := by simp [k3]
                  by_cases k4 : kd = 4
                  case pos =>
                    as_aux_lemma =>
                      subst k4
                      by_cases hf : s.l.any (·.fl) = true
                      case pos =>
                        have HL := Lib.hid (lost_ok D1.out.gm.ss.bs hf)
                        have O5 := Lib.hid HO.out.land
                        have hll : (landS s).l.length = s.l.length := by show (s.l.map _).length = _; simp
                        clear hf
                        go_wp2_with fail
                        refine HL.out.mono ?_
                        rintro e w5 ⟨rfl, hs5⟩
                        obtain ⟨p6, hD5, hb5⟩ := D1.out.step hs5
                        have G5 := Lib.hid hD5.gm
                        have B5 := Lib.hid (B1.out.trans (hb5.mono z1))
                        generalize landS s = s5 at *
                        clear hD5 hb5 hs5 HL D1 B1
                        go_wp2_with fail
                        go_meet
                        case rel => exact ⟨now, _, _, nn, over, _, rfl, ⟨by omega, by omega, by omega, by omega⟩, G5.out, O5.out, B5.out⟩
                      case neg =>
                        have hf' : s.l.any (·.fl) = false := by simpa using hf
                        have HL := Lib.hid (lost_no (E := E) D1.out.gm.ss.bs (HE1.out.cell 9 (by decide)) hf')
                        clear hf hf'
                        go_wp2_with fail
                        refine HL.out.mono ?_
                        rintro e w5 ⟨rfl, hb5⟩
                        have G5 := Lib.hid (D1.out.gm.below hb5 (Nat.le_refl _))
                        have B5 := Lib.hid (B1.out.trans (hb5.mono B1.out.size))
                        clear hb5 HL D1 B1
                        go_wp2_with fail
                        go_meet
                        case rel => exact ⟨now, _, _, nn, over, _, rfl, ⟨by omega, by omega, by omega, by omega⟩, G5.out, HO.out, B5.out⟩
                  case neg =>
                    have j4 : (kd == 4) = false := by simp [k4]
                    as_aux_lemma =>
                      have d1 : wd.cell? ⟨dk, 1, none⟩ = some (.int .i64 (x 1)) := D1.out.dk.cell 1
                      have HNU := Lib.hid (number_any (x 1) 300 wd (by decide) (by decide) HOK.out.2.1.1 HOK.out.2.1.2)
                      obtain ⟨m0, hm0, em⟩ := number_nat (x 1) 300 (by decide)
                      rw [show x 1 % 300 = (m0 : Int) from em] at HNU
                      go_wp2_with fail
                      refine HNU.out.mono ?_
                      rintro e wq ⟨rfl, rfl⟩
                      obtain ⟨now2, hnow⟩ : ∃ t, now + (m0 : Int) = t := ⟨_, rfl⟩
                      have qt : IntKind.i64.wrap (now + (m0 : Int)) = now2 := by rw [hnow]; exact IntWalk.i64_in _ (by omega)
                      have hw2 : 0 ≤ now2 ∧ now2 ≤ 300 * ((i : Int) + 1) := by omega
                      have HW2 := Lib.hid hw2
                      clear hnow em hm0 d1 HNU hw2
                      have HSW := Lib.hid (sweep_any D1.out.gm.ss.bs D1.out.gm.ss.hB D1.out.gm.ss.hW now2 (by have := HO.out.len; omega) HO.out.bodies HO.out.seqs HO.out.nodup HO.out.head)
                      go_wp2_with fail
                      refine HSW.out.mono ?_
                      rintro e w5 ⟨A5, n5, C5, L5, A6, n6, C6, rfl, ho5, hm5, hi5, hs5⟩
                      have hLl := congrArg List.length hm5
                      rw [List.length_map, List.length_map] at hLl
                      have hn5 := ho5.len
                      have hn6 := hi5.len
                      rw [OI.whys] at hn6
                      obtain rfl : n6 = n5 := by omega
                      obtain ⟨o1, o2, o3⟩ := HO.out.sweep now2 L5 hm5
                      have HEN := Lib.hid (HO.out.ends (goneP s.retry now2) L5 hm5 (K := n + 2) (by omega))
                      obtain ⟨p6, hD5, hb5⟩ := D1.out.step hs5
                      have D5 := Lib.hid hD5
                      have B5 := Lib.hid (B1.out.trans (hb5.mono z1))
                      have O6 := Lib.hid o1
                      have HSN := Lib.hid o3
                      have HLL := Lib.hid o2
                      generalize sweepS s now2 = s2 at D5 O6 HSN HLL
                      have hl64 := HO.out.len
                      have hn5' : n6 ≤ 64 := by omega
                      have qR : IntKind.i64.wrap ((R : Int) + 1) = (R : Int) + 1 := IntWalk.i64_in _ (by omega)
                      have gk : ((n6 : Int) != (n6 : Int)) = false := by simp
                      have HCL := Lib.hid (end_any D5.out.gm.bk ho5 HEN.out (by omega) (by omega) (by omega) (by omega) ((R : Int) + 1) rfl)
                      clear hD5 hb5 hs5 o1 o2 o3 hi5 hn6 hLl hm5 HSW
                      go_wp2_with fail
                      refine HCL.out.mono ?_
                      rintro e w6 ⟨rfl, hk6, ht6⟩
                      obtain ⟨hD6, hb6⟩ := D5.out.ends hk6 ht6
                      have D6 := Lib.hid hD6
                      have B6 := Lib.hid (B5.out.trans (hb6.mono z1))
                      clear hD6 hb6 hk6 ht6 HCL D5 B5 HEN
                      have HBR := Lib.hid (barred_any D6.out.gm.ss.bs true (by rw [O6.out.vain]; decide) (by rw [O6.out.vain]; decide))
                      have O7 := Lib.hid O6.out.bar
                      have hbl := congrArg List.length (barS_l s2 true)
                      go_wp2_with fail
                      refine HBR.out.mono ?_
                      rintro e w7 ⟨rfl, hs7⟩
                      obtain ⟨p7, hD7, hb7⟩ := D6.out.step hs7
                      have G7 := Lib.hid hD7.gm
                      have B7 := Lib.hid (B6.out.trans (hb7.mono z1))
                      generalize barS s2 true = s7 at *
                      clear hD7 hb7 hs7 HBR D6 B6
                      go_wp2_with fail
                      go_meet
                      case rel => exact ⟨now2, _, _, nn, over + n6, _, rfl, ⟨HW2.out.1, HW2.out.2, by omega, by have := HLL.out; omega⟩, G7.out, O7.out, B7.out⟩
        case rest =>
          as_aux_lemma =>
            obtain ⟨now', p', s', nn', over', fl', rfl, ⟨hw1, hw2, hnn', hll'⟩, hG', hO', hB'⟩ := hcut
            have hdr := Below.drew (Below.refl wc.heap.size wc)
            have G0 := Lib.hid (hG'.below hdr (Nat.le_refl _))
            have O0 := Lib.hid hO'
            have B0 := Lib.hid (hB'.trans (hdr.mono hB'.size))
            clear hdr hG' hO' hB' D1 B1 HO HOK HLO
            have d0 : wc.drew.cell? ⟨bn, 0, none⟩ = some (.int .i64 (nn' : Int)) ∧ wc.drew.cell? ⟨bo, 0, none⟩ = some (.int .i64 (over' : Int)) := ⟨G0.out.bk.cn.cell 0, G0.out.bk.co.cell 0⟩
            have h64 := O0.out.len
            have hflt := filter_two (fun x : Fm => x.fl) s'.l
            have HOU := Lib.hid (fun y (h : Gm y w1.heap.size B bn bg bo gg (n + 2) p' s' nn' over' fl') => out_any h.ss.bs (by omega) O0.out.bodies)
            have HDU := Lib.hid (fun y (h : Gm y w1.heap.size B bn bg bo gg (n + 2) p' s' nn' over' fl') => due_any h.ss.bs (by omega) O0.out.bodies)
            have HFY := Lib.hid (fun y (h : Gm y w1.heap.size B bn bg bo gg (n + 2) p' s' nn' over' fl') => flying_any h.ss.bs (by omega) O0.out.bodies)
            have HMEET := Lib.hid (And.intro hw1 (And.intro hw2 (And.intro hnn' hll')))
            obtain ⟨ln, hln⟩ : ∃ ln, s'.l.length = ln := ⟨_, rfl⟩
            obtain ⟨du, hdu⟩ : ∃ du, (s'.l.filter (fun x => !x.fl)).length = du := ⟨_, rfl⟩
            obtain ⟨fy, hfy⟩ : ∃ fy, (s'.l.filter (·.fl)).length = fy := ⟨_, rfl⟩
            have hsum : fy + du = ln := by rw [← hdu, ← hfy, ← hln]; exact hflt
            have hover : ln + over' = nn' := by rw [← hln]; exact hll'
            have qd : IntKind.i64.wrap ((nn' : Int) - (over' : Int)) = (ln : Int) := by rw [IntWalk.i64_in _ (by omega)]; omega
            have qs : IntKind.i64.wrap ((du : Int) + (fy : Int)) = (ln : Int) := by rw [IntWalk.i64_in _ (by omega)]; omega
            have gl : ((ln : Int) != (ln : Int)) = false := by simp
            clear hflt
            go_wp2_with fail
            go_region_held3 (fun y => y.cell? ⟨bn, 0, none⟩ = some (.int .i64 (nn' : Int)) ∧ y.cell? ⟨bo, 0, none⟩ = some (.int .i64 (over' : Int)))
              (first | exact d0 | exact d1 | exact d2 | exact d3 | exact d4)
              (first
                | (go_at_call 29; (refine (HOU.out _ G0.out).mono ?_); rintro e x1 ⟨A1, n1, C1, M1, rfl, ho1, hm1, hb1⟩; have hn1 : ln = n1 := (by have h1 := ho1.len; have h2 := congrArg List.length hm1; rw [List.length_map, List.length_map] at h2; omega); subst hn1; have G1 := Lib.hid (G0.out.below hb1 (Nat.le_refl _)); have B1 := Lib.hid (B0.out.trans (hb1.mono B0.out.size)); have d1 : x1.cell? ⟨bn, 0, none⟩ = some (.int .i64 (nn' : Int)) ∧ x1.cell? ⟨bo, 0, none⟩ = some (.int .i64 (over' : Int)) := ⟨G1.out.bk.cn.cell 0, G1.out.bk.co.cell 0⟩; clear hm1 hb1 ho1)
                | (go_at_call 22; (refine (HDU.out _ G1.out).mono ?_); rintro e x2 ⟨A2, n2, C2, M2, rfl, ho2, hm2, hb2⟩; have hn2 : du = n2 := (by have h1 := ho2.len; have h2 := congrArg List.length hm2; rw [List.length_map, List.length_map] at h2; omega); subst hn2; have G2 := Lib.hid (G1.out.below hb2 (Nat.le_refl _)); have B2 := Lib.hid (B1.out.trans (hb2.mono B1.out.size)); have d2 : x2.cell? ⟨bn, 0, none⟩ = some (.int .i64 (nn' : Int)) ∧ x2.cell? ⟨bo, 0, none⟩ = some (.int .i64 (over' : Int)) := ⟨G2.out.bk.cn.cell 0, G2.out.bk.co.cell 0⟩; clear hm2 hb2 ho2)
                | (go_at_call 24; (refine (HFY.out _ G2.out).mono ?_); rintro e x3 ⟨A3, n3, C3, M3, rfl, ho3, hm3, hb3⟩; have hn3 : fy = n3 := (by have h1 := ho3.len; have h2 := congrArg List.length hm3; rw [List.length_map, List.length_map] at h2; omega); subst hn3; have G3 := Lib.hid (G2.out.below hb3 (Nat.le_refl _)); have B3 := Lib.hid (B2.out.trans (hb3.mono B2.out.size)); have d3 : x3.cell? ⟨bn, 0, none⟩ = some (.int .i64 (nn' : Int)) ∧ x3.cell? ⟨bo, 0, none⟩ = some (.int .i64 (over' : Int)) := ⟨G3.out.bk.cn.cell 0, G3.out.bk.co.cell 0⟩; clear hm3 hb3 ho3)
                | (go_at_call 29; (refine (HOU.out _ G3.out).mono ?_); rintro e x4 ⟨A4, n4, C4, M4, rfl, ho4, hm4, hb4⟩; have hn4 : ln = n4 := (by have h1 := ho4.len; have h2 := congrArg List.length hm4; rw [List.length_map, List.length_map] at h2; omega); subst hn4; have G4 := Lib.hid (G3.out.below hb4 (Nat.le_refl _)); have B4 := Lib.hid (B3.out.trans (hb4.mono B3.out.size)); have d4 : x4.cell? ⟨bn, 0, none⟩ = some (.int .i64 (nn' : Int)) ∧ x4.cell? ⟨bo, 0, none⟩ = some (.int .i64 (over' : Int)) := ⟨G4.out.bk.cn.cell 0, G4.out.bk.co.cell 0⟩; clear hm4 hb4 ho4))
            go_wp2_with fail
            go_roundw
            case rel => exact ⟨i + 1, now', p', s', nn', over', fl', by omega, by go_num, rfl, HMEET.out.1, by have := HMEET.out.2.1; omega, HMEET.out.2.2.1, HMEET.out.2.2.2, G4.out, O0.out, B4.out⟩
            case measure => simp [intOf]; omega
end Go.Proofs.YthjjneanabnjoaaDoor
