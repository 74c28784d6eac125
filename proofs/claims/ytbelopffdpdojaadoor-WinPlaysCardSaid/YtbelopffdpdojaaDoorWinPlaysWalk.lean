/-
  WinPlays: the walk.
-/
import Derived.Test.YtbelopffdpdojaaDoorWinPlaysBase
import Derived.BigQuiet
import Derived.Deep.CutBlock
import Derived.Deep.CutRange
namespace Go.Proofs.YtbelopffdpdojaaDoor
open Go.ChangeShapes Go.WideShapes Go.ChangeAt Go.RowKit
set_option linter.unusedVariables false

section
variable {w : World} {base B C Z st d : Nat} {A : Option Addr} {ds : List Nat}
theorem start_wh (h : Wn w base B A C (WH Z st d ds)) : Calls Tryd.prog 14 #[.pointer (some ⟨B, 0, none⟩)] w fun e w' => e = .returned (.int .i64 (st : Int)) ∧ w = w' := start_any h
theorem ahead_wh (h : Wn w base B A C (WH Z st d ds)) : Calls Tryd.prog 12 #[.pointer (some ⟨B, 0, none⟩)] w fun e w' => e = .returned (.int .i64 (atD st d)) ∧ w = w' := ahead_any h
theorem size_wh (h : Wn w base B A C (WH Z st d ds)) : Calls Tryd.prog 26 #[.pointer (some ⟨B, 0, none⟩)] w fun e w' => e = .returned (.int .i64 (Z : Int)) ∧ w = w' := size_any h
theorem out_wh (h : Wn w base B A C (WH Z st d ds)) (hl : ds.length ≤ 1000000) : Calls Tryd.prog 13 #[.pointer (some ⟨B, 0, none⟩)] w fun e w' => ∃ A2 C2, e = .returned (.slice A2 ds.length C2) ∧ OwnI w' w.heap.size A2 ds.length C2 (ds.map (atD st)) ∧ Below w.heap.size w w' := by
  have hh : (WH Z st d ds).o.length = ds.length := by simp [WH]
  have := out_any h (by rw [hh]; exact hl)
  rw [hh] at this
  exact this
end
theorem rsz_all (s : WS) (n : Int) : ∀ i, rszR s n = some i → i ∈ allErr := by
  intro i h
  simp only [rszR] at h
  split at h
  · injection h with h; subst h; decide
  · split at h
    · injection h with h; subst h; decide
    · cases h

set_option maxHeartbeats 4000000 in
set_option maxRecDepth 100000 in
theorem winPlays_walk (w : World) {E : Nat → Addr} (hE : Errs allErr w E) (start : Int) (hs : (Lit.int .i64 start).wf = true) (size : Int) (hz : (Lit.int .i64 size).wf = true) (a : Option Addr) (len cap : Nat) (F : Nat → DoR) (hd : Dos w a len F) :
    Calls Tryd.prog 6 #[.int .i64 start, .int .i64 size, .slice a len cap] w fun e w' => e = .returned (.bool true) ∧ Below w.heap.size w w' := by
  have HE := Lib.hid hE
  have HDo := Lib.hid hd
  clear hE hd
  by_cases hv : 0 ≤ start ∧ start < 4096 ∧ 1 ≤ size ∧ size ≤ 64
  case neg =>
    have HV := Lib.hid hv
    have HVF := Lib.hid (show decide (0 ≤ start ∧ start < 4096 ∧ 1 ≤ size ∧ size ≤ 64) = false from decide_eq_false hv)
    clear hv
    go_enter Tryd.func6, Tryd.ntmps6
    go_wp2_with fail
    refine (wfirst_any _).mono ?_
    rintro e w1 ⟨rfl, b1⟩
    have z1' := b1.size
    go_wp2_with fail
    refine (new_bad start size w1 (HE.out.below b1 (Nat.le_refl _)) HV.out).mono ?_
    rintro e w2 ⟨rfl, n, rfl⟩
    go_wp2_with fail
    refine (valid_any start size _).mono ?_
    rintro e w2 ⟨rfl, rfl⟩
    rw [HVF.out]
    go_wp2_with fail
    refine (is_any (HE.out.below (b1.trans (below_drewN n)) (Nat.le_refl _)) (some 2) (by decide) 103).mono ?_
    rintro e w2 ⟨rfl, hb2⟩
    rw [(by decide : (errCode (some 2) == 103) = true)]
    go_wp2_with fail
    go_ret
    exact ⟨rfl, (b1.trans (below_drewN n)).trans (hb2.mono z1')⟩
  case pos =>
  obtain ⟨v0, v1, v2, v3⟩ := hv
  obtain ⟨S, rfl⟩ : ∃ S : Nat, start = (S : Int) := ⟨start.toNat, by omega⟩
  obtain ⟨Z0, rfl⟩ : ∃ Z0 : Nat, size = (Z0 : Int) := ⟨size.toNat, by omega⟩
  have HVT := Lib.hid (show decide (0 ≤ (S : Int) ∧ (S : Int) < 4096 ∧ 1 ≤ (Z0 : Int) ∧ (Z0 : Int) ≤ 64) = true from decide_eq_true ⟨v0, v1, v2, v3⟩)
  go_enter Tryd.func6, Tryd.ntmps6
  go_wp2_with fail
  refine (wfirst_any _).mono ?_
  rintro e w1 ⟨rfl, b1⟩
  have z1' := b1.size
  go_wp2_with fail
  refine (new_ok (S : Int) (Z0 : Int) w1 v0 v1 v2 v3).mono ?_
  rintro e w2 ⟨rfl, h2, b2⟩
  have z2 := b2.size
  have B2 := b1.trans (b2.mono z1')
  have hlt2 := h2.blk.lt
  have H2 := Lib.hid h2
  clear h2 b2
  go_wp2_with fail
  refine (valid_any (S : Int) (Z0 : Int) _).mono ?_
  rintro e w3 ⟨rfl, rfl⟩
  rw [HVT.out]
  by_cases hlen : len > 200
  · go_wp2_with fail
    go_ret
    exact ⟨rfl, B2⟩
  go_wp2_with fail
  refine (rnew_any S Z0 (by omega) w2).mono ?_
  rintro e w3 ⟨rfl, h3, b3⟩
  have hPW : PW w w3 w1.heap.size w2.heap.size none 0 none 0 Z0 S 0 [] := by
    have e1 : atD S 0 = (S : Int) := by unfold atD; omega
    refine ⟨?_, ⟨h3.blk, h3.own.base_le (by omega)⟩, hinv_start _ _ (by omega) (by omega), B2.trans (b3.mono (by omega)), ⟨z1', by omega⟩, by omega, fun k hk => by cases hk⟩
    have e : WH Z0 S 0 [] = ⟨(S : Int), (S : Int), (Z0 : Int), []⟩ := by simp only [WH, e1, List.map_nil]
    rw [e]
    have := H2.out.below b3 (Nat.le_refl _)
    exact ⟨this.blk, this.own.base_le z1'⟩
  have HP0 := Lib.hid hPW
  clear hPW h3 b3 B2 H2
  go_wp2_with fail
  go_loopw [11] (fun i wr => ∃ k : Nat, k ≤ len ∧ i = .int .i64 k ∧ ∃ A C A2 C2 Z st d ds, PW w wr w1.heap.size w2.heap.size A C A2 C2 Z st d ds) (fun i _ => len - (intOf i).toNat)
  case atStart => exact ⟨0, Nat.zero_le _, rfl, none, 0, none, 0, Z0, S, 0, [], HP0.out⟩
  case round =>
    obtain ⟨k, hk, rfl, A, C, A2, C2, Z, st, d, ds, hP⟩ := hrel
    have HP := Lib.hid hP
    have zr := hP.bel.size
    clear hP HP0
    by_cases hlt : k < len
    · obtain ⟨b1', off1, rfl, hb1, hc1, hok⟩ := HDo.out k hlt
      obtain ⟨x, hx⟩ : ∃ x, F k = x := ⟨_, rfl⟩
      rw [hx] at hc1 hok
      clear hx
      have g0' : w.cell? ⟨b1', off1 + k * 2, none⟩ = some (.int .i64 (x 0)) := hc1 0 _ rfl
      have g1' : w.cell? ⟨b1', off1 + k * 2 + 1, none⟩ = some (.int .i64 (x 1)) := hc1 1 _ rfl
      have hok1 := hok 1 (by omega)
      have hdl := HP.out.inv.len
      have hdz := HP.out.inv.dz
      have h64 := HP.out.inv.z64
      have hz1 := HP.out.z1
      have HOL := Lib.hid (show (WH Z st d ds).o.length = ds.length by simp [WH])
      have RM := Lib.hid (WH_room HP.out.inv)
      have nB := HP.out.wn.blk.lt
      have nX := HP.out.rw_.blk.lt
      have lB := HP.out.lo.1
      have lX := HP.out.lo.2
      clear hc1 hok
      go_wp2_with fail
      refine (cloneW_any HP.out.wn (by rw [HOL.out]; omega)).mono ?_
      rintro e w4 ⟨Ac, Cc, rfl, hcl, hb4⟩
      have HC4 := Lib.hid (show Blk w4 wr.heap.size #[.int .i64 (st : Int), .int .i64 (atD st d), .int .i64 (Z : Int), .slice Ac (WH Z st d ds).o.length Cc] 53 from hcl.blk)
      have HW4 := Lib.hid (HP.out.wn.below hb4 (Nat.le_refl _))
      have HR4 := Lib.hid (HP.out.rw_.below hb4 (Nat.le_refl _))
      have HB4 := Lib.hid (HP.out.bel.trans (hb4.mono zr))
      have z4 := HB4.out.size
      have g0 : w4.cell? ⟨b1', off1 + k * 2, none⟩ = some (.int .i64 (x 0)) := (HB4.out.cell (p := ⟨b1', off1 + k * 2, none⟩) hb1).trans g0'
      have g1 : w4.cell? ⟨b1', off1 + k * 2 + 1, none⟩ = some (.int .i64 (x 1)) := (HB4.out.cell (p := ⟨b1', off1 + k * 2 + 1, none⟩) hb1).trans g1'
      obtain ⟨nC, hnC⟩ : ∃ nC, wr.heap.size = nC := ⟨_, rfl⟩
      rw [hnC] at HC4 nB nX ⊢
      have nCB : nC ≠ w1.heap.size := by omega
      have nCX : nC ≠ w2.heap.size := by omega
      clear hcl hb4 g0' g1' hnC
      go_wp2_with fail
      refine (aheadC_any HC4.out).mono ?_
      rintro e w5 ⟨rfl, rfl⟩
      go_upto_block 2 with fail
      go_cut [13] from 64 to 188 (fun v wx => v = .int .i64 (atD st d) ∧ ∃ A C A2 C2 Z' st' d' ds', PW w wx w1.heap.size w2.heap.size A C A2 C2 Z' st' d' ds' ∧ Blk wx nC #[.int .i64 (st : Int), .int .i64 (atD st d), .int .i64 (Z : Int), .slice Ac (WH Z st d ds).o.length Cc] 53)
      case first =>
        by_cases hk1 : x 0 = 1
        · by_cases hroom : d < Z
          · go_wp2_with fail
            refine (next_yes HW4.out (by show (0 : Int) ≤ (Z : Int); omega) (by show (Z : Int) ≤ 1000000; omega) (by rw [RM.out]; omega) (by rw [HOL.out]; omega) z4).mono ?_
            rintro e w5 ⟨rfl, A5, C5, h5, t5, q5⟩
            rw [show (WH Z st d ds).nx = atD st d from rfl]
            obtain ⟨n1, n2⟩ := WH_next HP.out.inv hroom
            rw [n1] at h5
            have hr5 := cross_rw HW4.out HR4.out HP.out.sep t5
            have hc5 := blk_w HW4.out HC4.out nCB (by decide) t5
            have b5 := HB4.out.trans (HW4.out.belowT lB t5)
            have sep5 : ∀ q, blk A5 = some q → blk A2 ≠ some q := by
              intro q hq hq2
              rcases q5 q hq with e | e
              · exact HP.out.sep q e hq2
              · have := (HR4.out.own.ge q hq2).2; omega
            have HW5 := Lib.hid h5
            have HR5 := Lib.hid hr5
            have HC5 := Lib.hid hc5
            have HB5 := Lib.hid b5
            have HS5 := Lib.hid sep5
            clear h5 t5 q5 hr5 hc5 b5 sep5
            have NI := Lib.hid n2
            clear n1 n2
            go_wp2_with fail
            refine (rnext_yes HR5.out hroom (by omega) (by omega) HB5.out.size).mono ?_
            rintro e w6 ⟨rfl, A6, C6, h6, t6, q6⟩
            have hw6 := cross_wn HW5.out HR5.out HS5.out t6
            have HCF := Lib.hid (blk_x HR5.out HC5.out nCX (by decide) t6)
            have FIN := Lib.hid (show PW w w6 w1.heap.size w2.heap.size A5 C5 A6 C6 Z st (d + 1) (ds ++ [d]) from ⟨hw6, h6, NI.out, HB5.out.trans (HR5.out.belowT lX t6), ⟨lB, lX⟩, hz1, by
              intro q hq hq2
              rcases q6 q hq2 with e | e
              · exact HS5.out q hq e
              · have := (HW5.out.own.ge q hq).2; omega⟩)
            clear h6 t6 q6 hw6
            go_wp2_with fail
            go_meet
            case rel => exact ⟨rfl, _, _, _, _, _, _, _, _, FIN.out, HCF.out⟩
          · go_wp2_with fail
            refine (next_no HW4.out (by show (0 : Int) ≤ (Z : Int); omega) (by show (Z : Int) ≤ 1000000; omega) (by rw [RM.out]; omega)).mono ?_
            rintro e w5 ⟨rfl, n5, rfl⟩
            go_wp2_with fail
            refine (rnext_no (HR4.out.drewN n5) (by omega)).mono ?_
            rintro e w6 ⟨rfl, n6, rfl⟩
            have FIN := Lib.hid (show PW w (w4.drewN (n5 + n6)) w1.heap.size w2.heap.size A C A2 C2 Z st d ds from ⟨HW4.out.drewN _, HR4.out.drewN _, HP.out.inv, HB4.out.trans (below_drewN _), ⟨lB, lX⟩, hz1, HP.out.sep⟩)
            have HCF := Lib.hid (HC4.out.drewN (n5 + n6))
            go_wp2_with fail
            go_meet
            case rel => exact ⟨rfl, _, _, _, _, _, _, _, _, FIN.out, HCF.out⟩
        by_cases hk2 : x 0 = 2
        · have NN : Hid (∃ n, n = x 1) := Lib.hid ⟨_, rfl⟩
          by_cases hin : x 1 ∈ ds.map (atD st)
          · obtain ⟨y, hy0, hyn⟩ := List.mem_map.1 hin
            obtain ⟨i, hi⟩ := List.getElem?_of_mem hy0
            obtain ⟨f1, f2⟩ := WH_first HP.out.inv hi
            rw [hyn] at f1 f2
            have F1 := Lib.hid f1
            have F2 := Lib.hid f2
            have HI := Lib.hid hi
            have HYN := Lib.hid hyn
            clear f1 f2 hi hyn hy0 hin
            go_wp2_with fail
            refine (done_yes HW4.out (x 1) i F1.out F2.out (by rw [HOL.out]; omega) z4).mono ?_
            rintro e w5 ⟨rfl, A5, C5, h5, t5, q5⟩
            have hr5 := cross_rw HW4.out HR4.out HP.out.sep t5
            have hc5 := blk_w HW4.out HC4.out nCB (by decide) t5
            have b5 := HB4.out.trans (HW4.out.belowT lB t5)
            have sep5 : ∀ q, blk A5 = some q → blk A2 ≠ some q := by
              intro q hq hq2
              have := q5 q hq
              have := (HR4.out.own.ge q hq2).2; omega
            have HW5 := Lib.hid h5
            have HR5 := Lib.hid hr5
            have HC5 := Lib.hid hc5
            have HB5 := Lib.hid b5
            have HS5 := Lib.hid sep5
            clear h5 t5 q5 hr5 hc5 b5 sep5
            have hrd := rdone_yes HR5.out HP.out.inv HI.out HB5.out.size
            rw [HYN.out] at hrd
            have HRD := Lib.hid hrd
            clear hrd
            go_wp2_with fail
            refine HRD.out.mono ?_
            rintro e w6 ⟨rfl, A6, C6, hb6, ho6, t6, q6⟩
            obtain ⟨st', d', ds', n1, n2, hr6⟩ := done_both HP.out.inv hb6 ho6
            have hw6 := cross_wn HW5.out HR5.out HS5.out t6
            rw [n1] at hw6
            have hc6 := blk_x HR5.out HC5.out nCX (by decide) t6
            have fin : PW w w6 w1.heap.size w2.heap.size A5 C5 A6 C6 Z st' d' ds' := ⟨hw6, hr6, n2, HB5.out.trans (HR5.out.belowT lX t6), ⟨lB, lX⟩, hz1, by
              intro q hq hq2
              have := q6 q hq2
              have := (HW5.out.own.ge q hq).2; omega⟩
            have FN := Lib.hid fin
            have HC6 := Lib.hid hc6
            clear fin hc6 hw6 hr6 n1 n2 hb6 ho6 t6 q6
            go_wp2_with fail
            refine (is_any (HE.out.below FN.out.bel (Nat.le_refl _)) none (by intro i h; cases h) 0).mono ?_
            rintro e w7 ⟨rfl, hb7⟩
            rw [(by decide : (errCode none == 0) = true)]
            have FIN := Lib.hid (show PW w w7 w1.heap.size w2.heap.size A5 C5 A6 C6 Z st' d' ds' from ⟨FN.out.wn.below hb7 (Nat.le_refl _), FN.out.rw_.below hb7 (Nat.le_refl _), FN.out.inv, FN.out.bel.trans (hb7.mono FN.out.bel.size), FN.out.lo, FN.out.z1, FN.out.sep⟩)
            have HCF := Lib.hid (HC6.out.below hb7 HC6.out.lt)
            clear hb7
            go_wp2_with fail
            go_meet
            case rel => exact ⟨rfl, _, _, _, _, _, _, _, _, FIN.out, HCF.out⟩
          · have HIN := Lib.hid hin
            clear hin
            go_wp2_with fail
            refine (done_no HW4.out ((HE.out.below HB4.out (Nat.le_refl _)).cell 6 (by decide)) (x 1) HIN.out).mono ?_
            rintro e w5 ⟨rfl, rfl⟩
            go_wp2_with fail
            refine (rdone_no HR4.out (x 1) HIN.out).mono ?_
            rintro e w5 ⟨rfl, rfl⟩
            go_wp2_with fail
            refine (is_any (HE.out.below HB4.out (Nat.le_refl _)) (some 6) (by decide) 107).mono ?_
            rintro e w7 ⟨rfl, hb7⟩
            rw [(by decide : (errCode (some 6) == 107) = true)]
            have FIN := Lib.hid (show PW w w7 w1.heap.size w2.heap.size A C A2 C2 Z st d ds from ⟨HW4.out.below hb7 (Nat.le_refl _), HR4.out.below hb7 (Nat.le_refl _), HP.out.inv, HB4.out.trans (hb7.mono z4), ⟨lB, lX⟩, hz1, HP.out.sep⟩)
            have HCF := Lib.hid (HC4.out.below hb7 HC4.out.lt)
            clear hb7
            go_wp2_with fail
            go_meet
            case rel => exact ⟨rfl, _, _, _, _, _, _, _, _, FIN.out, HCF.out⟩
        by_cases hk3 : x 0 = 3
        · have r3 := HR4.out.c3
          by_cases hpos : 0 < ds.length
          · obtain ⟨j, hj, ej⟩ := number_nat (x 1) ds.length hpos
            obtain ⟨yy, hyy⟩ : ∃ yy, ds[j]? = some yy := ⟨_, List.getElem?_eq_getElem hj⟩
            have cN := Lib.hid (show ∀ n, Calls Tryd.prog 8 #[.int .i64 (x 1), .int .i64 (ds.length : Int)] (w4.drewN n) fun e w'' => e = .returned (.int .i64 (j : Int)) ∧ ∃ m, w'' = w4.drewN m from fun n => quiet_same (by have := number_any (x 1) (ds.length : Int) (w4.drewN n) (by omega) (by omega) hok1.1 hok1.2; rw [ej] at this; exact this))
            obtain ⟨gg, hgg, _, _, hCC, hcc, _, _⟩ := HR4.out.own.open_ hpos
            have cj : w4.cell? ⟨gg, j, none⟩ = some (.int .i64 (atD st yy)) := hcc j _ (by rw [List.getElem?_map, hyy]; rfl)
            rw [hgg] at r3
            clear ej hcc hyy
            go_wp2_with fail
            go_quiet ((go_at_call 8; (with_reducible exact cN.out _)))
            rename_i nq
            obtain ⟨w9, hw9⟩ : ∃ w9, w9 = w4.drewN nq := ⟨_, rfl⟩
            rw [← hw9]
            have HW9 := Lib.hid (show Wn w9 w.heap.size w1.heap.size A C (WH Z st d ds) by rw [hw9]; exact HW4.out.drewN nq)
            have HR9 := Lib.hid (show RWn w9 w.heap.size w2.heap.size A2 C2 Z st d ds by rw [hw9]; exact HR4.out.drewN nq)
            have HC9 := Lib.hid (show Blk w9 nC #[.int .i64 (st : Int), .int .i64 (atD st d), .int .i64 (Z : Int), .slice Ac (WH Z st d ds).o.length Cc] 53 by rw [hw9]; exact HC4.out.drewN nq)
            have HB9 := Lib.hid (show Below w.heap.size w w9 by rw [hw9]; exact HB4.out.trans (below_drewN nq))
            clear hw9 HW4 HR4 HC4 HB4 cN cj r3 z4
            have HW4 := HW9
            have HR4 := HR9
            have HC4 := HC9
            have HB4 := HB9
            have z4 := HB4.out.size
            clear HW9 HR9 HC9 HB9
            have NN : Hid (∃ n, n = atD st yy) := Lib.hid ⟨_, rfl⟩
            by_cases hin : atD st yy ∈ ds.map (atD st)
            · obtain ⟨y, hy0, hyn⟩ := List.mem_map.1 hin
              obtain ⟨i, hi⟩ := List.getElem?_of_mem hy0
              obtain ⟨f1, f2⟩ := WH_first HP.out.inv hi
              rw [hyn] at f1 f2
              have F1 := Lib.hid f1
              have F2 := Lib.hid f2
              have HI := Lib.hid hi
              have HYN := Lib.hid hyn
              clear f1 f2 hi hyn hy0 hin
              go_wp2_with fail
              refine (done_yes HW4.out (atD st yy) i F1.out F2.out (by rw [HOL.out]; omega) z4).mono ?_
              rintro e w5 ⟨rfl, A5, C5, h5, t5, q5⟩
              have hr5 := cross_rw HW4.out HR4.out HP.out.sep t5
              have hc5 := blk_w HW4.out HC4.out nCB (by decide) t5
              have b5 := HB4.out.trans (HW4.out.belowT lB t5)
              have sep5 : ∀ q, blk A5 = some q → blk A2 ≠ some q := by
                intro q hq hq2
                have := q5 q hq
                have := (HR4.out.own.ge q hq2).2; omega
              have HW5 := Lib.hid h5
              have HR5 := Lib.hid hr5
              have HC5 := Lib.hid hc5
              have HB5 := Lib.hid b5
              have HS5 := Lib.hid sep5
              clear h5 t5 q5 hr5 hc5 b5 sep5
              have hrd := rdone_yes HR5.out HP.out.inv HI.out HB5.out.size
              rw [HYN.out] at hrd
              have HRD := Lib.hid hrd
              clear hrd
              go_wp2_with fail
              refine HRD.out.mono ?_
              rintro e w6 ⟨rfl, A6, C6, hb6, ho6, t6, q6⟩
              obtain ⟨st', d', ds', n1, n2, hr6⟩ := done_both HP.out.inv hb6 ho6
              have hw6 := cross_wn HW5.out HR5.out HS5.out t6
              rw [n1] at hw6
              have hc6 := blk_x HR5.out HC5.out nCX (by decide) t6
              have fin : PW w w6 w1.heap.size w2.heap.size A5 C5 A6 C6 Z st' d' ds' := ⟨hw6, hr6, n2, HB5.out.trans (HR5.out.belowT lX t6), ⟨lB, lX⟩, hz1, by
                intro q hq hq2
                have := q6 q hq2
                have := (HW5.out.own.ge q hq).2; omega⟩
              have FN := Lib.hid fin
              have HC6 := Lib.hid hc6
              clear fin hc6 hw6 hr6 n1 n2 hb6 ho6 t6 q6
              go_wp2_with fail
              refine (is_any (HE.out.below FN.out.bel (Nat.le_refl _)) none (by intro i h; cases h) 0).mono ?_
              rintro e w7 ⟨rfl, hb7⟩
              rw [(by decide : (errCode none == 0) = true)]
              have FIN := Lib.hid (show PW w w7 w1.heap.size w2.heap.size A5 C5 A6 C6 Z st' d' ds' from ⟨FN.out.wn.below hb7 (Nat.le_refl _), FN.out.rw_.below hb7 (Nat.le_refl _), FN.out.inv, FN.out.bel.trans (hb7.mono FN.out.bel.size), FN.out.lo, FN.out.z1, FN.out.sep⟩)
              have HCF := Lib.hid (HC6.out.below hb7 HC6.out.lt)
              clear hb7
              go_wp2_with fail
              go_meet
              case rel => exact ⟨rfl, _, _, _, _, _, _, _, _, FIN.out, HCF.out⟩
            · have HIN := Lib.hid hin
              clear hin
              go_wp2_with fail
              refine (done_no HW4.out ((HE.out.below HB4.out (Nat.le_refl _)).cell 6 (by decide)) (atD st yy) HIN.out).mono ?_
              rintro e w5 ⟨rfl, rfl⟩
              go_wp2_with fail
              refine (rdone_no HR4.out (atD st yy) HIN.out).mono ?_
              rintro e w5 ⟨rfl, rfl⟩
              go_wp2_with fail
              refine (is_any (HE.out.below HB4.out (Nat.le_refl _)) (some 6) (by decide) 107).mono ?_
              rintro e w7 ⟨rfl, hb7⟩
              rw [(by decide : (errCode (some 6) == 107) = true)]
              have FIN := Lib.hid (show PW w w7 w1.heap.size w2.heap.size A C A2 C2 Z st d ds from ⟨HW4.out.below hb7 (Nat.le_refl _), HR4.out.below hb7 (Nat.le_refl _), HP.out.inv, HB4.out.trans (hb7.mono z4), ⟨lB, lX⟩, hz1, HP.out.sep⟩)
              have HCF := Lib.hid (HC4.out.below hb7 HC4.out.lt)
              clear hb7
              go_wp2_with fail
              go_meet
              case rel => exact ⟨rfl, _, _, _, _, _, _, _, _, FIN.out, HCF.out⟩
          · have NN : Hid (∃ n, n = x 1) := Lib.hid ⟨_, rfl⟩
            by_cases hin : x 1 ∈ ds.map (atD st)
            · obtain ⟨y, hy0, hyn⟩ := List.mem_map.1 hin
              obtain ⟨i, hi⟩ := List.getElem?_of_mem hy0
              obtain ⟨f1, f2⟩ := WH_first HP.out.inv hi
              rw [hyn] at f1 f2
              have F1 := Lib.hid f1
              have F2 := Lib.hid f2
              have HI := Lib.hid hi
              have HYN := Lib.hid hyn
              clear f1 f2 hi hyn hy0 hin
              go_wp2_with fail
              refine (done_yes HW4.out (x 1) i F1.out F2.out (by rw [HOL.out]; omega) z4).mono ?_
              rintro e w5 ⟨rfl, A5, C5, h5, t5, q5⟩
              have hr5 := cross_rw HW4.out HR4.out HP.out.sep t5
              have hc5 := blk_w HW4.out HC4.out nCB (by decide) t5
              have b5 := HB4.out.trans (HW4.out.belowT lB t5)
              have sep5 : ∀ q, blk A5 = some q → blk A2 ≠ some q := by
                intro q hq hq2
                have := q5 q hq
                have := (HR4.out.own.ge q hq2).2; omega
              have HW5 := Lib.hid h5
              have HR5 := Lib.hid hr5
              have HC5 := Lib.hid hc5
              have HB5 := Lib.hid b5
              have HS5 := Lib.hid sep5
              clear h5 t5 q5 hr5 hc5 b5 sep5
              have hrd := rdone_yes HR5.out HP.out.inv HI.out HB5.out.size
              rw [HYN.out] at hrd
              have HRD := Lib.hid hrd
              clear hrd
              go_wp2_with fail
              refine HRD.out.mono ?_
              rintro e w6 ⟨rfl, A6, C6, hb6, ho6, t6, q6⟩
              obtain ⟨st', d', ds', n1, n2, hr6⟩ := done_both HP.out.inv hb6 ho6
              have hw6 := cross_wn HW5.out HR5.out HS5.out t6
              rw [n1] at hw6
              have hc6 := blk_x HR5.out HC5.out nCX (by decide) t6
              have fin : PW w w6 w1.heap.size w2.heap.size A5 C5 A6 C6 Z st' d' ds' := ⟨hw6, hr6, n2, HB5.out.trans (HR5.out.belowT lX t6), ⟨lB, lX⟩, hz1, by
                intro q hq hq2
                have := q6 q hq2
                have := (HW5.out.own.ge q hq).2; omega⟩
              have FN := Lib.hid fin
              have HC6 := Lib.hid hc6
              clear fin hc6 hw6 hr6 n1 n2 hb6 ho6 t6 q6
              go_wp2_with fail
              refine (is_any (HE.out.below FN.out.bel (Nat.le_refl _)) none (by intro i h; cases h) 0).mono ?_
              rintro e w7 ⟨rfl, hb7⟩
              rw [(by decide : (errCode none == 0) = true)]
              have FIN := Lib.hid (show PW w w7 w1.heap.size w2.heap.size A5 C5 A6 C6 Z st' d' ds' from ⟨FN.out.wn.below hb7 (Nat.le_refl _), FN.out.rw_.below hb7 (Nat.le_refl _), FN.out.inv, FN.out.bel.trans (hb7.mono FN.out.bel.size), FN.out.lo, FN.out.z1, FN.out.sep⟩)
              have HCF := Lib.hid (HC6.out.below hb7 HC6.out.lt)
              clear hb7
              go_wp2_with fail
              go_meet
              case rel => exact ⟨rfl, _, _, _, _, _, _, _, _, FIN.out, HCF.out⟩
            · have HIN := Lib.hid hin
              clear hin
              go_wp2_with fail
              refine (done_no HW4.out ((HE.out.below HB4.out (Nat.le_refl _)).cell 6 (by decide)) (x 1) HIN.out).mono ?_
              rintro e w5 ⟨rfl, rfl⟩
              go_wp2_with fail
              refine (rdone_no HR4.out (x 1) HIN.out).mono ?_
              rintro e w5 ⟨rfl, rfl⟩
              go_wp2_with fail
              refine (is_any (HE.out.below HB4.out (Nat.le_refl _)) (some 6) (by decide) 107).mono ?_
              rintro e w7 ⟨rfl, hb7⟩
              rw [(by decide : (errCode (some 6) == 107) = true)]
              have FIN := Lib.hid (show PW w w7 w1.heap.size w2.heap.size A C A2 C2 Z st d ds from ⟨HW4.out.below hb7 (Nat.le_refl _), HR4.out.below hb7 (Nat.le_refl _), HP.out.inv, HB4.out.trans (hb7.mono z4), ⟨lB, lX⟩, hz1, HP.out.sep⟩)
              have HCF := Lib.hid (HC4.out.below hb7 HC4.out.lt)
              clear hb7
              go_wp2_with fail
              go_meet
              case rel => exact ⟨rfl, _, _, _, _, _, _, _, _, FIN.out, HCF.out⟩
        · go_wp2_with fail
          refine (resize_any HW4.out ((HE.out.below HB4.out (Nat.le_refl _)).sub (by decide)) (x 1)).mono ?_
          rintro e w5 ⟨rfl, h5, t5⟩
          have hr5 := cross_rw HW4.out HR4.out HP.out.sep t5
          have hc5 := blk_w HW4.out HC4.out nCB (by decide) t5
          have b5 := HB4.out.trans (HW4.out.belowT lB t5)
          have HW5 := Lib.hid h5
          have HR5 := Lib.hid hr5
          have HC5 := Lib.hid hc5
          have HB5 := Lib.hid b5
          clear h5 t5 hr5 hc5 b5
          go_wp2_with fail
          refine (rresize_any HR5.out (x 1) Z).mono ?_
          rintro e w6 ⟨rfl, h6, t6⟩
          have hw6 := cross_wn HW5.out HR5.out HP.out.sep t6
          have hc6 := blk_x HR5.out HC5.out nCX (by decide) t6
          have b6 := HB5.out.trans (HR5.out.belowT lX t6)
          have fin : ∃ Z', PW w w6 w1.heap.size w2.heap.size A C A2 C2 Z' st d ds := by
            by_cases hr : rszR (WH Z st d ds) (x 1) = none
            · have hb : ¬ (x 1 < 1 ∨ x 1 > 64) := by
                intro hh; simp only [rszR] at hr; rw [if_pos hh] at hr; cases hr
              have hnl : ¬ 0 < (WH Z st d ds).o.length := by
                intro hh; simp only [rszR] at hr; rw [if_neg hb, if_pos hh] at hr; cases hr
              rw [HOL.out] at hnl
              have hnil : ds = [] := List.eq_nil_of_length_eq_zero (by omega)
              rw [hr, if_pos rfl] at h6
              simp only [rszS, hr, if_true] at hw6
              have hcast : (((x 1).toNat : Nat) : Int) = x 1 := by omega
              refine ⟨(x 1).toNat, ⟨?_, h6, ?_, b6, ⟨lB, lX⟩, by omega, HP.out.sep⟩⟩
              · have e : WH (x 1).toNat st d ds = { WH Z st d ds with sz := x 1 } := by simp only [WH, hcast]
                rw [e]; exact hw6
              · have hd0 := HP.out.inv.nil hnil
                subst hnil hd0
                exact hinv_start _ _ HP.out.inv.lt (by omega)
            · rw [if_neg hr] at h6
              simp only [rszS, if_neg hr] at hw6
              exact ⟨Z, hw6, h6, HP.out.inv, b6, ⟨lB, lX⟩, hz1, HP.out.sep⟩
          obtain ⟨Z', fin⟩ := fin
          have FN := Lib.hid fin
          have HC6 := Lib.hid hc6
          have HRA := Lib.hid (rsz_all (WH Z st d ds) (x 1))
          clear fin hc6 hw6 h6 t6 b6
          generalize rszR (WH Z st d ds) (x 1) = oR at *
          go_wp2_with fail
          refine (is_any (HE.out.below FN.out.bel (Nat.le_refl _)) oR HRA.out (errCode oR)).mono ?_
          rintro e w7 ⟨rfl, hb7⟩
          simp only [beq_self_eq_true]
          have FIN := Lib.hid (show PW w w7 w1.heap.size w2.heap.size A C A2 C2 Z' st d ds from ⟨FN.out.wn.below hb7 (Nat.le_refl _), FN.out.rw_.below hb7 (Nat.le_refl _), FN.out.inv, FN.out.bel.trans (hb7.mono FN.out.bel.size), FN.out.lo, FN.out.z1, FN.out.sep⟩)
          have HCF := Lib.hid (HC6.out.below hb7 HC6.out.lt)
          clear hb7
          go_wp2_with fail
          go_meet
          case rel => exact ⟨rfl, _, _, _, _, _, _, _, _, FIN.out, HCF.out⟩
      case rest =>
        obtain ⟨rfl, A, C, A2, C2, Z', st', d', ds', hP5, hC5⟩ := hcut
        have HP5 := Lib.hid hP5
        have HC5 := Lib.hid hC5
        clear hP5 hC5 HP HW4 HR4 HB4 HC4 RM HOL z4 g0 g1 hdl hdz h64
        have hdl := HP5.out.inv.len
        have hdz := HP5.out.inv.dz
        have h64 := HP5.out.inv.z64
        have zc := HP5.out.bel.size
        have HOL := Lib.hid (show (WH Z' st' d' ds').o.length = ds'.length by simp [WH])
        have s0 := HP5.out.rw_.c0
        have s2 := HP5.out.rw_.c2
        have s3 := HP5.out.rw_.c3
        go_wp2_with fail
        go_region_held3 (fun y => y.cell? ⟨w2.heap.size, 0, none⟩ = some (.int .i64 (st' : Int)) ∧ y.cell? ⟨w2.heap.size, 2, none⟩ = some (.int .i64 (Z' : Int)) ∧ y.cell? ⟨w2.heap.size, 3, none⟩ = some (.slice A2 ds'.length C2))
          (first | exact ⟨s0, s2, s3⟩ | exact ⟨Ra.c0, Ra.c2, Ra.c3⟩ | exact ⟨Rb.c0, Rb.c2, Rb.c3⟩ | exact ⟨Rd.c0, Rd.c2, Rd.c3⟩)
          (first
            | (go_at_call 14; refine (start_wh (w := wc.drew) (B := w1.heap.size) HP5.out.wn.drew).mono ?_; rintro e wx ⟨rfl, rfl⟩)
            | (go_at_call 12; refine (ahead_wh (w := wc.drew) (B := w1.heap.size) HP5.out.wn.drew).mono ?_; rintro e wx ⟨rfl, rfl⟩)
            | (go_at_call 25; refine (rahead_any (w := wc.drew) (HP5.out.rw_.drewN 1)).mono ?_; rintro e wa ⟨rfl, na, hwa⟩; have Wa : Wn wa w.heap.size w1.heap.size A C (WH Z' st' d' ds') := (by rw [hwa]; exact HP5.out.wn.drew.drewN na); have Ra : RWn wa w.heap.size w2.heap.size A2 C2 Z' st' d' ds' := (by rw [hwa]; exact (HP5.out.rw_.drewN 1).drewN na); have Ba : Below w.heap.size w wa := (by rw [hwa]; exact (Below.drew HP5.out.bel).trans (below_drewN na)); have Ca : Blk wa nC #[.int .i64 (st : Int), .int .i64 (atD st d), .int .i64 (Z : Int), .slice Ac (WH Z st d ds).o.length Cc] 53 := (by rw [hwa]; exact (HC5.out.drewN 1).drewN na); clear hwa)
            | (go_at_call 26; refine (size_wh Wa).mono ?_; rintro e wx ⟨rfl, rfl⟩)
            | (go_at_call 13; refine (out_wh Wa (by omega)).mono ?_; rintro e wb ⟨Ab, Cb, rfl, Ob, xb⟩; have Rb := Ra.below xb (Nat.le_refl _); have Bb := Ba.trans (xb.mono Ba.size); have Cb' := Ca.below xb Ca.lt; have Wb := Wa.below xb (Nat.le_refl _))
            | (go_at_call 27; refine (sameInts_any Ab A2 _ Cb C2 (ds'.map (atD st')) wb Ob.row Rb.own.row).mono ?_; rintro e wd ⟨rfl, nd, hwd⟩; have Wd : Wn wd w.heap.size w1.heap.size A C (WH Z' st' d' ds') := (by rw [hwd]; exact Wb.drewN nd); have Rd : RWn wd w.heap.size w2.heap.size A2 C2 Z' st' d' ds' := (by rw [hwd]; exact Rb.drewN nd); have Bd : Below w.heap.size w wd := (by rw [hwd]; exact Bb.trans (below_drewN nd)); have Cd : Blk wd nC #[.int .i64 (st : Int), .int .i64 (atD st d), .int .i64 (Z : Int), .slice Ac (WH Z st d ds).o.length Cc] 53 := (by rw [hwd]; exact Cb'.drewN nd); clear hwd)
            | (go_at_call 12; refine (aheadC_any Cd).mono ?_; rintro e wx ⟨rfl, rfl⟩))
        have FIN := Lib.hid (show PW w wd w1.heap.size w2.heap.size A C A2 C2 Z' st' d' ds' from ⟨Wd, Rd, HP5.out.inv, Bd, HP5.out.lo, HP5.out.z1, HP5.out.sep⟩)
        clear Wd Rd Bd Cd Wb Rb Bb Cb' Wa Ra Ba Ca
        go_wp2_with fail
        go_roundw
        case rel => first | exact ⟨k + 1, by omega, by go_num, _, _, _, _, _, _, _, _, FIN.out⟩ | ((repeat apply Exists.intro); exact ⟨⟨k + 1, by omega, by go_num, _, _, _, _, _, _, _, _, FIN.out⟩, rfl⟩)
        case measure => simp [intOf]; omega
    · go_wp2_with fail
      go_ret
      exact ⟨rfl, HP.out.bel⟩
end Go.Proofs.YtbelopffdpdojaaDoor
