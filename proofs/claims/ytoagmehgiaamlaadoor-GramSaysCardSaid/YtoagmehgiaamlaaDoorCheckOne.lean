/-
  gram.Check over its frames (one). Printed by gen_check.py.
-/
import Derived.Test.YtoagmehgiaamlaaDoorCheckNo
import Derived.Test.YtoagmehgiaamlaaDoorGramApp
import Derived.Test.YtoagmehgiaamlaaDoorMg
namespace Go.Proofs.YtoagmehgiaamlaaDoor
open Go.ChangeShapes Go.WideShapes Go.ChangeAt Go.RowKit
set_option linter.unusedVariables false

set_option maxRecDepth 100000 in
set_option maxHeartbeats 8000000 in
theorem check_one {w : World} {E : Nat → Addr} (hE : Errs allErr w E) (m : RulesP) (A : Option Addr) (n C : Nat) (b : List UInt8) (h : Row w 1 A n C (b.map u8v)) (hn : n ≤ 1048576) :
    Calls Tryd.prog 11 #[ruv m, .bool false, .slice A n C] w fun e w' => CheckR w E (allR m false n [b]) e w' := by
  have HE := Lib.hid hE
  have HN := Lib.hid hn
  have HBL := Lib.hid (show b.length = n by simpa using h.1)
  have hr1 : RowP (((w.alloc (.cells (rucells m) 30)).alloc (.cells zsent 40)).alloc (.cells #[.slice A n C] 22)) (some ⟨((w.alloc (.cells (rucells m) 30)).alloc (.cells zsent 40)).heap.size, 0, none⟩) 1 1 [b] :=
    rowP_one _ A n C b HBL.out ((h.alloc _).alloc _) _
  rw [show ((w.alloc (.cells (rucells m) 30)).alloc (.cells zsent 40)).heap.size = w.heap.size + 1 + 1 by simp] at hr1
  have hm1 : Blk (((w.alloc (.cells (rucells m) 30)).alloc (.cells zsent 40)).alloc (.cells #[.slice A n C] 22)) w.heap.size (rucells m) 30 := ((Blk.new w _ _).alloc _).alloc _
  have hz1 := (Blk.new (w.alloc (.cells (rucells m) 30)) zsent 40).alloc (.cells #[.slice A n C] 22)
  rw [show (w.alloc (.cells (rucells m) 30)).heap.size = w.heap.size + 1 by simp] at hz1
  have hb1 : Below w.heap.size w (((w.alloc (.cells (rucells m) 30)).alloc (.cells zsent 40)).alloc (.cells #[.slice A n C] 22)) := (((Below.refl _ _).alloc (Nat.le_refl _) _).alloc (by simp) _).alloc (by simp; omega) _
  have hpo : (((w.alloc (.cells (rucells m) 30)).alloc (.cells zsent 40)).alloc (.cells #[.slice A n C] 22)).heap.size = w.heap.size + 1 + 1 + 1 := by simp
  have hch := chk_start _ _ hpo
  have HRP := Lib.hid hr1
  have HM := Lib.hid hm1
  have HZ := Lib.hid hz1
  have HBP := Lib.hid hb1
  have HPO := Lib.hid hpo
  have HCH := Lib.hid hch
  have HLC := Lib.hid (show (1 : Nat) ≤ 64 by decide)
  have HLN := Lib.hid (show ([b] : List (List UInt8)).length = 1 from rfl)
  rw [zsent_eq] at HRP HM HZ HBP HPO HCH
  clear hE h hn hr1 hm1 hz1 hb1 hpo hch
  unfold ruv
  go_enter Tryd.func11, Tryd.ntmps11
  go_wp2_with fail
  generalize (((w.alloc _).alloc _).alloc _).alloc _ = W at *
  generalize ((w.alloc _).alloc _).alloc _ = WP at *
  have HLW := Lib.hid (show w.heap.size + 1 < (w.heap.size + 1 + 1 + 1) by omega)
  go_loopw [11, 36] (fun lv iv wr => ∃ (i : Nat) (s : SentP) (l : Option URead) (A1 : Option Addr) (C1 : Nat) (A2 : Option Addr) (C2 : Nat) (A3 : Option Addr) (C3 : Nat), i ≤ 1 ∧ iv = .int .i64 i ∧ (s.seqs.length = i ∧ s.retry.length = i ∧ s.bodies.length = i) ∧ LastS wr lv l ∧ ChkT WP (w.heap.size + 1 + 1 + 1) s A1 C1 A2 C2 A3 C3 wr ∧ sentL m [b] 0 noSent none = sentL m ([b].drop i) i s l)
    (fun _ iv _ => 1 - (intOf iv).toNat)
  case atStart => exact ⟨0, noSent, none, none, 0, none, 0, none, 0, Nat.zero_le _, rfl, ⟨rfl, rfl, rfl⟩, rfl, HCH.out, rfl⟩
  case round =>
    obtain ⟨i, s, l, A1, C1, A2, C2, A3, C3, hi, rfl, hlen, hl, hS, hU⟩ := hrel
    have HS := Lib.hid hS
    have HLS := Lib.hid hl
    have HU := Lib.hid hU
    have HLEN := Lib.hid hlen
    have HI := Lib.hid hi
    have z1 : (w.heap.size + 1 + 1 + 1) < wr.heap.size := hS.out.lt
    have HBW := Lib.hid (HBP.out.trans (hS.bel.mono (by have := HLW.out; omega)))
    have HZW := Lib.hid (HZ.out.below hS.bel HLW.out)
    have HMW := Lib.hid (HM.out.below hS.bel (by have := HLW.out; omega))
    clear hl hS hU hlen
    by_cases hi1 : i < 1
    case pos =>
      have HRW := Lib.hid (HRP.out.below HS.out.bel (Nat.le_of_eq HPO.out))
      obtain ⟨b1, o1, x, A5, C5, e5, l5, hx, c5, r5⟩ := HRW.out.at_ hi1
      injection e5 with e5; injection e5 with e51 e52; subst e51 e52; rw [Nat.zero_add] at c5
      have q1 : (i : Int) < (1 : Int) := by omega
      have q2 : IntKind.i64.wrap ((i : Int) + 1) = (i : Int) + 1 := IntWalk.i64_in _ (by have := HLC.out; omega)
      have HX := Lib.hid (drop_of_get hx)
      have HI1 := Lib.hid hi1
      clear hi hi1 hx
      go_wp2_with fail
      have HC := Lib.hid (readU A5 x.length C5 x wr ((HE.out.below HBW.out (Nat.le_refl _)).sub (by decide)) r5)
      rcases hrd : rdErr x with _ | c
      case none =>
        have HRD := Lib.hid hrd
        rw [hrd] at HC
        have HC2 := HC.out
        simp only [errO] at HC2
        have HC := Lib.hid HC2
        clear HC2
        have g1 : ∀ w, (eqGuard .eql 42 (.tmp 46) (.const .nilIface) .nilIface .nilIface).run Tryd.prog w = .ok () w := fun w => err_guard E none (.tmp 46) .nilIface w
        clear hrd c5 r5
        obtain ⟨u, hu⟩ : ∃ u, uread x = u := ⟨_, rfl⟩
        rw [hu] at HC
        have HUX := Lib.hid hu
        clear hu
        refine HC.out.mono ?_
        rintro e w2 ⟨A6, n6, C6, rfl, ho6, hb6⟩
        have HS2 := Lib.hid (ChkW.below HS.out hb6)
        have HL2 := Lib.hid (lastS_below HLS.out hb6)
        have hM2 := HMW.out.below hb6 HMW.out.lt
        have z2 := hb6.size
        have HB2 := Lib.hid hb6
        have HO6 := Lib.hid (ho6.base_le (b' := (w.heap.size + 1 + 1 + 1)) (by omega))
        clear ho6 hb6
        unfold uv
        go_wp2_with (first
          | (refine wpList_store_blk _ (by rfl) 35 _ _ rfl w2.heap.size _ rfl rfl 35 _ (Blk.new _ _ _) (by kernel_rfl) rfl (qcells_one _ _ _ _ _ _ _ _ _) ?_; intro w3 hk3 hg3; have hb23 : Below w2.heap.size w2 w3 := Below.grown ((Below.refl _ _).alloc (Nat.le_refl _) _) hg3 (by simp) (by simp); have HS3 := Lib.hid (ChkW.below HS2.out hb23); have HL3 := Lib.hid (lastS_below HL2.out hb23); have HM3 := Lib.hid (hM2.below hb23 hM2.lt); have HO3 := Lib.hid (HO6.out.below hb23 (Nat.le_refl _)); have HB3 := Lib.hid (HB2.out.trans (hb23.mono z2)); have HK3 := Lib.hid hk3; clear hk3 hg3 hb23)
          | (refine wpList_load_blk _ (by rfl) 30 _ rfl w.heap.size rfl 30 _ _ HM3.out Tryd.underlying30 rfl (by kernel_rfl) ?_)
          | (refine wpList_load_blk _ (by rfl) 35 _ rfl w2.heap.size rfl 35 _ _ HK3.out Tryd.underlying35 rfl (by kernel_rfl) ?_))
        have HPT := Lib.hid (gpart_any ((HE.out.below (HBW.out.trans (HB3.out.mono (by have := HLW.out; omega))) (Nat.le_refl _)).sub (by decide)) m u A6 n6 C6 _ l HL3.out)
        rcases hpg : partG m u l with _ | c
        case some =>
          have HPG := Lib.hid hpg
          rw [hpg] at HPT
          have HC2 := HPT.out
          simp only [errO, errV] at HC2
          have HPT := Lib.hid HC2
          clear HC2 hpg
          have g2 : ∀ w, (eqGuard .neq 42 (.tmp 52) (.const .nilIface) (.iface 122 (.pointer (some (E c)))) .nilIface).run Tryd.prog w = .ok () w := fun w => err_guard' E (some c) (.tmp 52) .nilIface w
          have e2 : ∀ w, (binOp .neq 42 (.iface 122 (.pointer (some (E c)))) .nilIface).run Tryd.prog w = .ok (.bool true) w := fun w => err_nonnil E (some c) w
          refine HPT.out.mono ?_
          rintro e w4 ⟨rfl, hb4⟩
          have HZ4 := Lib.hid (HZW.out.below (HB3.out.trans (hb4.mono HB3.out.size)) HZW.out.lt)
          have HB4 := Lib.hid (HB3.out.trans (hb4.mono HB3.out.size))
          clear hb4
          go_wp2_with (refine wpList_store_blk _ (by rfl) 40 _ _ rfl (w.heap.size + 1) zsent rfl rfl 40 _ (HZ4.out.alloc _) (by kernel_rfl) rfl (by kernel_rfl) ?_; intro w5 hk4 hg4)
          have HP := Lib.hid (show allR m false n [b] = .placed c i by unfold allR; rw [HU.out, HX.out, sent_amiss HRD.out (by rw [HUX.out]; exact HPG.out)])
          have z5 := HB4.out.size
          refine ret_cell_tmp rfl _ _ zsent (atV w4.heap.size) rfl hk4 (by kernel_rfl) (by kernel_rfl) rfl rfl ?_
          rw [HP.out]
          exact ⟨w4.heap.size, rfl, (Blk.new _ _ _).grown hg4 (by simp; have := HLW.out; omega), by have := HLW.out; omega, Below.grown ((HBW.out.trans (HB4.out.mono (by have := HLW.out; omega))).alloc (by have := HLW.out; omega) _) hg4 (by simp; have := HLW.out; omega) (by simp)⟩
        case none =>
          have HPG := Lib.hid hpg
          rw [hpg] at HPT
          have HC2 := HPT.out
          simp only [errO] at HC2
          have HPT := Lib.hid HC2
          clear HC2 hpg
          have g2 : ∀ w, (eqGuard .neq 42 (.tmp 52) (.const .nilIface) .nilIface .nilIface).run Tryd.prog w = .ok () w := fun w => err_guard' E none (.tmp 52) .nilIface w
          refine HPT.out.mono ?_
          rintro e w4 ⟨rfl, hb4⟩
          have HSN := Lib.hid (show sentL m (x :: [b].drop (i + 1)) i s l = sentL m ([b].drop (i + 1)) (i + 1) (sentS s u) (some u) by rw [sent_next HRD.out (by rw [HUX.out]; exact HPG.out), HUX.out])
          have hA := AppS.drew (AppS.below (ChkW.app HS3.out HK3.out HO3.out) hb4)
          have HBL4 := Lib.hid (HB3.out.trans (hb4.mono HB3.out.size))
          have zz : w.heap.size ≤ w4.heap.size := by have := HBL4.out.size; have := HLW.out; omega
          clear hb4
          obtain ⟨n1, hn1⟩ : ∃ n1, s.seqs.length = n1 := ⟨_, rfl⟩
          obtain ⟨n2, hn2⟩ : ∃ n2, s.retry.length = n2 := ⟨_, rfl⟩
          obtain ⟨n3, hn3⟩ : ∃ n3, s.bodies.length = n3 := ⟨_, rfl⟩
          have HN1 := Lib.hid hn1
          have HN2 := Lib.hid hn2
          have HN3 := Lib.hid hn3
          rw [hn1, hn2, hn3] at hA
          clear hn1 hn2 hn3
          generalize w2.heap.size = pf at *
          go_wp2_with fail
          refine wp_region_held_drew (S := fun w' => w'.cell? ⟨pf, 18, none⟩ = some (.int .i64 u.tid) ∧ w'.cell? ⟨pf, 21, none⟩ = some (.bool u.m) ∧ w'.cell? ⟨pf, 22, none⟩ = some (.bool u.e)) (by kernel_rfl) (AppS.s19 hA) (fun hHeld => ?_)
          generalize w4.drew = V0 at *
          refine wpAnyH_take (i := 0) (oi := { dst := some 60, op := _, type := _, pos := _, after := _, guard := none }) (v := ?v0a) rfl (by kernel_rfl) (by kernel_rfl) (by kernel_rfl) (fun _ _ _ h => h) (Or.inl ⟨by rfl, ?y0a⟩) (by assumption) ?r0a
          (case y0a => intro w hSw; (try dsimp only at hSw); go_simp; try with_reducible rfl)
          try simp only [Act.put, List.setIfInBounds_toArray, List.set_cons_zero, List.set_cons_succ]
          refine wpAnyH_take (i := 1) (oi := { dst := some 61, op := _, type := _, pos := _, after := _, guard := none }) (v := ?v1a) rfl (by kernel_rfl) (by kernel_rfl) (by kernel_rfl) (fun _ _ _ h => h) (Or.inl ⟨by rfl, ?y1a⟩) (by assumption) ?r1a
          (case y1a => intro w hSw; (try dsimp only at hSw); go_simp; try with_reducible rfl)
          try simp only [Act.put, List.setIfInBounds_toArray, List.set_cons_zero, List.set_cons_succ]
          refine wpAnyH_take (i := 2) (oi := { dst := some 62, op := _, type := _, pos := _, after := _, guard := none }) (v := ?v2a) rfl (by kernel_rfl) (by kernel_rfl) (by kernel_rfl) (fun _ _ _ h => h) (Or.inl ⟨by rfl, ?y2a⟩) (by assumption) ?r2a
          (case y2a => intro w hSw; (try dsimp only at hSw); go_simp; try with_reducible rfl)
          try simp only [Act.put, List.setIfInBounds_toArray, List.set_cons_zero, List.set_cons_succ]
          refine wpAnyH_take (i := 3) (oi := { dst := some 63, op := _, type := _, pos := _, after := _, guard := none }) (v := ?v3a) rfl (by kernel_rfl) (by kernel_rfl) (by kernel_rfl) (fun _ _ _ h => h) (Or.inl ⟨by rfl, ?y3a⟩) (by assumption) ?r3a
          (case y3a => intro w hSw; (try dsimp only at hSw); go_simp; try with_reducible rfl)
          try simp only [Act.put, List.setIfInBounds_toArray, List.set_cons_zero, List.set_cons_succ]
          refine wpAnyH_take (i := 4) (oi := { dst := some 64, op := _, type := _, pos := _, after := _, guard := none }) (v := ?v4a) rfl (by kernel_rfl) (by kernel_rfl) (by kernel_rfl) (fun _ _ _ h => h) (Or.inl ⟨by rfl, ?y4a⟩) (by assumption) ?r4a
          (case y4a => intro w hSw; (try dsimp only at hSw); go_simp; try with_reducible rfl)
          try simp only [Act.put, List.setIfInBounds_toArray, List.set_cons_zero, List.set_cons_succ]
          refine wpAnyH_take (i := 5) (oi := { dst := some 65, op := _, type := _, pos := _, after := _, guard := none }) (v := ?v5a) rfl (by kernel_rfl) (by kernel_rfl) (by kernel_rfl) (fun _ _ _ h => h) (Or.inl ⟨by rfl, ?y5a⟩) (by assumption) ?r5a
          (case y5a => intro w hSw; (try dsimp only at hSw); go_simp; try with_reducible rfl)
          try simp only [Act.put, List.setIfInBounds_toArray, List.set_cons_zero, List.set_cons_succ]
          refine wpAnyH_take (i := 6) (oi := { dst := some 66, op := _, type := _, pos := _, after := _, guard := none }) (v := ?v6a) rfl (by kernel_rfl) (by kernel_rfl) (by kernel_rfl) (fun _ _ _ h => h) (Or.inl ⟨by rfl, ?y6a⟩) (by assumption) ?r6a
          (case y6a => intro w hSw; (try dsimp only at hSw); go_simp; try with_reducible rfl)
          try simp only [Act.put, List.setIfInBounds_toArray, List.set_cons_zero, List.set_cons_succ]
          have cc7 := hA.out.cell 0
          have cf7 := hA.out.frozen 0
          unfold sentcells at cc7
          simp only [List.getElem?_toArray, List.getElem?_cons_zero, List.getElem?_cons_succ] at cc7
          refine wpAnyH_ready (rs := [7]) (by kernel_rfl) (by simp) ?_
          refine AllReadyH.cons (o := { dst := none, op := _, type := _, pos := _, after := _, guard := none }) rfl (fun K hK => ?_) AllReadyH.nil
          go_simp
          have hA7 := hA.set_ 0 (.int .i64 u.tid)
          rw [sc0] at hA7
          refine hK.out _ _ (AppS.s19 hA7) (fun hHeld7 => ?_)
          clear hK cc7 cf7
          try simp only [Act.put, List.setIfInBounds_toArray, List.set_cons_zero, List.set_cons_succ]
          generalize V0.setCell _ _ = V7 at *
          refine wpAnyH_take (i := 8) (oi := { dst := some 67, op := _, type := _, pos := _, after := _, guard := none }) (v := ?v8a) rfl (by kernel_rfl) (by kernel_rfl) (by kernel_rfl) (fun _ _ _ h => h) (Or.inl ⟨by rfl, ?y8a⟩) (by assumption) ?r8a
          (case y8a => intro w hSw; (try dsimp only at hSw); go_simp; try with_reducible rfl)
          try simp only [Act.put, List.setIfInBounds_toArray, List.set_cons_zero, List.set_cons_succ]
          have cc9 := hA7.out.cell 3
          have cf9 := hA7.out.frozen 3
          unfold sentcells at cc9
          simp only [List.getElem?_toArray, List.getElem?_cons_zero, List.getElem?_cons_succ] at cc9
          refine wpAnyH_ready (rs := [9]) (by kernel_rfl) (by simp) ?_
          refine AllReadyH.cons (o := { dst := none, op := _, type := _, pos := _, after := _, guard := none }) rfl (fun K hK => ?_) AllReadyH.nil
          go_simp
          have hA9 := hA7.set_ 3 (.bool u.m)
          rw [sc3] at hA9
          refine hK.out _ _ (AppS.s19 hA9) (fun hHeld9 => ?_)
          clear hK cc9 cf9
          try simp only [Act.put, List.setIfInBounds_toArray, List.set_cons_zero, List.set_cons_succ]
          generalize V7.setCell _ _ = V9 at *
          refine wpAnyH_take (i := 10) (oi := { dst := some 68, op := _, type := _, pos := _, after := _, guard := none }) (v := ?v10a) rfl (by kernel_rfl) (by kernel_rfl) (by kernel_rfl) (fun _ _ _ h => h) (Or.inl ⟨by rfl, ?y10a⟩) (by assumption) ?r10a
          (case y10a => intro w hSw; (try dsimp only at hSw); go_simp; try with_reducible rfl)
          try simp only [Act.put, List.setIfInBounds_toArray, List.set_cons_zero, List.set_cons_succ]
          have cc11 := hA9.out.cell 4
          have cf11 := hA9.out.frozen 4
          unfold sentcells at cc11
          simp only [List.getElem?_toArray, List.getElem?_cons_zero, List.getElem?_cons_succ] at cc11
          refine wpAnyH_ready (rs := [11]) (by kernel_rfl) (by simp) ?_
          refine AllReadyH.cons (o := { dst := none, op := _, type := _, pos := _, after := _, guard := none }) rfl (fun K hK => ?_) AllReadyH.nil
          go_simp
          have hA11 := hA9.set_ 4 (.bool u.e)
          rw [sc4] at hA11
          refine hK.out _ _ (AppS.s19 hA11) (fun hHeld11 => ?_)
          clear hK cc11 cf11
          try simp only [Act.put, List.setIfInBounds_toArray, List.set_cons_zero, List.set_cons_succ]
          generalize V9.setCell _ _ = V11 at *
          refine wpAnyH_done (by kernel_rfl) ?_ _
          clear hHeld hHeld7 hHeld9 hHeld11 hA hA7 hA9
          go_wp2_with fail
          have hA0 := AppS.drew hA11
          refine till_start 19 (fun w' => w'.cell? ⟨(w.heap.size + 1 + 1 + 1), 1, none⟩ = some (.slice A1 n1 C1) ∧ w'.cell? ⟨(w.heap.size + 1 + 1 + 1), 2, none⟩ = some (.slice A2 n2 C2) ∧ w'.cell? ⟨(w.heap.size + 1 + 1 + 1), 5, none⟩ = some (.slice A3 n3 C3) ∧ w'.cell? ⟨pf, 19, none⟩ = some (.int .i64 u.seq) ∧ w'.cell? ⟨pf, 20, none⟩ = some (.bool u.r) ∧ w'.cell? ⟨pf, 23, none⟩ = some (.slice A6 n6 C6)) (by kernel_rfl) (AppS.s20 hA0) (fun hHeld => ?_)
          clear hA11
          generalize V11.drew = U0 at *
          refine till_take [] (i := 0) (oi := { dst := some 69, op := _, type := _, pos := _, after := _, guard := none }) (v := ?v0b) rfl (by kernel_rfl) (by kernel_rfl) (by kernel_rfl) (by kernel_rfl) (by kernel_rfl) (fun _ _ _ h => h) (Or.inl ⟨by rfl, ?y0b⟩) (by assumption) ?r0b
          (case y0b => intro w hSw; (try dsimp only at hSw); go_simp; try with_reducible rfl)
          try simp only [Act.put, List.setIfInBounds_toArray, List.set_cons_zero, List.set_cons_succ]
          refine till_take [] (i := 1) (oi := { dst := some 70, op := _, type := _, pos := _, after := _, guard := none }) (v := ?v1b) rfl (by kernel_rfl) (by kernel_rfl) (by kernel_rfl) (by kernel_rfl) (by kernel_rfl) (fun _ _ _ h => h) (Or.inl ⟨by rfl, ?y1b⟩) (by assumption) ?r1b
          (case y1b => intro w hSw; (try dsimp only at hSw); go_simp; try with_reducible rfl)
          try simp only [Act.put, List.setIfInBounds_toArray, List.set_cons_zero, List.set_cons_succ]
          refine till_take [] (i := 2) (oi := { dst := some 71, op := _, type := _, pos := _, after := _, guard := none }) (v := ?v2b) rfl (by kernel_rfl) (by kernel_rfl) (by kernel_rfl) (by kernel_rfl) (by kernel_rfl) (fun _ _ _ h => h) (Or.inl ⟨by rfl, ?y2b⟩) (by assumption) ?r2b
          (case y2b => intro w hSw; (try dsimp only at hSw); go_simp; try with_reducible rfl)
          try simp only [Act.put, List.setIfInBounds_toArray, List.set_cons_zero, List.set_cons_succ]
          refine till_take [] (i := 3) (oi := { dst := some 72, op := _, type := _, pos := _, after := _, guard := none }) (v := ?v3b) rfl (by kernel_rfl) (by kernel_rfl) (by kernel_rfl) (by kernel_rfl) (by kernel_rfl) (fun _ _ _ h => h) (Or.inl ⟨by rfl, ?y3b⟩) (by assumption) ?r3b
          (case y3b => intro w hSw; (try dsimp only at hSw); go_simp; try with_reducible rfl)
          try simp only [Act.put, List.setIfInBounds_toArray, List.set_cons_zero, List.set_cons_succ]
          refine till_take [] (i := 6) (oi := { dst := some 75, op := _, type := _, pos := _, after := _, guard := none }) (v := ?v6b) rfl (by kernel_rfl) (by kernel_rfl) (by kernel_rfl) (by kernel_rfl) (by kernel_rfl) (fun _ _ _ h => h) (Or.inl ⟨by rfl, ?y6b⟩) (by assumption) ?r6b
          (case y6b => intro w hSw; (try dsimp only at hSw); go_simp; try with_reducible rfl)
          try simp only [Act.put, List.setIfInBounds_toArray, List.set_cons_zero, List.set_cons_succ]
          refine till_take [] (i := 7) (oi := { dst := some 76, op := _, type := _, pos := _, after := _, guard := none }) (v := ?v7b) rfl (by kernel_rfl) (by kernel_rfl) (by kernel_rfl) (by kernel_rfl) (by kernel_rfl) (fun _ _ _ h => h) (Or.inl ⟨by rfl, ?y7b⟩) (by assumption) ?r7b
          (case y7b => intro w hSw; (try dsimp only at hSw); go_simp; try with_reducible rfl)
          try simp only [Act.put, List.setIfInBounds_toArray, List.set_cons_zero, List.set_cons_succ]
          refine till_take [17, 11, 10, 9] (i := 8) (oi := { dst := some 77, op := _, type := _, pos := _, after := _, guard := none }) (v := ?v8b) rfl (by kernel_rfl) (by kernel_rfl) (by kernel_rfl) (by kernel_rfl) (by kernel_rfl) (fun _ _ _ h => h) (Or.inl ⟨by rfl, ?y8b⟩) (by assumption) ?r8b
          (case y8b => intro w hSw; (try dsimp only at hSw); go_simp; try with_reducible rfl)
          try simp only [Act.put, List.setIfInBounds_toArray, List.set_cons_zero, List.set_cons_succ]
          refine till_take [17, 11, 10] (i := 9) (oi := { dst := some 78, op := _, type := _, pos := _, after := _, guard := none }) (v := ?v9b) rfl (by kernel_rfl) (by kernel_rfl) (by kernel_rfl) (by kernel_rfl) (by kernel_rfl) (fun _ _ _ h => h) (Or.inl ⟨by rfl, ?y9b⟩) (by assumption) ?r9b
          (case y9b => intro w hSw; (try dsimp only at hSw); go_simp; try with_reducible rfl)
          try simp only [Act.put, List.setIfInBounds_toArray, List.set_cons_zero, List.set_cons_succ]
          refine till_take [] (i := 12) (oi := { dst := some 81, op := _, type := _, pos := _, after := _, guard := none }) (v := ?v12b) rfl (by kernel_rfl) (by kernel_rfl) (by kernel_rfl) (by kernel_rfl) (by kernel_rfl) (fun _ _ _ h => h) (Or.inl ⟨by rfl, ?y12b⟩) (by assumption) ?r12b
          (case y12b => intro w hSw; (try dsimp only at hSw); go_simp; try with_reducible rfl)
          try simp only [Act.put, List.setIfInBounds_toArray, List.set_cons_zero, List.set_cons_succ]
          refine till_take [] (i := 13) (oi := { dst := some 82, op := _, type := _, pos := _, after := _, guard := none }) (v := ?v13b) rfl (by kernel_rfl) (by kernel_rfl) (by kernel_rfl) (by kernel_rfl) (by kernel_rfl) (fun _ _ _ h => h) (Or.inl ⟨by rfl, ?y13b⟩) (by assumption) ?r13b
          (case y13b => intro w hSw; (try dsimp only at hSw); go_simp; try with_reducible rfl)
          try simp only [Act.put, List.setIfInBounds_toArray, List.set_cons_zero, List.set_cons_succ]
          refine till_take [17, 16, 15] (i := 14) (oi := { dst := some 83, op := _, type := _, pos := _, after := _, guard := none }) (v := ?v14b) rfl (by kernel_rfl) (by kernel_rfl) (by kernel_rfl) (by kernel_rfl) (by kernel_rfl) (fun _ _ _ h => h) (Or.inl ⟨by rfl, ?y14b⟩) (by assumption) ?r14b
          (case y14b => intro w hSw; (try dsimp only at hSw); go_simp; try with_reducible rfl)
          try simp only [Act.put, List.setIfInBounds_toArray, List.set_cons_zero, List.set_cons_succ]
          refine till_take [17, 16] (i := 15) (oi := { dst := some 84, op := _, type := _, pos := _, after := _, guard := none }) (v := ?v15b) rfl (by kernel_rfl) (by kernel_rfl) (by kernel_rfl) (by kernel_rfl) (by kernel_rfl) (fun _ _ _ h => h) (Or.inl ⟨by rfl, ?y15b⟩) (by assumption) ?r15b
          (case y15b => intro w hSw; (try dsimp only at hSw); go_simp; try with_reducible rfl)
          try simp only [Act.put, List.setIfInBounds_toArray, List.set_cons_zero, List.set_cons_succ]
          clear hHeld
          apply two_roads9 (F := fun b1 b2 b3 X1 D1 X2 D2 X3 D3 W => EndS WP (w.heap.size + 1 + 1 + 1) pf (sentcells u.tid A1 n1 C1 A2 n2 C2 u.m u.e A3 n3 C3) (qcells u.a u.tid u.seq u.r u.m u.e A6 n6 C6) X1 (n1 + 1) D1 (s.seqs ++ [u.seq]) X2 (n2 + 1) D2 (s.retry ++ [u.r]) X3 (n3 + 1) D3 (s.bodies ++ [u.body]) W)
          case ways =>
            intro REST
            refine till_ready (rs := [4, 10, 16]) (by kernel_rfl) (by simp) ?_
            refine TillAll.cons (o := { dst := some 73, op := _, type := _, pos := _, after := _, guard := none }) (by decide) rfl (fun K hK => ?_) (TillAll.cons (o := { dst := some 79, op := _, type := _, pos := _, after := _, guard := none }) (by decide) rfl (fun K hK => ?_) (TillAll.cons (o := { dst := some 85, op := _, type := _, pos := _, after := _, guard := none }) (by decide) rfl (fun K hK => ?_) TillAll.nil))
            · go_simp
              have hA0 := AppS.alloc hA0 (.cells #[(.int .i64 u.seq)] 3)
              have hB0 := Blk.new U0 #[(.int .i64 u.seq)] 3
              refine hK.out _ _ (AppS.s20 hA0) ?_
              clear hK
              try simp only [Act.put, List.setIfInBounds_toArray, List.set_cons_zero, List.set_cons_succ]
              generalize U0.alloc _ = U1 at *
              generalize U0.heap.size = p0_0 at *
              refine till_ready (rs := [5, 10, 16]) (by kernel_rfl) (by simp) ?_
              refine TillAll.cons (o := { dst := some 74, op := _, type := _, pos := _, after := _, guard := none }) (by decide) rfl (fun K hK => ?_) (TillAll.cons (o := { dst := some 79, op := _, type := _, pos := _, after := _, guard := none }) (by decide) rfl (fun K hK => ?_) (TillAll.cons (o := { dst := some 85, op := _, type := _, pos := _, after := _, guard := none }) (by decide) rfl (fun K hK => ?_) TillAll.nil))
              · refine as_wanted rfl (wp_append_int U1 (.tmp 70) (.tmp 73) rfl (w.heap.size + 1 + 1 + 1) A1 n1 C1 s.seqs rfl hA0.o1 (some ⟨p0_0, 0, none⟩) 1 1 [u.seq] rfl (row_of_blk1 hB0) (by have := HLEN.out; have := HN1.out; have := HLC.out; have := HI1.out; omega) (Nat.le_of_lt hA0.out.lt) (fun X1 D1 U2 ha1 hg1 _ => ?_))
                have hA1 := AppS.app1 hA0 ha1 hg1
                refine hK.out _ _ (AppS.s20 hA1) ?_
                clear hK
                try simp only [Act.put, List.setIfInBounds_toArray, List.set_cons_zero, List.set_cons_succ]
                have hH1 := AppS.s20 hA1
                unfold S20 at hH1
                refine till_take [] (i := 18) (oi := { dst := some 87, op := _, type := _, pos := _, after := _, guard := none }) (v := ?v18x1) rfl (by kernel_rfl) (by kernel_rfl) (by kernel_rfl) (by kernel_rfl) (by kernel_rfl) (fun _ _ _ h => h) (Or.inl ⟨by rfl, ?y18x1⟩) (by assumption) ?r18x1
                (case y18x1 => intro w hSw; (try dsimp only at hSw); go_simp; try with_reducible rfl)
                try simp only [Act.put, List.setIfInBounds_toArray, List.set_cons_zero, List.set_cons_succ]
                clear hH1
                refine till_ready (rs := [10, 16]) (by kernel_rfl) (by simp) ?_
                refine TillAll.cons (o := { dst := some 79, op := _, type := _, pos := _, after := _, guard := none }) (by decide) rfl (fun K hK => ?_) (TillAll.cons (o := { dst := some 85, op := _, type := _, pos := _, after := _, guard := none }) (by decide) rfl (fun K hK => ?_) TillAll.nil)
                · go_simp
                  have hA2 := AppS.alloc hA1 (.cells #[(.bool u.r)] 4)
                  have hB2 := Blk.new U2 #[(.bool u.r)] 4
                  refine hK.out _ _ (AppS.s20 hA2) ?_
                  clear hK
                  try simp only [Act.put, List.setIfInBounds_toArray, List.set_cons_zero, List.set_cons_succ]
                  generalize U2.alloc _ = U3 at *
                  generalize U2.heap.size = p1_2 at *
                  refine till_ready (rs := [11, 16]) (by kernel_rfl) (by simp) ?_
                  refine TillAll.cons (o := { dst := some 80, op := _, type := _, pos := _, after := _, guard := none }) (by decide) rfl (fun K hK => ?_) (TillAll.cons (o := { dst := some 85, op := _, type := _, pos := _, after := _, guard := none }) (by decide) rfl (fun K hK => ?_) TillAll.nil)
                  · refine as_wanted rfl (wp_append_bool U3 (.tmp 76) (.tmp 79) rfl (w.heap.size + 1 + 1 + 1) A2 n2 C2 s.retry rfl hA2.o2 (some ⟨p1_2, 0, none⟩) 1 1 [u.r] rfl (row_of_blk1 hB2) (by have := HLEN.out; have := HN2.out; have := HLC.out; have := HI1.out; omega) (Nat.le_of_lt hA2.out.lt) (fun X3 D3 U4 ha3 hg3 _ => ?_))
                    have hA3 := AppS.app2 hA2 ha3 hg3
                    refine hK.out _ _ (AppS.s20 hA3) ?_
                    clear hK
                    try simp only [Act.put, List.setIfInBounds_toArray, List.set_cons_zero, List.set_cons_succ]
                    refine till_ready (rs := [16]) (by kernel_rfl) (by simp) ?_
                    refine TillAll.cons (o := { dst := some 85, op := _, type := _, pos := _, after := _, guard := none }) (by decide) rfl (fun K hK => ?_) TillAll.nil
                    go_simp
                    have hA4 := AppS.alloc hA3 (.cells #[(.slice A6 n6 C6)] 22)
                    have hB4 := Blk.new U4 #[(.slice A6 n6 C6)] 22
                    refine hK.out _ _ (AppS.s20 hA4) ?_
                    clear hK
                    try simp only [Act.put, List.setIfInBounds_toArray, List.set_cons_zero, List.set_cons_succ]
                    generalize U4.alloc _ = U5 at *
                    generalize U4.heap.size = p2_4 at *
                    refine till_ready (rs := [17]) (by kernel_rfl) (by simp) ?_
                    refine TillAll.cons (o := { dst := some 86, op := _, type := _, pos := _, after := _, guard := none }) (by decide) rfl (fun K hK => ?_) TillAll.nil
                    refine as_wanted rfl (wp_append_part U5 (.tmp 82) (.tmp 85) rfl (w.heap.size + 1 + 1 + 1) A3 n3 C3 s.bodies HN3.out.symm rfl hA4.o3 (by have := HLEN.out; have := HLC.out; have := HI1.out; omega) A6 n6 C6 u.body hA4.ob.len hA4.ob (some ⟨p2_4, 0, none⟩) 1 rfl (row_of_blk1 hB4) (Nat.le_of_lt hA4.out.lt) (fun X5 D5 U6 ha5 hg5 h45 h55 h65 => ?_))
                    have hA5 := AppS.app3 hA4 ha5 hg5 h45 h55 h65
                    refine hK.out _ _ (EndS.s20 hA5) ?_
                    clear hK
                    try simp only [Act.put, List.setIfInBounds_toArray, List.set_cons_zero, List.set_cons_succ]
                    exact REST p0_0 p1_2 p2_4 _ _ _ _ _ _ _ hA5
                  · go_simp
                    have hA6 := AppS.alloc hA2 (.cells #[(.slice A6 n6 C6)] 22)
                    have hB6 := Blk.new U3 #[(.slice A6 n6 C6)] 22
                    have hB2_6 := Blk.alloc hB2 (.cells #[(.slice A6 n6 C6)] 22)
                    refine hK.out _ _ (AppS.s20 hA6) ?_
                    clear hK
                    try simp only [Act.put, List.setIfInBounds_toArray, List.set_cons_zero, List.set_cons_succ]
                    generalize U3.alloc _ = U7 at *
                    generalize U3.heap.size = p2_6 at *
                    refine till_ready (rs := [11]) (by kernel_rfl) (by simp) ?_
                    refine TillAll.cons (o := { dst := some 80, op := _, type := _, pos := _, after := _, guard := none }) (by decide) rfl (fun K hK => ?_) TillAll.nil
                    refine as_wanted rfl (wp_append_bool U7 (.tmp 76) (.tmp 79) rfl (w.heap.size + 1 + 1 + 1) A2 n2 C2 s.retry rfl hA6.o2 (some ⟨p1_2, 0, none⟩) 1 1 [u.r] rfl (row_of_blk1 hB2_6) (by have := HLEN.out; have := HN2.out; have := HLC.out; have := HI1.out; omega) (Nat.le_of_lt hA6.out.lt) (fun X7 D7 U8 ha7 hg7 _ => ?_))
                    have hA7 := AppS.app2 hA6 ha7 hg7
                    have hB6_7 := Blk.grown hB6 hg7 (own_ne hA6.o2 hB6 (by decide))
                    refine hK.out _ _ (AppS.s20 hA7) ?_
                    clear hK
                    try simp only [Act.put, List.setIfInBounds_toArray, List.set_cons_zero, List.set_cons_succ]
                    refine till_ready (rs := [17]) (by kernel_rfl) (by simp) ?_
                    refine TillAll.cons (o := { dst := some 86, op := _, type := _, pos := _, after := _, guard := none }) (by decide) rfl (fun K hK => ?_) TillAll.nil
                    refine as_wanted rfl (wp_append_part U8 (.tmp 82) (.tmp 85) rfl (w.heap.size + 1 + 1 + 1) A3 n3 C3 s.bodies HN3.out.symm rfl hA7.o3 (by have := HLEN.out; have := HLC.out; have := HI1.out; omega) A6 n6 C6 u.body hA7.ob.len hA7.ob (some ⟨p2_6, 0, none⟩) 1 rfl (row_of_blk1 hB6_7) (Nat.le_of_lt hA7.out.lt) (fun X8 D8 U9 ha8 hg8 h48 h58 h68 => ?_))
                    have hA8 := AppS.app3 hA7 ha8 hg8 h48 h58 h68
                    refine hK.out _ _ (EndS.s20 hA8) ?_
                    clear hK
                    try simp only [Act.put, List.setIfInBounds_toArray, List.set_cons_zero, List.set_cons_succ]
                    exact REST p0_0 p1_2 p2_6 _ _ _ _ _ _ _ hA8
                · go_simp
                  have hA9 := AppS.alloc hA1 (.cells #[(.slice A6 n6 C6)] 22)
                  have hB9 := Blk.new U2 #[(.slice A6 n6 C6)] 22
                  refine hK.out _ _ (AppS.s20 hA9) ?_
                  clear hK
                  try simp only [Act.put, List.setIfInBounds_toArray, List.set_cons_zero, List.set_cons_succ]
                  generalize U2.alloc _ = U10 at *
                  generalize U2.heap.size = p2_9 at *
                  refine till_ready (rs := [10]) (by kernel_rfl) (by simp) ?_
                  refine TillAll.cons (o := { dst := some 79, op := _, type := _, pos := _, after := _, guard := none }) (by decide) rfl (fun K hK => ?_) TillAll.nil
                  go_simp
                  have hA10 := AppS.alloc hA9 (.cells #[(.bool u.r)] 4)
                  have hB10 := Blk.new U10 #[(.bool u.r)] 4
                  have hB9_10 := Blk.alloc hB9 (.cells #[(.bool u.r)] 4)
                  refine hK.out _ _ (AppS.s20 hA10) ?_
                  clear hK
                  try simp only [Act.put, List.setIfInBounds_toArray, List.set_cons_zero, List.set_cons_succ]
                  generalize U10.alloc _ = U11 at *
                  generalize U10.heap.size = p1_10 at *
                  refine till_ready (rs := [11]) (by kernel_rfl) (by simp) ?_
                  refine TillAll.cons (o := { dst := some 80, op := _, type := _, pos := _, after := _, guard := none }) (by decide) rfl (fun K hK => ?_) TillAll.nil
                  refine as_wanted rfl (wp_append_bool U11 (.tmp 76) (.tmp 79) rfl (w.heap.size + 1 + 1 + 1) A2 n2 C2 s.retry rfl hA10.o2 (some ⟨p1_10, 0, none⟩) 1 1 [u.r] rfl (row_of_blk1 hB10) (by have := HLEN.out; have := HN2.out; have := HLC.out; have := HI1.out; omega) (Nat.le_of_lt hA10.out.lt) (fun X11 D11 U12 ha11 hg11 _ => ?_))
                  have hA11 := AppS.app2 hA10 ha11 hg11
                  have hB9_10_11 := Blk.grown hB9_10 hg11 (own_ne hA10.o2 hB9_10 (by decide))
                  refine hK.out _ _ (AppS.s20 hA11) ?_
                  clear hK
                  try simp only [Act.put, List.setIfInBounds_toArray, List.set_cons_zero, List.set_cons_succ]
                  refine till_ready (rs := [17]) (by kernel_rfl) (by simp) ?_
                  refine TillAll.cons (o := { dst := some 86, op := _, type := _, pos := _, after := _, guard := none }) (by decide) rfl (fun K hK => ?_) TillAll.nil
                  refine as_wanted rfl (wp_append_part U12 (.tmp 82) (.tmp 85) rfl (w.heap.size + 1 + 1 + 1) A3 n3 C3 s.bodies HN3.out.symm rfl hA11.o3 (by have := HLEN.out; have := HLC.out; have := HI1.out; omega) A6 n6 C6 u.body hA11.ob.len hA11.ob (some ⟨p2_9, 0, none⟩) 1 rfl (row_of_blk1 hB9_10_11) (Nat.le_of_lt hA11.out.lt) (fun X12 D12 U13 ha12 hg12 h412 h512 h612 => ?_))
                  have hA12 := AppS.app3 hA11 ha12 hg12 h412 h512 h612
                  refine hK.out _ _ (EndS.s20 hA12) ?_
                  clear hK
                  try simp only [Act.put, List.setIfInBounds_toArray, List.set_cons_zero, List.set_cons_succ]
                  exact REST p0_0 p1_10 p2_9 _ _ _ _ _ _ _ hA12
              · go_simp
                have hA13 := AppS.alloc hA0 (.cells #[(.bool u.r)] 4)
                have hB13 := Blk.new U1 #[(.bool u.r)] 4
                have hB0_13 := Blk.alloc hB0 (.cells #[(.bool u.r)] 4)
                refine hK.out _ _ (AppS.s20 hA13) ?_
                clear hK
                try simp only [Act.put, List.setIfInBounds_toArray, List.set_cons_zero, List.set_cons_succ]
                generalize U1.alloc _ = U14 at *
                generalize U1.heap.size = p1_13 at *
                refine till_ready (rs := [5, 16]) (by kernel_rfl) (by simp) ?_
                refine TillAll.cons (o := { dst := some 74, op := _, type := _, pos := _, after := _, guard := none }) (by decide) rfl (fun K hK => ?_) (TillAll.cons (o := { dst := some 85, op := _, type := _, pos := _, after := _, guard := none }) (by decide) rfl (fun K hK => ?_) TillAll.nil)
                · refine as_wanted rfl (wp_append_int U14 (.tmp 70) (.tmp 73) rfl (w.heap.size + 1 + 1 + 1) A1 n1 C1 s.seqs rfl hA13.o1 (some ⟨p0_0, 0, none⟩) 1 1 [u.seq] rfl (row_of_blk1 hB0_13) (by have := HLEN.out; have := HN1.out; have := HLC.out; have := HI1.out; omega) (Nat.le_of_lt hA13.out.lt) (fun X14 D14 U15 ha14 hg14 _ => ?_))
                  have hA14 := AppS.app1 hA13 ha14 hg14
                  have hB13_14 := Blk.grown hB13 hg14 (own_ne hA13.o1 hB13 (by decide))
                  refine hK.out _ _ (AppS.s20 hA14) ?_
                  clear hK
                  try simp only [Act.put, List.setIfInBounds_toArray, List.set_cons_zero, List.set_cons_succ]
                  have hH14 := AppS.s20 hA14
                  unfold S20 at hH14
                  refine till_take [] (i := 18) (oi := { dst := some 87, op := _, type := _, pos := _, after := _, guard := none }) (v := ?v18x14) rfl (by kernel_rfl) (by kernel_rfl) (by kernel_rfl) (by kernel_rfl) (by kernel_rfl) (fun _ _ _ h => h) (Or.inl ⟨by rfl, ?y18x14⟩) (by assumption) ?r18x14
                  (case y18x14 => intro w hSw; (try dsimp only at hSw); go_simp; try with_reducible rfl)
                  try simp only [Act.put, List.setIfInBounds_toArray, List.set_cons_zero, List.set_cons_succ]
                  clear hH14
                  refine till_ready (rs := [11, 16]) (by kernel_rfl) (by simp) ?_
                  refine TillAll.cons (o := { dst := some 80, op := _, type := _, pos := _, after := _, guard := none }) (by decide) rfl (fun K hK => ?_) (TillAll.cons (o := { dst := some 85, op := _, type := _, pos := _, after := _, guard := none }) (by decide) rfl (fun K hK => ?_) TillAll.nil)
                  · refine as_wanted rfl (wp_append_bool U15 (.tmp 76) (.tmp 79) rfl (w.heap.size + 1 + 1 + 1) A2 n2 C2 s.retry rfl hA14.o2 (some ⟨p1_13, 0, none⟩) 1 1 [u.r] rfl (row_of_blk1 hB13_14) (by have := HLEN.out; have := HN2.out; have := HLC.out; have := HI1.out; omega) (Nat.le_of_lt hA14.out.lt) (fun X15 D15 U16 ha15 hg15 _ => ?_))
                    have hA15 := AppS.app2 hA14 ha15 hg15
                    refine hK.out _ _ (AppS.s20 hA15) ?_
                    clear hK
                    try simp only [Act.put, List.setIfInBounds_toArray, List.set_cons_zero, List.set_cons_succ]
                    refine till_ready (rs := [16]) (by kernel_rfl) (by simp) ?_
                    refine TillAll.cons (o := { dst := some 85, op := _, type := _, pos := _, after := _, guard := none }) (by decide) rfl (fun K hK => ?_) TillAll.nil
                    go_simp
                    have hA16 := AppS.alloc hA15 (.cells #[(.slice A6 n6 C6)] 22)
                    have hB16 := Blk.new U16 #[(.slice A6 n6 C6)] 22
                    refine hK.out _ _ (AppS.s20 hA16) ?_
                    clear hK
                    try simp only [Act.put, List.setIfInBounds_toArray, List.set_cons_zero, List.set_cons_succ]
                    generalize U16.alloc _ = U17 at *
                    generalize U16.heap.size = p2_16 at *
                    refine till_ready (rs := [17]) (by kernel_rfl) (by simp) ?_
                    refine TillAll.cons (o := { dst := some 86, op := _, type := _, pos := _, after := _, guard := none }) (by decide) rfl (fun K hK => ?_) TillAll.nil
                    refine as_wanted rfl (wp_append_part U17 (.tmp 82) (.tmp 85) rfl (w.heap.size + 1 + 1 + 1) A3 n3 C3 s.bodies HN3.out.symm rfl hA16.o3 (by have := HLEN.out; have := HLC.out; have := HI1.out; omega) A6 n6 C6 u.body hA16.ob.len hA16.ob (some ⟨p2_16, 0, none⟩) 1 rfl (row_of_blk1 hB16) (Nat.le_of_lt hA16.out.lt) (fun X17 D17 U18 ha17 hg17 h417 h517 h617 => ?_))
                    have hA17 := AppS.app3 hA16 ha17 hg17 h417 h517 h617
                    refine hK.out _ _ (EndS.s20 hA17) ?_
                    clear hK
                    try simp only [Act.put, List.setIfInBounds_toArray, List.set_cons_zero, List.set_cons_succ]
                    exact REST p0_0 p1_13 p2_16 _ _ _ _ _ _ _ hA17
                  · go_simp
                    have hA18 := AppS.alloc hA14 (.cells #[(.slice A6 n6 C6)] 22)
                    have hB18 := Blk.new U15 #[(.slice A6 n6 C6)] 22
                    have hB13_14_18 := Blk.alloc hB13_14 (.cells #[(.slice A6 n6 C6)] 22)
                    refine hK.out _ _ (AppS.s20 hA18) ?_
                    clear hK
                    try simp only [Act.put, List.setIfInBounds_toArray, List.set_cons_zero, List.set_cons_succ]
                    generalize U15.alloc _ = U19 at *
                    generalize U15.heap.size = p2_18 at *
                    refine till_ready (rs := [11]) (by kernel_rfl) (by simp) ?_
                    refine TillAll.cons (o := { dst := some 80, op := _, type := _, pos := _, after := _, guard := none }) (by decide) rfl (fun K hK => ?_) TillAll.nil
                    refine as_wanted rfl (wp_append_bool U19 (.tmp 76) (.tmp 79) rfl (w.heap.size + 1 + 1 + 1) A2 n2 C2 s.retry rfl hA18.o2 (some ⟨p1_13, 0, none⟩) 1 1 [u.r] rfl (row_of_blk1 hB13_14_18) (by have := HLEN.out; have := HN2.out; have := HLC.out; have := HI1.out; omega) (Nat.le_of_lt hA18.out.lt) (fun X19 D19 U20 ha19 hg19 _ => ?_))
                    have hA19 := AppS.app2 hA18 ha19 hg19
                    have hB18_19 := Blk.grown hB18 hg19 (own_ne hA18.o2 hB18 (by decide))
                    refine hK.out _ _ (AppS.s20 hA19) ?_
                    clear hK
                    try simp only [Act.put, List.setIfInBounds_toArray, List.set_cons_zero, List.set_cons_succ]
                    refine till_ready (rs := [17]) (by kernel_rfl) (by simp) ?_
                    refine TillAll.cons (o := { dst := some 86, op := _, type := _, pos := _, after := _, guard := none }) (by decide) rfl (fun K hK => ?_) TillAll.nil
                    refine as_wanted rfl (wp_append_part U20 (.tmp 82) (.tmp 85) rfl (w.heap.size + 1 + 1 + 1) A3 n3 C3 s.bodies HN3.out.symm rfl hA19.o3 (by have := HLEN.out; have := HLC.out; have := HI1.out; omega) A6 n6 C6 u.body hA19.ob.len hA19.ob (some ⟨p2_18, 0, none⟩) 1 rfl (row_of_blk1 hB18_19) (Nat.le_of_lt hA19.out.lt) (fun X20 D20 U21 ha20 hg20 h420 h520 h620 => ?_))
                    have hA20 := AppS.app3 hA19 ha20 hg20 h420 h520 h620
                    refine hK.out _ _ (EndS.s20 hA20) ?_
                    clear hK
                    try simp only [Act.put, List.setIfInBounds_toArray, List.set_cons_zero, List.set_cons_succ]
                    exact REST p0_0 p1_13 p2_18 _ _ _ _ _ _ _ hA20
                · go_simp
                  have hA21 := AppS.alloc hA13 (.cells #[(.slice A6 n6 C6)] 22)
                  have hB21 := Blk.new U14 #[(.slice A6 n6 C6)] 22
                  have hB0_13_21 := Blk.alloc hB0_13 (.cells #[(.slice A6 n6 C6)] 22)
                  have hB13_21 := Blk.alloc hB13 (.cells #[(.slice A6 n6 C6)] 22)
                  refine hK.out _ _ (AppS.s20 hA21) ?_
                  clear hK
                  try simp only [Act.put, List.setIfInBounds_toArray, List.set_cons_zero, List.set_cons_succ]
                  generalize U14.alloc _ = U22 at *
                  generalize U14.heap.size = p2_21 at *
                  refine till_ready (rs := [5]) (by kernel_rfl) (by simp) ?_
                  refine TillAll.cons (o := { dst := some 74, op := _, type := _, pos := _, after := _, guard := none }) (by decide) rfl (fun K hK => ?_) TillAll.nil
                  refine as_wanted rfl (wp_append_int U22 (.tmp 70) (.tmp 73) rfl (w.heap.size + 1 + 1 + 1) A1 n1 C1 s.seqs rfl hA21.o1 (some ⟨p0_0, 0, none⟩) 1 1 [u.seq] rfl (row_of_blk1 hB0_13_21) (by have := HLEN.out; have := HN1.out; have := HLC.out; have := HI1.out; omega) (Nat.le_of_lt hA21.out.lt) (fun X22 D22 U23 ha22 hg22 _ => ?_))
                  have hA22 := AppS.app1 hA21 ha22 hg22
                  have hB13_21_22 := Blk.grown hB13_21 hg22 (own_ne hA21.o1 hB13_21 (by decide))
                  have hB21_22 := Blk.grown hB21 hg22 (own_ne hA21.o1 hB21 (by decide))
                  refine hK.out _ _ (AppS.s20 hA22) ?_
                  clear hK
                  try simp only [Act.put, List.setIfInBounds_toArray, List.set_cons_zero, List.set_cons_succ]
                  have hH22 := AppS.s20 hA22
                  unfold S20 at hH22
                  refine till_take [] (i := 18) (oi := { dst := some 87, op := _, type := _, pos := _, after := _, guard := none }) (v := ?v18x22) rfl (by kernel_rfl) (by kernel_rfl) (by kernel_rfl) (by kernel_rfl) (by kernel_rfl) (fun _ _ _ h => h) (Or.inl ⟨by rfl, ?y18x22⟩) (by assumption) ?r18x22
                  (case y18x22 => intro w hSw; (try dsimp only at hSw); go_simp; try with_reducible rfl)
                  try simp only [Act.put, List.setIfInBounds_toArray, List.set_cons_zero, List.set_cons_succ]
                  clear hH22
                  refine till_ready (rs := [11]) (by kernel_rfl) (by simp) ?_
                  refine TillAll.cons (o := { dst := some 80, op := _, type := _, pos := _, after := _, guard := none }) (by decide) rfl (fun K hK => ?_) TillAll.nil
                  refine as_wanted rfl (wp_append_bool U23 (.tmp 76) (.tmp 79) rfl (w.heap.size + 1 + 1 + 1) A2 n2 C2 s.retry rfl hA22.o2 (some ⟨p1_13, 0, none⟩) 1 1 [u.r] rfl (row_of_blk1 hB13_21_22) (by have := HLEN.out; have := HN2.out; have := HLC.out; have := HI1.out; omega) (Nat.le_of_lt hA22.out.lt) (fun X23 D23 U24 ha23 hg23 _ => ?_))
                  have hA23 := AppS.app2 hA22 ha23 hg23
                  have hB21_22_23 := Blk.grown hB21_22 hg23 (own_ne hA22.o2 hB21_22 (by decide))
                  refine hK.out _ _ (AppS.s20 hA23) ?_
                  clear hK
                  try simp only [Act.put, List.setIfInBounds_toArray, List.set_cons_zero, List.set_cons_succ]
                  refine till_ready (rs := [17]) (by kernel_rfl) (by simp) ?_
                  refine TillAll.cons (o := { dst := some 86, op := _, type := _, pos := _, after := _, guard := none }) (by decide) rfl (fun K hK => ?_) TillAll.nil
                  refine as_wanted rfl (wp_append_part U24 (.tmp 82) (.tmp 85) rfl (w.heap.size + 1 + 1 + 1) A3 n3 C3 s.bodies HN3.out.symm rfl hA23.o3 (by have := HLEN.out; have := HLC.out; have := HI1.out; omega) A6 n6 C6 u.body hA23.ob.len hA23.ob (some ⟨p2_21, 0, none⟩) 1 rfl (row_of_blk1 hB21_22_23) (Nat.le_of_lt hA23.out.lt) (fun X24 D24 U25 ha24 hg24 h424 h524 h624 => ?_))
                  have hA24 := AppS.app3 hA23 ha24 hg24 h424 h524 h624
                  refine hK.out _ _ (EndS.s20 hA24) ?_
                  clear hK
                  try simp only [Act.put, List.setIfInBounds_toArray, List.set_cons_zero, List.set_cons_succ]
                  exact REST p0_0 p1_13 p2_21 _ _ _ _ _ _ _ hA24
              · go_simp
                have hA25 := AppS.alloc hA0 (.cells #[(.slice A6 n6 C6)] 22)
                have hB25 := Blk.new U1 #[(.slice A6 n6 C6)] 22
                have hB0_25 := Blk.alloc hB0 (.cells #[(.slice A6 n6 C6)] 22)
                refine hK.out _ _ (AppS.s20 hA25) ?_
                clear hK
                try simp only [Act.put, List.setIfInBounds_toArray, List.set_cons_zero, List.set_cons_succ]
                generalize U1.alloc _ = U26 at *
                generalize U1.heap.size = p2_25 at *
                refine till_ready (rs := [5, 10]) (by kernel_rfl) (by simp) ?_
                refine TillAll.cons (o := { dst := some 74, op := _, type := _, pos := _, after := _, guard := none }) (by decide) rfl (fun K hK => ?_) (TillAll.cons (o := { dst := some 79, op := _, type := _, pos := _, after := _, guard := none }) (by decide) rfl (fun K hK => ?_) TillAll.nil)
                · refine as_wanted rfl (wp_append_int U26 (.tmp 70) (.tmp 73) rfl (w.heap.size + 1 + 1 + 1) A1 n1 C1 s.seqs rfl hA25.o1 (some ⟨p0_0, 0, none⟩) 1 1 [u.seq] rfl (row_of_blk1 hB0_25) (by have := HLEN.out; have := HN1.out; have := HLC.out; have := HI1.out; omega) (Nat.le_of_lt hA25.out.lt) (fun X26 D26 U27 ha26 hg26 _ => ?_))
                  have hA26 := AppS.app1 hA25 ha26 hg26
                  have hB25_26 := Blk.grown hB25 hg26 (own_ne hA25.o1 hB25 (by decide))
                  refine hK.out _ _ (AppS.s20 hA26) ?_
                  clear hK
                  try simp only [Act.put, List.setIfInBounds_toArray, List.set_cons_zero, List.set_cons_succ]
                  have hH26 := AppS.s20 hA26
                  unfold S20 at hH26
                  refine till_take [] (i := 18) (oi := { dst := some 87, op := _, type := _, pos := _, after := _, guard := none }) (v := ?v18x26) rfl (by kernel_rfl) (by kernel_rfl) (by kernel_rfl) (by kernel_rfl) (by kernel_rfl) (fun _ _ _ h => h) (Or.inl ⟨by rfl, ?y18x26⟩) (by assumption) ?r18x26
                  (case y18x26 => intro w hSw; (try dsimp only at hSw); go_simp; try with_reducible rfl)
                  try simp only [Act.put, List.setIfInBounds_toArray, List.set_cons_zero, List.set_cons_succ]
                  clear hH26
                  refine till_ready (rs := [10]) (by kernel_rfl) (by simp) ?_
                  refine TillAll.cons (o := { dst := some 79, op := _, type := _, pos := _, after := _, guard := none }) (by decide) rfl (fun K hK => ?_) TillAll.nil
                  go_simp
                  have hA27 := AppS.alloc hA26 (.cells #[(.bool u.r)] 4)
                  have hB27 := Blk.new U27 #[(.bool u.r)] 4
                  have hB25_26_27 := Blk.alloc hB25_26 (.cells #[(.bool u.r)] 4)
                  refine hK.out _ _ (AppS.s20 hA27) ?_
                  clear hK
                  try simp only [Act.put, List.setIfInBounds_toArray, List.set_cons_zero, List.set_cons_succ]
                  generalize U27.alloc _ = U28 at *
                  generalize U27.heap.size = p1_27 at *
                  refine till_ready (rs := [11]) (by kernel_rfl) (by simp) ?_
                  refine TillAll.cons (o := { dst := some 80, op := _, type := _, pos := _, after := _, guard := none }) (by decide) rfl (fun K hK => ?_) TillAll.nil
                  refine as_wanted rfl (wp_append_bool U28 (.tmp 76) (.tmp 79) rfl (w.heap.size + 1 + 1 + 1) A2 n2 C2 s.retry rfl hA27.o2 (some ⟨p1_27, 0, none⟩) 1 1 [u.r] rfl (row_of_blk1 hB27) (by have := HLEN.out; have := HN2.out; have := HLC.out; have := HI1.out; omega) (Nat.le_of_lt hA27.out.lt) (fun X28 D28 U29 ha28 hg28 _ => ?_))
                  have hA28 := AppS.app2 hA27 ha28 hg28
                  have hB25_26_27_28 := Blk.grown hB25_26_27 hg28 (own_ne hA27.o2 hB25_26_27 (by decide))
                  refine hK.out _ _ (AppS.s20 hA28) ?_
                  clear hK
                  try simp only [Act.put, List.setIfInBounds_toArray, List.set_cons_zero, List.set_cons_succ]
                  refine till_ready (rs := [17]) (by kernel_rfl) (by simp) ?_
                  refine TillAll.cons (o := { dst := some 86, op := _, type := _, pos := _, after := _, guard := none }) (by decide) rfl (fun K hK => ?_) TillAll.nil
                  refine as_wanted rfl (wp_append_part U29 (.tmp 82) (.tmp 85) rfl (w.heap.size + 1 + 1 + 1) A3 n3 C3 s.bodies HN3.out.symm rfl hA28.o3 (by have := HLEN.out; have := HLC.out; have := HI1.out; omega) A6 n6 C6 u.body hA28.ob.len hA28.ob (some ⟨p2_25, 0, none⟩) 1 rfl (row_of_blk1 hB25_26_27_28) (Nat.le_of_lt hA28.out.lt) (fun X29 D29 U30 ha29 hg29 h429 h529 h629 => ?_))
                  have hA29 := AppS.app3 hA28 ha29 hg29 h429 h529 h629
                  refine hK.out _ _ (EndS.s20 hA29) ?_
                  clear hK
                  try simp only [Act.put, List.setIfInBounds_toArray, List.set_cons_zero, List.set_cons_succ]
                  exact REST p0_0 p1_27 p2_25 _ _ _ _ _ _ _ hA29
                · go_simp
                  have hA30 := AppS.alloc hA25 (.cells #[(.bool u.r)] 4)
                  have hB30 := Blk.new U26 #[(.bool u.r)] 4
                  have hB0_25_30 := Blk.alloc hB0_25 (.cells #[(.bool u.r)] 4)
                  have hB25_30 := Blk.alloc hB25 (.cells #[(.bool u.r)] 4)
                  refine hK.out _ _ (AppS.s20 hA30) ?_
                  clear hK
                  try simp only [Act.put, List.setIfInBounds_toArray, List.set_cons_zero, List.set_cons_succ]
                  generalize U26.alloc _ = U31 at *
                  generalize U26.heap.size = p1_30 at *
                  refine till_ready (rs := [5]) (by kernel_rfl) (by simp) ?_
                  refine TillAll.cons (o := { dst := some 74, op := _, type := _, pos := _, after := _, guard := none }) (by decide) rfl (fun K hK => ?_) TillAll.nil
                  refine as_wanted rfl (wp_append_int U31 (.tmp 70) (.tmp 73) rfl (w.heap.size + 1 + 1 + 1) A1 n1 C1 s.seqs rfl hA30.o1 (some ⟨p0_0, 0, none⟩) 1 1 [u.seq] rfl (row_of_blk1 hB0_25_30) (by have := HLEN.out; have := HN1.out; have := HLC.out; have := HI1.out; omega) (Nat.le_of_lt hA30.out.lt) (fun X31 D31 U32 ha31 hg31 _ => ?_))
                  have hA31 := AppS.app1 hA30 ha31 hg31
                  have hB25_30_31 := Blk.grown hB25_30 hg31 (own_ne hA30.o1 hB25_30 (by decide))
                  have hB30_31 := Blk.grown hB30 hg31 (own_ne hA30.o1 hB30 (by decide))
                  refine hK.out _ _ (AppS.s20 hA31) ?_
                  clear hK
                  try simp only [Act.put, List.setIfInBounds_toArray, List.set_cons_zero, List.set_cons_succ]
                  have hH31 := AppS.s20 hA31
                  unfold S20 at hH31
                  refine till_take [] (i := 18) (oi := { dst := some 87, op := _, type := _, pos := _, after := _, guard := none }) (v := ?v18x31) rfl (by kernel_rfl) (by kernel_rfl) (by kernel_rfl) (by kernel_rfl) (by kernel_rfl) (fun _ _ _ h => h) (Or.inl ⟨by rfl, ?y18x31⟩) (by assumption) ?r18x31
                  (case y18x31 => intro w hSw; (try dsimp only at hSw); go_simp; try with_reducible rfl)
                  try simp only [Act.put, List.setIfInBounds_toArray, List.set_cons_zero, List.set_cons_succ]
                  clear hH31
                  refine till_ready (rs := [11]) (by kernel_rfl) (by simp) ?_
                  refine TillAll.cons (o := { dst := some 80, op := _, type := _, pos := _, after := _, guard := none }) (by decide) rfl (fun K hK => ?_) TillAll.nil
                  refine as_wanted rfl (wp_append_bool U32 (.tmp 76) (.tmp 79) rfl (w.heap.size + 1 + 1 + 1) A2 n2 C2 s.retry rfl hA31.o2 (some ⟨p1_30, 0, none⟩) 1 1 [u.r] rfl (row_of_blk1 hB30_31) (by have := HLEN.out; have := HN2.out; have := HLC.out; have := HI1.out; omega) (Nat.le_of_lt hA31.out.lt) (fun X32 D32 U33 ha32 hg32 _ => ?_))
                  have hA32 := AppS.app2 hA31 ha32 hg32
                  have hB25_30_31_32 := Blk.grown hB25_30_31 hg32 (own_ne hA31.o2 hB25_30_31 (by decide))
                  refine hK.out _ _ (AppS.s20 hA32) ?_
                  clear hK
                  try simp only [Act.put, List.setIfInBounds_toArray, List.set_cons_zero, List.set_cons_succ]
                  refine till_ready (rs := [17]) (by kernel_rfl) (by simp) ?_
                  refine TillAll.cons (o := { dst := some 86, op := _, type := _, pos := _, after := _, guard := none }) (by decide) rfl (fun K hK => ?_) TillAll.nil
                  refine as_wanted rfl (wp_append_part U33 (.tmp 82) (.tmp 85) rfl (w.heap.size + 1 + 1 + 1) A3 n3 C3 s.bodies HN3.out.symm rfl hA32.o3 (by have := HLEN.out; have := HLC.out; have := HI1.out; omega) A6 n6 C6 u.body hA32.ob.len hA32.ob (some ⟨p2_25, 0, none⟩) 1 rfl (row_of_blk1 hB25_30_31_32) (Nat.le_of_lt hA32.out.lt) (fun X33 D33 U34 ha33 hg33 h433 h533 h633 => ?_))
                  have hA33 := AppS.app3 hA32 ha33 hg33 h433 h533 h633
                  refine hK.out _ _ (EndS.s20 hA33) ?_
                  clear hK
                  try simp only [Act.put, List.setIfInBounds_toArray, List.set_cons_zero, List.set_cons_succ]
                  exact REST p0_0 p1_30 p2_25 _ _ _ _ _ _ _ hA33
            · go_simp
              have hA34 := AppS.alloc hA0 (.cells #[(.bool u.r)] 4)
              have hB34 := Blk.new U0 #[(.bool u.r)] 4
              refine hK.out _ _ (AppS.s20 hA34) ?_
              clear hK
              try simp only [Act.put, List.setIfInBounds_toArray, List.set_cons_zero, List.set_cons_succ]
              generalize U0.alloc _ = U35 at *
              generalize U0.heap.size = p1_34 at *
              refine till_ready (rs := [4, 16]) (by kernel_rfl) (by simp) ?_
              refine TillAll.cons (o := { dst := some 73, op := _, type := _, pos := _, after := _, guard := none }) (by decide) rfl (fun K hK => ?_) (TillAll.cons (o := { dst := some 85, op := _, type := _, pos := _, after := _, guard := none }) (by decide) rfl (fun K hK => ?_) TillAll.nil)
              · go_simp
                have hA35 := AppS.alloc hA34 (.cells #[(.int .i64 u.seq)] 3)
                have hB35 := Blk.new U35 #[(.int .i64 u.seq)] 3
                have hB34_35 := Blk.alloc hB34 (.cells #[(.int .i64 u.seq)] 3)
                refine hK.out _ _ (AppS.s20 hA35) ?_
                clear hK
                try simp only [Act.put, List.setIfInBounds_toArray, List.set_cons_zero, List.set_cons_succ]
                generalize U35.alloc _ = U36 at *
                generalize U35.heap.size = p0_35 at *
                refine till_ready (rs := [5, 16]) (by kernel_rfl) (by simp) ?_
                refine TillAll.cons (o := { dst := some 74, op := _, type := _, pos := _, after := _, guard := none }) (by decide) rfl (fun K hK => ?_) (TillAll.cons (o := { dst := some 85, op := _, type := _, pos := _, after := _, guard := none }) (by decide) rfl (fun K hK => ?_) TillAll.nil)
                · refine as_wanted rfl (wp_append_int U36 (.tmp 70) (.tmp 73) rfl (w.heap.size + 1 + 1 + 1) A1 n1 C1 s.seqs rfl hA35.o1 (some ⟨p0_35, 0, none⟩) 1 1 [u.seq] rfl (row_of_blk1 hB35) (by have := HLEN.out; have := HN1.out; have := HLC.out; have := HI1.out; omega) (Nat.le_of_lt hA35.out.lt) (fun X36 D36 U37 ha36 hg36 _ => ?_))
                  have hA36 := AppS.app1 hA35 ha36 hg36
                  have hB34_35_36 := Blk.grown hB34_35 hg36 (own_ne hA35.o1 hB34_35 (by decide))
                  refine hK.out _ _ (AppS.s20 hA36) ?_
                  clear hK
                  try simp only [Act.put, List.setIfInBounds_toArray, List.set_cons_zero, List.set_cons_succ]
                  have hH36 := AppS.s20 hA36
                  unfold S20 at hH36
                  refine till_take [] (i := 18) (oi := { dst := some 87, op := _, type := _, pos := _, after := _, guard := none }) (v := ?v18x36) rfl (by kernel_rfl) (by kernel_rfl) (by kernel_rfl) (by kernel_rfl) (by kernel_rfl) (fun _ _ _ h => h) (Or.inl ⟨by rfl, ?y18x36⟩) (by assumption) ?r18x36
                  (case y18x36 => intro w hSw; (try dsimp only at hSw); go_simp; try with_reducible rfl)
                  try simp only [Act.put, List.setIfInBounds_toArray, List.set_cons_zero, List.set_cons_succ]
                  clear hH36
                  refine till_ready (rs := [11, 16]) (by kernel_rfl) (by simp) ?_
                  refine TillAll.cons (o := { dst := some 80, op := _, type := _, pos := _, after := _, guard := none }) (by decide) rfl (fun K hK => ?_) (TillAll.cons (o := { dst := some 85, op := _, type := _, pos := _, after := _, guard := none }) (by decide) rfl (fun K hK => ?_) TillAll.nil)
                  · refine as_wanted rfl (wp_append_bool U37 (.tmp 76) (.tmp 79) rfl (w.heap.size + 1 + 1 + 1) A2 n2 C2 s.retry rfl hA36.o2 (some ⟨p1_34, 0, none⟩) 1 1 [u.r] rfl (row_of_blk1 hB34_35_36) (by have := HLEN.out; have := HN2.out; have := HLC.out; have := HI1.out; omega) (Nat.le_of_lt hA36.out.lt) (fun X37 D37 U38 ha37 hg37 _ => ?_))
                    have hA37 := AppS.app2 hA36 ha37 hg37
                    refine hK.out _ _ (AppS.s20 hA37) ?_
                    clear hK
                    try simp only [Act.put, List.setIfInBounds_toArray, List.set_cons_zero, List.set_cons_succ]
                    refine till_ready (rs := [16]) (by kernel_rfl) (by simp) ?_
                    refine TillAll.cons (o := { dst := some 85, op := _, type := _, pos := _, after := _, guard := none }) (by decide) rfl (fun K hK => ?_) TillAll.nil
                    go_simp
                    have hA38 := AppS.alloc hA37 (.cells #[(.slice A6 n6 C6)] 22)
                    have hB38 := Blk.new U38 #[(.slice A6 n6 C6)] 22
                    refine hK.out _ _ (AppS.s20 hA38) ?_
                    clear hK
                    try simp only [Act.put, List.setIfInBounds_toArray, List.set_cons_zero, List.set_cons_succ]
                    generalize U38.alloc _ = U39 at *
                    generalize U38.heap.size = p2_38 at *
                    refine till_ready (rs := [17]) (by kernel_rfl) (by simp) ?_
                    refine TillAll.cons (o := { dst := some 86, op := _, type := _, pos := _, after := _, guard := none }) (by decide) rfl (fun K hK => ?_) TillAll.nil
                    refine as_wanted rfl (wp_append_part U39 (.tmp 82) (.tmp 85) rfl (w.heap.size + 1 + 1 + 1) A3 n3 C3 s.bodies HN3.out.symm rfl hA38.o3 (by have := HLEN.out; have := HLC.out; have := HI1.out; omega) A6 n6 C6 u.body hA38.ob.len hA38.ob (some ⟨p2_38, 0, none⟩) 1 rfl (row_of_blk1 hB38) (Nat.le_of_lt hA38.out.lt) (fun X39 D39 U40 ha39 hg39 h439 h539 h639 => ?_))
                    have hA39 := AppS.app3 hA38 ha39 hg39 h439 h539 h639
                    refine hK.out _ _ (EndS.s20 hA39) ?_
                    clear hK
                    try simp only [Act.put, List.setIfInBounds_toArray, List.set_cons_zero, List.set_cons_succ]
                    exact REST p0_35 p1_34 p2_38 _ _ _ _ _ _ _ hA39
                  · go_simp
                    have hA40 := AppS.alloc hA36 (.cells #[(.slice A6 n6 C6)] 22)
                    have hB40 := Blk.new U37 #[(.slice A6 n6 C6)] 22
                    have hB34_35_36_40 := Blk.alloc hB34_35_36 (.cells #[(.slice A6 n6 C6)] 22)
                    refine hK.out _ _ (AppS.s20 hA40) ?_
                    clear hK
                    try simp only [Act.put, List.setIfInBounds_toArray, List.set_cons_zero, List.set_cons_succ]
                    generalize U37.alloc _ = U41 at *
                    generalize U37.heap.size = p2_40 at *
                    refine till_ready (rs := [11]) (by kernel_rfl) (by simp) ?_
                    refine TillAll.cons (o := { dst := some 80, op := _, type := _, pos := _, after := _, guard := none }) (by decide) rfl (fun K hK => ?_) TillAll.nil
                    refine as_wanted rfl (wp_append_bool U41 (.tmp 76) (.tmp 79) rfl (w.heap.size + 1 + 1 + 1) A2 n2 C2 s.retry rfl hA40.o2 (some ⟨p1_34, 0, none⟩) 1 1 [u.r] rfl (row_of_blk1 hB34_35_36_40) (by have := HLEN.out; have := HN2.out; have := HLC.out; have := HI1.out; omega) (Nat.le_of_lt hA40.out.lt) (fun X41 D41 U42 ha41 hg41 _ => ?_))
                    have hA41 := AppS.app2 hA40 ha41 hg41
                    have hB40_41 := Blk.grown hB40 hg41 (own_ne hA40.o2 hB40 (by decide))
                    refine hK.out _ _ (AppS.s20 hA41) ?_
                    clear hK
                    try simp only [Act.put, List.setIfInBounds_toArray, List.set_cons_zero, List.set_cons_succ]
                    refine till_ready (rs := [17]) (by kernel_rfl) (by simp) ?_
                    refine TillAll.cons (o := { dst := some 86, op := _, type := _, pos := _, after := _, guard := none }) (by decide) rfl (fun K hK => ?_) TillAll.nil
                    refine as_wanted rfl (wp_append_part U42 (.tmp 82) (.tmp 85) rfl (w.heap.size + 1 + 1 + 1) A3 n3 C3 s.bodies HN3.out.symm rfl hA41.o3 (by have := HLEN.out; have := HLC.out; have := HI1.out; omega) A6 n6 C6 u.body hA41.ob.len hA41.ob (some ⟨p2_40, 0, none⟩) 1 rfl (row_of_blk1 hB40_41) (Nat.le_of_lt hA41.out.lt) (fun X42 D42 U43 ha42 hg42 h442 h542 h642 => ?_))
                    have hA42 := AppS.app3 hA41 ha42 hg42 h442 h542 h642
                    refine hK.out _ _ (EndS.s20 hA42) ?_
                    clear hK
                    try simp only [Act.put, List.setIfInBounds_toArray, List.set_cons_zero, List.set_cons_succ]
                    exact REST p0_35 p1_34 p2_40 _ _ _ _ _ _ _ hA42
                · go_simp
                  have hA43 := AppS.alloc hA35 (.cells #[(.slice A6 n6 C6)] 22)
                  have hB43 := Blk.new U36 #[(.slice A6 n6 C6)] 22
                  have hB34_35_43 := Blk.alloc hB34_35 (.cells #[(.slice A6 n6 C6)] 22)
                  have hB35_43 := Blk.alloc hB35 (.cells #[(.slice A6 n6 C6)] 22)
                  refine hK.out _ _ (AppS.s20 hA43) ?_
                  clear hK
                  try simp only [Act.put, List.setIfInBounds_toArray, List.set_cons_zero, List.set_cons_succ]
                  generalize U36.alloc _ = U44 at *
                  generalize U36.heap.size = p2_43 at *
                  refine till_ready (rs := [5]) (by kernel_rfl) (by simp) ?_
                  refine TillAll.cons (o := { dst := some 74, op := _, type := _, pos := _, after := _, guard := none }) (by decide) rfl (fun K hK => ?_) TillAll.nil
                  refine as_wanted rfl (wp_append_int U44 (.tmp 70) (.tmp 73) rfl (w.heap.size + 1 + 1 + 1) A1 n1 C1 s.seqs rfl hA43.o1 (some ⟨p0_35, 0, none⟩) 1 1 [u.seq] rfl (row_of_blk1 hB35_43) (by have := HLEN.out; have := HN1.out; have := HLC.out; have := HI1.out; omega) (Nat.le_of_lt hA43.out.lt) (fun X44 D44 U45 ha44 hg44 _ => ?_))
                  have hA44 := AppS.app1 hA43 ha44 hg44
                  have hB34_35_43_44 := Blk.grown hB34_35_43 hg44 (own_ne hA43.o1 hB34_35_43 (by decide))
                  have hB43_44 := Blk.grown hB43 hg44 (own_ne hA43.o1 hB43 (by decide))
                  refine hK.out _ _ (AppS.s20 hA44) ?_
                  clear hK
                  try simp only [Act.put, List.setIfInBounds_toArray, List.set_cons_zero, List.set_cons_succ]
                  have hH44 := AppS.s20 hA44
                  unfold S20 at hH44
                  refine till_take [] (i := 18) (oi := { dst := some 87, op := _, type := _, pos := _, after := _, guard := none }) (v := ?v18x44) rfl (by kernel_rfl) (by kernel_rfl) (by kernel_rfl) (by kernel_rfl) (by kernel_rfl) (fun _ _ _ h => h) (Or.inl ⟨by rfl, ?y18x44⟩) (by assumption) ?r18x44
                  (case y18x44 => intro w hSw; (try dsimp only at hSw); go_simp; try with_reducible rfl)
                  try simp only [Act.put, List.setIfInBounds_toArray, List.set_cons_zero, List.set_cons_succ]
                  clear hH44
                  refine till_ready (rs := [11]) (by kernel_rfl) (by simp) ?_
                  refine TillAll.cons (o := { dst := some 80, op := _, type := _, pos := _, after := _, guard := none }) (by decide) rfl (fun K hK => ?_) TillAll.nil
                  refine as_wanted rfl (wp_append_bool U45 (.tmp 76) (.tmp 79) rfl (w.heap.size + 1 + 1 + 1) A2 n2 C2 s.retry rfl hA44.o2 (some ⟨p1_34, 0, none⟩) 1 1 [u.r] rfl (row_of_blk1 hB34_35_43_44) (by have := HLEN.out; have := HN2.out; have := HLC.out; have := HI1.out; omega) (Nat.le_of_lt hA44.out.lt) (fun X45 D45 U46 ha45 hg45 _ => ?_))
                  have hA45 := AppS.app2 hA44 ha45 hg45
                  have hB43_44_45 := Blk.grown hB43_44 hg45 (own_ne hA44.o2 hB43_44 (by decide))
                  refine hK.out _ _ (AppS.s20 hA45) ?_
                  clear hK
                  try simp only [Act.put, List.setIfInBounds_toArray, List.set_cons_zero, List.set_cons_succ]
                  refine till_ready (rs := [17]) (by kernel_rfl) (by simp) ?_
                  refine TillAll.cons (o := { dst := some 86, op := _, type := _, pos := _, after := _, guard := none }) (by decide) rfl (fun K hK => ?_) TillAll.nil
                  refine as_wanted rfl (wp_append_part U46 (.tmp 82) (.tmp 85) rfl (w.heap.size + 1 + 1 + 1) A3 n3 C3 s.bodies HN3.out.symm rfl hA45.o3 (by have := HLEN.out; have := HLC.out; have := HI1.out; omega) A6 n6 C6 u.body hA45.ob.len hA45.ob (some ⟨p2_43, 0, none⟩) 1 rfl (row_of_blk1 hB43_44_45) (Nat.le_of_lt hA45.out.lt) (fun X46 D46 U47 ha46 hg46 h446 h546 h646 => ?_))
                  have hA46 := AppS.app3 hA45 ha46 hg46 h446 h546 h646
                  refine hK.out _ _ (EndS.s20 hA46) ?_
                  clear hK
                  try simp only [Act.put, List.setIfInBounds_toArray, List.set_cons_zero, List.set_cons_succ]
                  exact REST p0_35 p1_34 p2_43 _ _ _ _ _ _ _ hA46
              · go_simp
                have hA47 := AppS.alloc hA34 (.cells #[(.slice A6 n6 C6)] 22)
                have hB47 := Blk.new U35 #[(.slice A6 n6 C6)] 22
                have hB34_47 := Blk.alloc hB34 (.cells #[(.slice A6 n6 C6)] 22)
                refine hK.out _ _ (AppS.s20 hA47) ?_
                clear hK
                try simp only [Act.put, List.setIfInBounds_toArray, List.set_cons_zero, List.set_cons_succ]
                generalize U35.alloc _ = U48 at *
                generalize U35.heap.size = p2_47 at *
                refine till_ready (rs := [4]) (by kernel_rfl) (by simp) ?_
                refine TillAll.cons (o := { dst := some 73, op := _, type := _, pos := _, after := _, guard := none }) (by decide) rfl (fun K hK => ?_) TillAll.nil
                go_simp
                have hA48 := AppS.alloc hA47 (.cells #[(.int .i64 u.seq)] 3)
                have hB48 := Blk.new U48 #[(.int .i64 u.seq)] 3
                have hB34_47_48 := Blk.alloc hB34_47 (.cells #[(.int .i64 u.seq)] 3)
                have hB47_48 := Blk.alloc hB47 (.cells #[(.int .i64 u.seq)] 3)
                refine hK.out _ _ (AppS.s20 hA48) ?_
                clear hK
                try simp only [Act.put, List.setIfInBounds_toArray, List.set_cons_zero, List.set_cons_succ]
                generalize U48.alloc _ = U49 at *
                generalize U48.heap.size = p0_48 at *
                refine till_ready (rs := [5]) (by kernel_rfl) (by simp) ?_
                refine TillAll.cons (o := { dst := some 74, op := _, type := _, pos := _, after := _, guard := none }) (by decide) rfl (fun K hK => ?_) TillAll.nil
                refine as_wanted rfl (wp_append_int U49 (.tmp 70) (.tmp 73) rfl (w.heap.size + 1 + 1 + 1) A1 n1 C1 s.seqs rfl hA48.o1 (some ⟨p0_48, 0, none⟩) 1 1 [u.seq] rfl (row_of_blk1 hB48) (by have := HLEN.out; have := HN1.out; have := HLC.out; have := HI1.out; omega) (Nat.le_of_lt hA48.out.lt) (fun X49 D49 U50 ha49 hg49 _ => ?_))
                have hA49 := AppS.app1 hA48 ha49 hg49
                have hB34_47_48_49 := Blk.grown hB34_47_48 hg49 (own_ne hA48.o1 hB34_47_48 (by decide))
                have hB47_48_49 := Blk.grown hB47_48 hg49 (own_ne hA48.o1 hB47_48 (by decide))
                refine hK.out _ _ (AppS.s20 hA49) ?_
                clear hK
                try simp only [Act.put, List.setIfInBounds_toArray, List.set_cons_zero, List.set_cons_succ]
                have hH49 := AppS.s20 hA49
                unfold S20 at hH49
                refine till_take [] (i := 18) (oi := { dst := some 87, op := _, type := _, pos := _, after := _, guard := none }) (v := ?v18x49) rfl (by kernel_rfl) (by kernel_rfl) (by kernel_rfl) (by kernel_rfl) (by kernel_rfl) (fun _ _ _ h => h) (Or.inl ⟨by rfl, ?y18x49⟩) (by assumption) ?r18x49
                (case y18x49 => intro w hSw; (try dsimp only at hSw); go_simp; try with_reducible rfl)
                try simp only [Act.put, List.setIfInBounds_toArray, List.set_cons_zero, List.set_cons_succ]
                clear hH49
                refine till_ready (rs := [11]) (by kernel_rfl) (by simp) ?_
                refine TillAll.cons (o := { dst := some 80, op := _, type := _, pos := _, after := _, guard := none }) (by decide) rfl (fun K hK => ?_) TillAll.nil
                refine as_wanted rfl (wp_append_bool U50 (.tmp 76) (.tmp 79) rfl (w.heap.size + 1 + 1 + 1) A2 n2 C2 s.retry rfl hA49.o2 (some ⟨p1_34, 0, none⟩) 1 1 [u.r] rfl (row_of_blk1 hB34_47_48_49) (by have := HLEN.out; have := HN2.out; have := HLC.out; have := HI1.out; omega) (Nat.le_of_lt hA49.out.lt) (fun X50 D50 U51 ha50 hg50 _ => ?_))
                have hA50 := AppS.app2 hA49 ha50 hg50
                have hB47_48_49_50 := Blk.grown hB47_48_49 hg50 (own_ne hA49.o2 hB47_48_49 (by decide))
                refine hK.out _ _ (AppS.s20 hA50) ?_
                clear hK
                try simp only [Act.put, List.setIfInBounds_toArray, List.set_cons_zero, List.set_cons_succ]
                refine till_ready (rs := [17]) (by kernel_rfl) (by simp) ?_
                refine TillAll.cons (o := { dst := some 86, op := _, type := _, pos := _, after := _, guard := none }) (by decide) rfl (fun K hK => ?_) TillAll.nil
                refine as_wanted rfl (wp_append_part U51 (.tmp 82) (.tmp 85) rfl (w.heap.size + 1 + 1 + 1) A3 n3 C3 s.bodies HN3.out.symm rfl hA50.o3 (by have := HLEN.out; have := HLC.out; have := HI1.out; omega) A6 n6 C6 u.body hA50.ob.len hA50.ob (some ⟨p2_47, 0, none⟩) 1 rfl (row_of_blk1 hB47_48_49_50) (Nat.le_of_lt hA50.out.lt) (fun X51 D51 U52 ha51 hg51 h451 h551 h651 => ?_))
                have hA51 := AppS.app3 hA50 ha51 hg51 h451 h551 h651
                refine hK.out _ _ (EndS.s20 hA51) ?_
                clear hK
                try simp only [Act.put, List.setIfInBounds_toArray, List.set_cons_zero, List.set_cons_succ]
                exact REST p0_48 p1_34 p2_47 _ _ _ _ _ _ _ hA51
            · go_simp
              have hA52 := AppS.alloc hA0 (.cells #[(.slice A6 n6 C6)] 22)
              have hB52 := Blk.new U0 #[(.slice A6 n6 C6)] 22
              refine hK.out _ _ (AppS.s20 hA52) ?_
              clear hK
              try simp only [Act.put, List.setIfInBounds_toArray, List.set_cons_zero, List.set_cons_succ]
              generalize U0.alloc _ = U53 at *
              generalize U0.heap.size = p2_52 at *
              refine till_ready (rs := [4, 10]) (by kernel_rfl) (by simp) ?_
              refine TillAll.cons (o := { dst := some 73, op := _, type := _, pos := _, after := _, guard := none }) (by decide) rfl (fun K hK => ?_) (TillAll.cons (o := { dst := some 79, op := _, type := _, pos := _, after := _, guard := none }) (by decide) rfl (fun K hK => ?_) TillAll.nil)
              · go_simp
                have hA53 := AppS.alloc hA52 (.cells #[(.int .i64 u.seq)] 3)
                have hB53 := Blk.new U53 #[(.int .i64 u.seq)] 3
                have hB52_53 := Blk.alloc hB52 (.cells #[(.int .i64 u.seq)] 3)
                refine hK.out _ _ (AppS.s20 hA53) ?_
                clear hK
                try simp only [Act.put, List.setIfInBounds_toArray, List.set_cons_zero, List.set_cons_succ]
                generalize U53.alloc _ = U54 at *
                generalize U53.heap.size = p0_53 at *
                refine till_ready (rs := [5, 10]) (by kernel_rfl) (by simp) ?_
                refine TillAll.cons (o := { dst := some 74, op := _, type := _, pos := _, after := _, guard := none }) (by decide) rfl (fun K hK => ?_) (TillAll.cons (o := { dst := some 79, op := _, type := _, pos := _, after := _, guard := none }) (by decide) rfl (fun K hK => ?_) TillAll.nil)
                · refine as_wanted rfl (wp_append_int U54 (.tmp 70) (.tmp 73) rfl (w.heap.size + 1 + 1 + 1) A1 n1 C1 s.seqs rfl hA53.o1 (some ⟨p0_53, 0, none⟩) 1 1 [u.seq] rfl (row_of_blk1 hB53) (by have := HLEN.out; have := HN1.out; have := HLC.out; have := HI1.out; omega) (Nat.le_of_lt hA53.out.lt) (fun X54 D54 U55 ha54 hg54 _ => ?_))
                  have hA54 := AppS.app1 hA53 ha54 hg54
                  have hB52_53_54 := Blk.grown hB52_53 hg54 (own_ne hA53.o1 hB52_53 (by decide))
                  refine hK.out _ _ (AppS.s20 hA54) ?_
                  clear hK
                  try simp only [Act.put, List.setIfInBounds_toArray, List.set_cons_zero, List.set_cons_succ]
                  have hH54 := AppS.s20 hA54
                  unfold S20 at hH54
                  refine till_take [] (i := 18) (oi := { dst := some 87, op := _, type := _, pos := _, after := _, guard := none }) (v := ?v18x54) rfl (by kernel_rfl) (by kernel_rfl) (by kernel_rfl) (by kernel_rfl) (by kernel_rfl) (fun _ _ _ h => h) (Or.inl ⟨by rfl, ?y18x54⟩) (by assumption) ?r18x54
                  (case y18x54 => intro w hSw; (try dsimp only at hSw); go_simp; try with_reducible rfl)
                  try simp only [Act.put, List.setIfInBounds_toArray, List.set_cons_zero, List.set_cons_succ]
                  clear hH54
                  refine till_ready (rs := [10]) (by kernel_rfl) (by simp) ?_
                  refine TillAll.cons (o := { dst := some 79, op := _, type := _, pos := _, after := _, guard := none }) (by decide) rfl (fun K hK => ?_) TillAll.nil
                  go_simp
                  have hA55 := AppS.alloc hA54 (.cells #[(.bool u.r)] 4)
                  have hB55 := Blk.new U55 #[(.bool u.r)] 4
                  have hB52_53_54_55 := Blk.alloc hB52_53_54 (.cells #[(.bool u.r)] 4)
                  refine hK.out _ _ (AppS.s20 hA55) ?_
                  clear hK
                  try simp only [Act.put, List.setIfInBounds_toArray, List.set_cons_zero, List.set_cons_succ]
                  generalize U55.alloc _ = U56 at *
                  generalize U55.heap.size = p1_55 at *
                  refine till_ready (rs := [11]) (by kernel_rfl) (by simp) ?_
                  refine TillAll.cons (o := { dst := some 80, op := _, type := _, pos := _, after := _, guard := none }) (by decide) rfl (fun K hK => ?_) TillAll.nil
                  refine as_wanted rfl (wp_append_bool U56 (.tmp 76) (.tmp 79) rfl (w.heap.size + 1 + 1 + 1) A2 n2 C2 s.retry rfl hA55.o2 (some ⟨p1_55, 0, none⟩) 1 1 [u.r] rfl (row_of_blk1 hB55) (by have := HLEN.out; have := HN2.out; have := HLC.out; have := HI1.out; omega) (Nat.le_of_lt hA55.out.lt) (fun X56 D56 U57 ha56 hg56 _ => ?_))
                  have hA56 := AppS.app2 hA55 ha56 hg56
                  have hB52_53_54_55_56 := Blk.grown hB52_53_54_55 hg56 (own_ne hA55.o2 hB52_53_54_55 (by decide))
                  refine hK.out _ _ (AppS.s20 hA56) ?_
                  clear hK
                  try simp only [Act.put, List.setIfInBounds_toArray, List.set_cons_zero, List.set_cons_succ]
                  refine till_ready (rs := [17]) (by kernel_rfl) (by simp) ?_
                  refine TillAll.cons (o := { dst := some 86, op := _, type := _, pos := _, after := _, guard := none }) (by decide) rfl (fun K hK => ?_) TillAll.nil
                  refine as_wanted rfl (wp_append_part U57 (.tmp 82) (.tmp 85) rfl (w.heap.size + 1 + 1 + 1) A3 n3 C3 s.bodies HN3.out.symm rfl hA56.o3 (by have := HLEN.out; have := HLC.out; have := HI1.out; omega) A6 n6 C6 u.body hA56.ob.len hA56.ob (some ⟨p2_52, 0, none⟩) 1 rfl (row_of_blk1 hB52_53_54_55_56) (Nat.le_of_lt hA56.out.lt) (fun X57 D57 U58 ha57 hg57 h457 h557 h657 => ?_))
                  have hA57 := AppS.app3 hA56 ha57 hg57 h457 h557 h657
                  refine hK.out _ _ (EndS.s20 hA57) ?_
                  clear hK
                  try simp only [Act.put, List.setIfInBounds_toArray, List.set_cons_zero, List.set_cons_succ]
                  exact REST p0_53 p1_55 p2_52 _ _ _ _ _ _ _ hA57
                · go_simp
                  have hA58 := AppS.alloc hA53 (.cells #[(.bool u.r)] 4)
                  have hB58 := Blk.new U54 #[(.bool u.r)] 4
                  have hB52_53_58 := Blk.alloc hB52_53 (.cells #[(.bool u.r)] 4)
                  have hB53_58 := Blk.alloc hB53 (.cells #[(.bool u.r)] 4)
                  refine hK.out _ _ (AppS.s20 hA58) ?_
                  clear hK
                  try simp only [Act.put, List.setIfInBounds_toArray, List.set_cons_zero, List.set_cons_succ]
                  generalize U54.alloc _ = U59 at *
                  generalize U54.heap.size = p1_58 at *
                  refine till_ready (rs := [5]) (by kernel_rfl) (by simp) ?_
                  refine TillAll.cons (o := { dst := some 74, op := _, type := _, pos := _, after := _, guard := none }) (by decide) rfl (fun K hK => ?_) TillAll.nil
                  refine as_wanted rfl (wp_append_int U59 (.tmp 70) (.tmp 73) rfl (w.heap.size + 1 + 1 + 1) A1 n1 C1 s.seqs rfl hA58.o1 (some ⟨p0_53, 0, none⟩) 1 1 [u.seq] rfl (row_of_blk1 hB53_58) (by have := HLEN.out; have := HN1.out; have := HLC.out; have := HI1.out; omega) (Nat.le_of_lt hA58.out.lt) (fun X59 D59 U60 ha59 hg59 _ => ?_))
                  have hA59 := AppS.app1 hA58 ha59 hg59
                  have hB52_53_58_59 := Blk.grown hB52_53_58 hg59 (own_ne hA58.o1 hB52_53_58 (by decide))
                  have hB58_59 := Blk.grown hB58 hg59 (own_ne hA58.o1 hB58 (by decide))
                  refine hK.out _ _ (AppS.s20 hA59) ?_
                  clear hK
                  try simp only [Act.put, List.setIfInBounds_toArray, List.set_cons_zero, List.set_cons_succ]
                  have hH59 := AppS.s20 hA59
                  unfold S20 at hH59
                  refine till_take [] (i := 18) (oi := { dst := some 87, op := _, type := _, pos := _, after := _, guard := none }) (v := ?v18x59) rfl (by kernel_rfl) (by kernel_rfl) (by kernel_rfl) (by kernel_rfl) (by kernel_rfl) (fun _ _ _ h => h) (Or.inl ⟨by rfl, ?y18x59⟩) (by assumption) ?r18x59
                  (case y18x59 => intro w hSw; (try dsimp only at hSw); go_simp; try with_reducible rfl)
                  try simp only [Act.put, List.setIfInBounds_toArray, List.set_cons_zero, List.set_cons_succ]
                  clear hH59
                  refine till_ready (rs := [11]) (by kernel_rfl) (by simp) ?_
                  refine TillAll.cons (o := { dst := some 80, op := _, type := _, pos := _, after := _, guard := none }) (by decide) rfl (fun K hK => ?_) TillAll.nil
                  refine as_wanted rfl (wp_append_bool U60 (.tmp 76) (.tmp 79) rfl (w.heap.size + 1 + 1 + 1) A2 n2 C2 s.retry rfl hA59.o2 (some ⟨p1_58, 0, none⟩) 1 1 [u.r] rfl (row_of_blk1 hB58_59) (by have := HLEN.out; have := HN2.out; have := HLC.out; have := HI1.out; omega) (Nat.le_of_lt hA59.out.lt) (fun X60 D60 U61 ha60 hg60 _ => ?_))
                  have hA60 := AppS.app2 hA59 ha60 hg60
                  have hB52_53_58_59_60 := Blk.grown hB52_53_58_59 hg60 (own_ne hA59.o2 hB52_53_58_59 (by decide))
                  refine hK.out _ _ (AppS.s20 hA60) ?_
                  clear hK
                  try simp only [Act.put, List.setIfInBounds_toArray, List.set_cons_zero, List.set_cons_succ]
                  refine till_ready (rs := [17]) (by kernel_rfl) (by simp) ?_
                  refine TillAll.cons (o := { dst := some 86, op := _, type := _, pos := _, after := _, guard := none }) (by decide) rfl (fun K hK => ?_) TillAll.nil
                  refine as_wanted rfl (wp_append_part U61 (.tmp 82) (.tmp 85) rfl (w.heap.size + 1 + 1 + 1) A3 n3 C3 s.bodies HN3.out.symm rfl hA60.o3 (by have := HLEN.out; have := HLC.out; have := HI1.out; omega) A6 n6 C6 u.body hA60.ob.len hA60.ob (some ⟨p2_52, 0, none⟩) 1 rfl (row_of_blk1 hB52_53_58_59_60) (Nat.le_of_lt hA60.out.lt) (fun X61 D61 U62 ha61 hg61 h461 h561 h661 => ?_))
                  have hA61 := AppS.app3 hA60 ha61 hg61 h461 h561 h661
                  refine hK.out _ _ (EndS.s20 hA61) ?_
                  clear hK
                  try simp only [Act.put, List.setIfInBounds_toArray, List.set_cons_zero, List.set_cons_succ]
                  exact REST p0_53 p1_58 p2_52 _ _ _ _ _ _ _ hA61
              · go_simp
                have hA62 := AppS.alloc hA52 (.cells #[(.bool u.r)] 4)
                have hB62 := Blk.new U53 #[(.bool u.r)] 4
                have hB52_62 := Blk.alloc hB52 (.cells #[(.bool u.r)] 4)
                refine hK.out _ _ (AppS.s20 hA62) ?_
                clear hK
                try simp only [Act.put, List.setIfInBounds_toArray, List.set_cons_zero, List.set_cons_succ]
                generalize U53.alloc _ = U63 at *
                generalize U53.heap.size = p1_62 at *
                refine till_ready (rs := [4]) (by kernel_rfl) (by simp) ?_
                refine TillAll.cons (o := { dst := some 73, op := _, type := _, pos := _, after := _, guard := none }) (by decide) rfl (fun K hK => ?_) TillAll.nil
                go_simp
                have hA63 := AppS.alloc hA62 (.cells #[(.int .i64 u.seq)] 3)
                have hB63 := Blk.new U63 #[(.int .i64 u.seq)] 3
                have hB52_62_63 := Blk.alloc hB52_62 (.cells #[(.int .i64 u.seq)] 3)
                have hB62_63 := Blk.alloc hB62 (.cells #[(.int .i64 u.seq)] 3)
                refine hK.out _ _ (AppS.s20 hA63) ?_
                clear hK
                try simp only [Act.put, List.setIfInBounds_toArray, List.set_cons_zero, List.set_cons_succ]
                generalize U63.alloc _ = U64 at *
                generalize U63.heap.size = p0_63 at *
                refine till_ready (rs := [5]) (by kernel_rfl) (by simp) ?_
                refine TillAll.cons (o := { dst := some 74, op := _, type := _, pos := _, after := _, guard := none }) (by decide) rfl (fun K hK => ?_) TillAll.nil
                refine as_wanted rfl (wp_append_int U64 (.tmp 70) (.tmp 73) rfl (w.heap.size + 1 + 1 + 1) A1 n1 C1 s.seqs rfl hA63.o1 (some ⟨p0_63, 0, none⟩) 1 1 [u.seq] rfl (row_of_blk1 hB63) (by have := HLEN.out; have := HN1.out; have := HLC.out; have := HI1.out; omega) (Nat.le_of_lt hA63.out.lt) (fun X64 D64 U65 ha64 hg64 _ => ?_))
                have hA64 := AppS.app1 hA63 ha64 hg64
                have hB52_62_63_64 := Blk.grown hB52_62_63 hg64 (own_ne hA63.o1 hB52_62_63 (by decide))
                have hB62_63_64 := Blk.grown hB62_63 hg64 (own_ne hA63.o1 hB62_63 (by decide))
                refine hK.out _ _ (AppS.s20 hA64) ?_
                clear hK
                try simp only [Act.put, List.setIfInBounds_toArray, List.set_cons_zero, List.set_cons_succ]
                have hH64 := AppS.s20 hA64
                unfold S20 at hH64
                refine till_take [] (i := 18) (oi := { dst := some 87, op := _, type := _, pos := _, after := _, guard := none }) (v := ?v18x64) rfl (by kernel_rfl) (by kernel_rfl) (by kernel_rfl) (by kernel_rfl) (by kernel_rfl) (fun _ _ _ h => h) (Or.inl ⟨by rfl, ?y18x64⟩) (by assumption) ?r18x64
                (case y18x64 => intro w hSw; (try dsimp only at hSw); go_simp; try with_reducible rfl)
                try simp only [Act.put, List.setIfInBounds_toArray, List.set_cons_zero, List.set_cons_succ]
                clear hH64
                refine till_ready (rs := [11]) (by kernel_rfl) (by simp) ?_
                refine TillAll.cons (o := { dst := some 80, op := _, type := _, pos := _, after := _, guard := none }) (by decide) rfl (fun K hK => ?_) TillAll.nil
                refine as_wanted rfl (wp_append_bool U65 (.tmp 76) (.tmp 79) rfl (w.heap.size + 1 + 1 + 1) A2 n2 C2 s.retry rfl hA64.o2 (some ⟨p1_62, 0, none⟩) 1 1 [u.r] rfl (row_of_blk1 hB62_63_64) (by have := HLEN.out; have := HN2.out; have := HLC.out; have := HI1.out; omega) (Nat.le_of_lt hA64.out.lt) (fun X65 D65 U66 ha65 hg65 _ => ?_))
                have hA65 := AppS.app2 hA64 ha65 hg65
                have hB52_62_63_64_65 := Blk.grown hB52_62_63_64 hg65 (own_ne hA64.o2 hB52_62_63_64 (by decide))
                refine hK.out _ _ (AppS.s20 hA65) ?_
                clear hK
                try simp only [Act.put, List.setIfInBounds_toArray, List.set_cons_zero, List.set_cons_succ]
                refine till_ready (rs := [17]) (by kernel_rfl) (by simp) ?_
                refine TillAll.cons (o := { dst := some 86, op := _, type := _, pos := _, after := _, guard := none }) (by decide) rfl (fun K hK => ?_) TillAll.nil
                refine as_wanted rfl (wp_append_part U66 (.tmp 82) (.tmp 85) rfl (w.heap.size + 1 + 1 + 1) A3 n3 C3 s.bodies HN3.out.symm rfl hA65.o3 (by have := HLEN.out; have := HLC.out; have := HI1.out; omega) A6 n6 C6 u.body hA65.ob.len hA65.ob (some ⟨p2_52, 0, none⟩) 1 rfl (row_of_blk1 hB52_62_63_64_65) (Nat.le_of_lt hA65.out.lt) (fun X66 D66 U67 ha66 hg66 h466 h566 h666 => ?_))
                have hA66 := AppS.app3 hA65 ha66 hg66 h466 h566 h666
                refine hK.out _ _ (EndS.s20 hA66) ?_
                clear hK
                try simp only [Act.put, List.setIfInBounds_toArray, List.set_cons_zero, List.set_cons_succ]
                exact REST p0_63 p1_62 p2_52 _ _ _ _ _ _ _ hA66
          case rest =>
            intro p1 p2 p3 X1 D1 X2 D2 X3 D3 U hE0
            have hHeld := EndS.s20 hE0
            unfold S20 at hHeld
            have cc19 := hE0.chk.out.cell 1
            have cf19 := hE0.chk.out.frozen 1
            unfold sentcells at cc19
            simp only [List.getElem?_toArray, List.getElem?_cons_zero, List.getElem?_cons_succ] at cc19
            refine till_st (o := { dst := none, op := _, type := _, pos := _, after := _, guard := none }) (by kernel_rfl) rfl (fun K hK => ?_)
            go_simp
            have hE19 := hE0.set_ 1 (.slice X1 (n1 + 1) D1)
            rw [sc1] at hE19
            refine hK.out _ _ ?_
            clear hK cc19 cf19
            try simp only [Act.put, List.setIfInBounds_toArray, List.set_cons_zero, List.set_cons_succ]
            generalize U.setCell _ _ = U1019 at *
            refine wpAny_take (i := 20) (oi := { dst := some 88, op := _, type := _, pos := _, after := _, guard := none }) (v := ?vd21) rfl (by kernel_rfl) (by kernel_rfl) (by kernel_rfl) (fun _ _ _ h => h) (Or.inl ⟨by rfl, ?yd21⟩) ?_
            case yd21 => (intro w; go_simp; try with_reducible rfl)
            try simp only [Act.put, List.setIfInBounds_toArray, List.set_cons_zero, List.set_cons_succ]
            have cc21 := hE19.chk.out.cell 2
            have cf21 := hE19.chk.out.frozen 2
            unfold sentcells at cc21
            simp only [List.getElem?_toArray, List.getElem?_cons_zero, List.getElem?_cons_succ] at cc21
            refine any_one (i := 21) (o := { dst := none, op := _, type := _, pos := _, after := _, guard := none }) (by kernel_rfl) rfl (fun K hK => ?_)
            go_simp
            have hE21 := hE19.set_ 2 (.slice X2 (n2 + 1) D2)
            rw [sc2] at hE21
            refine hK.out _ _ ?_
            clear hK cc21 cf21
            try simp only [Act.put, List.setIfInBounds_toArray, List.set_cons_zero, List.set_cons_succ]
            generalize U1019.setCell _ _ = U1021 at *
            refine wpAny_take (i := 22) (oi := { dst := some 89, op := _, type := _, pos := _, after := _, guard := none }) (v := ?vd23) rfl (by kernel_rfl) (by kernel_rfl) (by kernel_rfl) (fun _ _ _ h => h) (Or.inl ⟨by rfl, ?yd23⟩) ?_
            case yd23 => (intro w; go_simp; try with_reducible rfl)
            try simp only [Act.put, List.setIfInBounds_toArray, List.set_cons_zero, List.set_cons_succ]
            have cc23 := hE21.chk.out.cell 5
            have cf23 := hE21.chk.out.frozen 5
            unfold sentcells at cc23
            simp only [List.getElem?_toArray, List.getElem?_cons_zero, List.getElem?_cons_succ] at cc23
            refine any_one (i := 23) (o := { dst := none, op := _, type := _, pos := _, after := _, guard := none }) (by kernel_rfl) rfl (fun K hK => ?_)
            go_simp
            have hE23 := hE21.set_ 5 (.slice X3 (n3 + 1) D3)
            rw [sc5] at hE23
            refine hK.out _ _ ?_
            clear hK cc23 cf23
            try simp only [Act.put, List.setIfInBounds_toArray, List.set_cons_zero, List.set_cons_succ]
            generalize U1021.setCell _ _ = U1023 at *
            refine wpAny_done (by kernel_rfl) ?_ _
            have hCK : ChkT WP (w.heap.size + 1 + 1 + 1) (sentS s u) X1 D1 X2 D2 X3 D3 U1023 := chkT_next HN1.out HN2.out HN3.out hE23.chk
            have hLS : LastS U1023 (.pointer (some ⟨pf, 0, none⟩)) (some u) := ⟨pf, A6, n6, C6, rfl, hE23.f⟩
            have HCK := Lib.hid hCK
            have HLSN := Lib.hid hLS
            clear hCK hLS hE0 hE19 hE21 hE23
            go_wp2_with fail
            refine ⟨?_, by simp [intOf]; have := HI1.out; omega⟩
            refine ⟨i + 1, sentS s u, some u, X1, D1, X2, D2, X3, D3, HI1.out, by simp, by have := HLEN.out; simp [sentS]; omega, HLSN.out, HCK.out, ?_⟩
            exact HU.out.trans ((congrArg (fun z => sentL m z i s l) HX.out).trans HSN.out)
      case some =>
        have HRD := Lib.hid hrd
        rw [hrd] at HC
        have HC2 := HC.out
        simp only [errO, errV] at HC2
        have HC := Lib.hid HC2
        clear HC2
        have g1 : ∀ w, (eqGuard .eql 42 (.tmp 46) (.const .nilIface) (.iface 122 (.pointer (some (E c)))) .nilIface).run Tryd.prog w = .ok () w := fun w => err_guard E (some c) (.tmp 46) .nilIface w
        have e1 : ∀ w, (binOp .eql 42 (.iface 122 (.pointer (some (E c)))) .nilIface).run Tryd.prog w = .ok (.bool false) w := fun w => err_isnil E (some c) w
        have g2 : ∀ w, (eqGuard .neq 42 (.tmp 52) (.const .nilIface) (.iface 122 (.pointer (some (E c)))) .nilIface).run Tryd.prog w = .ok () w := fun w => err_guard' E (some c) (.tmp 52) .nilIface w
        have e2 : ∀ w, (binOp .neq 42 (.iface 122 (.pointer (some (E c)))) .nilIface).run Tryd.prog w = .ok (.bool true) w := fun w => err_nonnil E (some c) w
        clear hrd c5 r5
        refine HC.out.mono ?_
        rintro e w2 ⟨A6, n6, C6, rfl, ho6, hb6⟩
        have hZ2 := HZW.out.below hb6 HZW.out.lt
        have z2 := hb6.size
        have HB2 := Lib.hid hb6
        clear ho6 hb6
        unfold uv
        go_wp2_with (first
          | (refine wpList_store_blk _ (by rfl) 35 _ _ rfl w2.heap.size _ rfl rfl 35 _ (Blk.new _ _ _) (by kernel_rfl) rfl (qcells_one _ _ _ _ _ _ _ _ _) ?_; intro w3 hk3 hg3; have hb23 : Below w2.heap.size w2 w3 := Below.grown ((Below.refl _ _).alloc (Nat.le_refl _) _) hg3 (by simp) (by simp); have HZ3 := Lib.hid (hZ2.below hb23 hZ2.lt); have HB3 := Lib.hid (HB2.out.trans (hb23.mono z2)); clear hk3 hg3 hb23)
          | (refine wpList_store_blk _ (by rfl) 40 _ _ rfl (w.heap.size + 1) zsent rfl rfl 40 _ (HZ3.out.alloc _) (by kernel_rfl) rfl (by kernel_rfl) ?_; intro w4 hk4 hg4))
        have HP := Lib.hid (show allR m false n [b] = .placed c i by unfold allR; rw [HU.out, HX.out, sent_bad HRD.out])
        have z5 := HB3.out.size
        refine ret_cell_tmp rfl _ _ zsent (atV w3.heap.size) rfl hk4 (by kernel_rfl) (by kernel_rfl) rfl rfl ?_
        rw [HP.out]
        exact ⟨w3.heap.size, rfl, (Blk.new _ _ _).grown hg4 (by simp; have := HLW.out; omega), by have := HLW.out; omega, Below.grown ((HBW.out.trans (HB3.out.mono (by have := HLW.out; omega))).alloc (by have := HLW.out; omega) _) hg4 (by simp; have := HLW.out; omega) (by simp)⟩
    case neg =>
      obtain rfl : i = 1 := by omega
      have q1 : ¬ ((1 : Int) < (1 : Int)) := by omega
      clear hi1 hi
      have HEND := Lib.hid (show sentL m [b] 0 noSent none = .ok s by rw [HU.out]; (have := HLN.out); simp [sentL, this])
      have c22 := HMW.out
      clear c22
      go_wp2_with (refine wpList_load_blk _ (by rfl) 30 _ rfl w.heap.size rfl 30 _ _ HMW.out Tryd.underlying30 rfl (by kernel_rfl) ?_)
      have HWH := Lib.hid (whole_any ((HE.out.below HBW.out (Nat.le_refl _)).sub (by decide)) m false (1 : Int) (n : Int) (by omega) (by have := HN.out; omega))
      rcases hwh : wholeP m false (1 : Int) (n : Int) with _ | c
      case none =>
        have HWP := Lib.hid hwh
        rw [hwh] at HWH
        have HW2 := HWH.out
        simp only [errO] at HW2
        have HWH := Lib.hid HW2
        clear HW2 hwh
        have g3 : ∀ w, (eqGuard .neq 42 (.tmp 98) (.const .nilIface) .nilIface .nilIface).run Tryd.prog w = .ok () w := fun w => err_guard' E none (.tmp 98) .nilIface w
        refine HWH.out.mono ?_
        rintro e w2 ⟨rfl, hb2⟩
        have HS2 := Lib.hid (ChkW.below HS.out hb2)
        have HZ2 := Lib.hid (HZW.out.below hb2 HZW.out.lt)
        have HB2 := Lib.hid (HBW.out.trans (hb2.mono HBW.out.size))
        clear hb2
        go_wp2_with (first
          | (refine wpList_load_blk _ (by rfl) 40 _ rfl (w.heap.size + 1 + 1 + 1) rfl 40 _ _ HS2.out.out Tryd.underlying40 rfl (by kernel_rfl) ?_)
          | (refine wpList_store_blk _ (by rfl) 40 _ _ rfl (w.heap.size + 1) _ rfl rfl 40 zsent HZ2.out (by kernel_rfl) rfl sent_one ?_; intro w4 hk4 hg4))
        have HP := Lib.hid (show allR m false n [b] = .fine s by unfold allR; rw [HEND.out]; simp only; rw [show (([b]).length : Int) = (1 : Int) by rw [HLN.out]; rfl, HWP.out])
        refine ret_cell_tmp rfl _ _ _ .nilIface rfl hk4 (by kernel_rfl) (by kernel_rfl) rfl rfl ?_
        rw [HP.out]
        have hT := HS2.out
        have hlt := HLW.out
        have hge : w.heap.size ≤ (w.heap.size + 1 + 1 + 1) := by omega
        have hz := HZ2.out
        have lz := hz.lt
        refine ⟨A1, C1, A2, C2, A3, C3, rfl, ?_, ?_, ?_, Below.grown HB2.out hg4 (by omega) (by simp)⟩
        · exact OwnI.base_le (own_keep hT.o1 hg4 (.inr (Ne.symm (own_ne hT.o1 hz (by decide))))) hge
        · exact OwnB.base_le (own_keep hT.o2 hg4 (.inr (Ne.symm (own_ne hT.o2 hz (by decide))))) hge
        · obtain ⟨A', C', vs', e', ho', hp'⟩ := hT.o3
          refine OwnP.base_le ⟨A', C', vs', e', own_keep ho' hg4 (.inr (Ne.symm (own_ne ho' hz (by decide)))), fun i' u' x' hu hx => ?_⟩ hge
          obtain ⟨A'', C'', e'', ho''⟩ := hp' i' u' x' hu hx
          exact ⟨A'', C'', e'', own_keep ho'' hg4 (.inr (Ne.symm (own_ne ho'' hz (by decide))))⟩
      case some =>
        have HWP := Lib.hid hwh
        rw [hwh] at HWH
        have HW2 := HWH.out
        simp only [errO, errV] at HW2
        have HWH := Lib.hid HW2
        clear HW2 hwh
        have g3 : ∀ w, (eqGuard .neq 42 (.tmp 98) (.const .nilIface) (.iface 122 (.pointer (some (E c)))) .nilIface).run Tryd.prog w = .ok () w := fun w => err_guard' E (some c) (.tmp 98) .nilIface w
        have e3 : ∀ w, (binOp .neq 42 (.iface 122 (.pointer (some (E c)))) .nilIface).run Tryd.prog w = .ok (.bool true) w := fun w => err_nonnil E (some c) w
        refine HWH.out.mono ?_
        rintro e w2 ⟨rfl, hb2⟩
        have HZ2 := Lib.hid (HZW.out.below hb2 HZW.out.lt)
        have HB2 := Lib.hid (HBW.out.trans (hb2.mono HBW.out.size))
        clear hb2
        go_wp2_with (refine wpList_store_blk _ (by rfl) 40 _ _ rfl (w.heap.size + 1) zsent rfl rfl 40 _ HZ2.out (by kernel_rfl) rfl (by kernel_rfl) ?_; intro w4 hk4 hg4)
        have HP := Lib.hid (show allR m false n [b] = .bare c by unfold allR; rw [HEND.out]; simp only; rw [show (([b]).length : Int) = (1 : Int) by rw [HLN.out]; rfl, HWP.out])
        have lz := HZ2.out.lt
        refine ret_cell_tmp rfl _ _ zsent (errV E c) rfl hk4 (by kernel_rfl) (by kernel_rfl) rfl rfl ?_
        rw [HP.out]
        exact ⟨rfl, Below.grown HB2.out hg4 (by omega) (by simp)⟩
end Go.Proofs.YtoagmehgiaamlaaDoor
