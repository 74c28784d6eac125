/-
  The document's Check over its frames (many). Printed by gen_rcheck.py.
-/
import Derived.Test.YtoagmehgiaamlaaDoorRefCheckPlain
import Derived.Test.YtoagmehgiaamlaaDoorRefAir
namespace Go.Proofs.YtoagmehgiaamlaaDoor
open Go.ChangeShapes Go.WideShapes Go.ChangeAt Go.RowKit
set_option linter.unusedVariables false

set_option maxRecDepth 100000 in
set_option maxHeartbeats 16000000 in
theorem rcheck_many {w : World} (m : RulesP) (hm : m.session = true) (hs0 : -9223372036854775808 ≤ m.r.s) (hs1 : m.r.s ≤ 9223372036854775807) (ht0 : -9223372036854775808 ≤ m.start) (ht1 : m.start ≤ 9223372036854775807) (A : Option Addr) (n C : Nat) (b : List UInt8) (h : Row w 1 A n C (b.map u8v)) (hn : n ≤ 1048576) (L : List (List UInt8)) (hc : partsP b = .ok L) :
    Calls Tryd.prog 16 #[.agg (rucells m), .bool true, .slice A n C] w fun e w' => RCheckR w (allR m true n L) e w' := by
  have hk : Blk ((((w.alloc (.cells (rucells m) 55)).alloc (.cells zsent 52)).alloc (.cells #[.int .i64 0, .bool false, .int .i64 0] 47)).alloc (.cells #[.slice A n C] 22)) w.heap.size (rucells m) 55 := (((Blk.new w _ _).alloc _).alloc _).alloc _
  have hr := ((Blk.new (w.alloc (.cells (rucells m) 55)) zsent 52).alloc (.cells #[.int .i64 0, .bool false, .int .i64 0] 47)).alloc (.cells #[.slice A n C] 22)
  rw [show (w.alloc (.cells (rucells m) 55)).heap.size = w.heap.size + 1 by simp] at hr
  have hf := (Blk.new ((w.alloc (.cells (rucells m) 55)).alloc (.cells zsent 52)) #[.int .i64 0, .bool false, .int .i64 0] 47).alloc (.cells #[.slice A n C] 22)
  rw [show ((w.alloc (.cells (rucells m) 55)).alloc (.cells zsent 52)).heap.size = w.heap.size + 1 + 1 by simp] at hf
  have hb : Below w.heap.size w ((((w.alloc (.cells (rucells m) 55)).alloc (.cells zsent 52)).alloc (.cells #[.int .i64 0, .bool false, .int .i64 0] 47)).alloc (.cells #[.slice A n C] 22)) := ((((Below.refl _ _).alloc (Nat.le_refl _) _).alloc (by simp) _).alloc (by simp; omega) _).alloc (by simp; omega) _
  have c21 : ((((w.alloc (.cells (rucells m) 55)).alloc (.cells zsent 52)).alloc (.cells #[.int .i64 0, .bool false, .int .i64 0] 47)).alloc (.cells #[.slice A n C] 22)).cell? ⟨w.heap.size, 21, none⟩ = some (.bool true) := by have h := hk.cell 21; rw [h]; exact congrArg (fun z => some (Value.bool z)) hm
  have HN := Lib.hid hn
  have HRW := Lib.hid h
  have HPE := Lib.hid hc
  have HK0 := Lib.hid hk
  have HR := Lib.hid hr
  have HFF := Lib.hid hf
  have HB := Lib.hid hb
  have HS01 := Lib.hid (And.intro hs0 hs1)
  have HT01 := Lib.hid (And.intro ht0 ht1)
  have HLC := Lib.hid (parts_count hc)
  clear hs0 hs1 ht0 ht1 h hc hk hr hf hb
  rw [zsent_eq] at HR HFF HB HK0 c21
  go_enter Tryd.func16, Tryd.ntmps16
  go_wp2_with fail
  generalize (((w.alloc _).alloc _).alloc _).alloc _ = W at *
  have HPC := Lib.hid (refParts_any (w := W) A n C b (HRW.out.below HB.out (Nat.le_refl _)) hn)
  rw [HPE.out] at HPC
  refine HPC.out.mono ?_
  rintro e WP ⟨v, rfl, ho, hb0⟩
  obtain ⟨PA, PC, rfl, hrp⟩ := ho.row
  have lk := HFF.out.lt
  have HRP := Lib.hid hrp
  have HM := Lib.hid (HK0.out.below hb0 HK0.out.lt)
  have HZ := Lib.hid (HR.out.below hb0 HR.out.lt)
  have HF := Lib.hid (HFF.out.below hb0 HFF.out.lt)
  have HBP := Lib.hid (HB.out.trans (hb0.mono HB.out.size))
  have hch := Rchk_start WP WP.heap.size rfl
  obtain ⟨po, hpo⟩ : ∃ po, WP.heap.size = po := ⟨_, rfl⟩
  obtain ⟨nL, hLN⟩ : ∃ nL, L.length = nL := ⟨_, rfl⟩
  have HLW := Lib.hid (show w.heap.size + 1 + 1 < po by have := hb0.size; omega)
  have HPO := Lib.hid hpo
  have HLN := Lib.hid hLN
  clear hb0 ho hrp lk c21
  rw [hLN] at HRP HLC ⊢
  rw [hpo] at hch
  have HCH := Lib.hid hch
  rw [zsent_eq] at HCH
  clear hch hLN
  go_wp2_with fail
  generalize WP.alloc _ = W2 at *

  go_loopw [12] (fun iv wr => ∃ (i : Nat) (s : SentP) (l : Option URead) (A1 : Option Addr) (C1 : Nat) (A2 : Option Addr) (C2 : Nat) (A3 : Option Addr) (C3 : Nat), i ≤ nL ∧ iv = .int .i64 i ∧ (s.seqs.length = i ∧ s.retry.length = i ∧ s.bodies.length = i) ∧ LastD s i l ∧ SeqB s ∧ RChkT WP po s A1 C1 A2 C2 A3 C3 wr ∧ sentL m L 0 noSent none = sentL m (L.drop i) i s l)
    (fun iv _ => nL - (intOf iv).toNat)
  case atStart => exact ⟨0, noSent, none, none, 0, none, 0, none, 0, Nat.zero_le _, rfl, ⟨rfl, rfl, rfl⟩, rfl, (by intro q hq; cases hq), HCH.out, rfl⟩
  case round =>
    obtain ⟨i, s, l, A1, C1, A2, C2, A3, C3, hi, rfl, hlen, hl, hsb, hS, hU⟩ := hrel
    have HS := Lib.hid hS
    have HSB := Lib.hid hsb
    clear hsb
    have HLS := Lib.hid hl
    have HU := Lib.hid hU
    have HLEN := Lib.hid hlen
    have HI := Lib.hid hi
    have z1 : po < wr.heap.size := hS.out.lt
    have HBW := Lib.hid (HBP.out.trans (hS.bel.mono (by have := HLW.out; omega)))
    have HZW := Lib.hid (HZ.out.below hS.bel (by have := HLW.out; omega))
    have HFW := Lib.hid (HF.out.below hS.bel HLW.out)
    have HMW := Lib.hid (HM.out.below hS.bel (by have := HLW.out; omega))
    clear hl hS hU hlen
    by_cases hi1 : i < nL
    case pos =>
      have HRW := Lib.hid (HRP.out.below HS.out.bel (Nat.le_of_eq HPO.out))
      obtain ⟨b1, o1, x, A5, C5, e5, l5, hx, c5, r5⟩ := HRW.out.at_ hi1
      subst e5
      have q1 : (i : Int) < (nL : Int) := by omega
      have q2 : IntKind.i64.wrap ((i : Int) + 1) = (i : Int) + 1 := IntWalk.i64_in _ (by have := HLC.out; omega)
      have HX := Lib.hid (drop_of_get hx)
      have HI1 := Lib.hid hi1
      clear hi hi1 hx
      go_wp2_with fail
      have HC := Lib.hid (rreadU A5 x.length C5 x wr r5)
      rcases hrd : rdErr x with _ | c
      case some =>
        have HRD := Lib.hid hrd
        rw [hrd, show errCode (some c) = 101 + (c : Int) from rfl] at HC
        have g0 : (101 + (c : Int) != 0) = true := by simp; omega
        clear hrd c5 r5
        refine HC.out.mono ?_
        rintro e w2 ⟨A6, n6, C6, rfl, ho6, hb6⟩
        have HB2 := Lib.hid hb6
        have z2 := hb6.size
        clear ho6 hb6
        unfold uv
        go_wp2_with (refine wpList_store_blk _ (by rfl) 35 _ _ rfl w2.heap.size _ rfl rfl 35 _ (Blk.new _ _ _) (by kernel_rfl) rfl (qcells_one _ _ _ _ _ _ _ _ _) ?_; intro w3 hk3 hg3; have hb23 : Below w2.heap.size w2 w3 := Below.grown ((Below.refl _ _).alloc (Nat.le_refl _) _) hg3 (by simp) (by simp); have HB3 := Lib.hid (HB2.out.trans (hb23.mono z2)); clear hk3 hg3 hb23)
        refine (placed_any (101 + (c : Int)) (i : Int) (by omega) w3).mono ?_
        rintro e w4 ⟨rfl, hb4⟩
        have HB4 := Lib.hid (HB3.out.trans (hb4.mono HB3.out.size))
        have hz4 := HZW.out.below HB4.out HZW.out.lt
        have HF4 := Lib.hid (HFW.out.below HB4.out HFW.out.lt)
        clear hb4
        go_wp2_with (first
          | (refine wpList_store_blk _ (by rfl) 52 _ _ rfl (w.heap.size + 1) zsent rfl rfl 52 _ hz4 (by kernel_rfl) rfl (by kernel_rfl) ?_; intro w5 hk5 hg5; have hf5 := HF4.out.grown hg5 (by simp); have HB5 := Lib.hid (Below.grown (HBW.out.trans (HB4.out.mono (by have := HLW.out; omega))) hg5 (by have := HB4.out.size; have := HLW.out; omega) (by simp)))
          | (refine wpList_store_blk _ (by rfl) 47 _ _ rfl (w.heap.size + 1 + 1) (faultcells (.placed c i)) rfl rfl 47 _ hf5 (by kernel_rfl) rfl (by kernel_rfl) ?_; intro w6 hk6 hg6))
        have HP := Lib.hid (show allR m true n L = .placed c i by unfold allR; rw [HU.out, HX.out, sent_bad HRD.out])
        refine ret_cell2 rfl _ _ _ _ zsent (faultcells (.placed c i)) rfl (hk5.grown hg6 (by simp)) (by kernel_rfl) (by kernel_rfl) rfl hk6 (by kernel_rfl) (by kernel_rfl) rfl ?_
        rw [HP.out]
        exact ⟨rfl, Below.grown HB5.out hg6 HB5.out.size (by simp; omega)⟩
      case none =>
        have HRD := Lib.hid hrd
        rw [hrd, show errCode none = 0 from rfl] at HC
        clear hrd c5 r5
        obtain ⟨u, hu⟩ : ∃ u, uread x = u := ⟨_, rfl⟩
        rw [hu] at HC
        have HUX := Lib.hid hu
        clear hu
        have HPD := Lib.hid (gpart_doc (m := m) (u := u) HLS.out)
        refine HC.out.mono ?_
        rintro e w2 ⟨A6, n6, C6, rfl, ho6, hb6⟩
        have HS2 := Lib.hid (RChkW.below HS.out hb6)
        have z2 := hb6.size
        have HB2 := Lib.hid hb6
        have HO6 := Lib.hid (ho6.base_le (b' := po) (by omega))
        clear ho6 hb6
        unfold uv
        go_wp2_with (first
          | (refine wpList_store_blk _ (by rfl) 35 _ _ rfl w2.heap.size _ rfl rfl 35 _ (Blk.new _ _ _) (by kernel_rfl) rfl (qcells_one _ _ _ _ _ _ _ _ _) ?_; intro w3 hk3 hg3; have hb23 : Below w2.heap.size w2 w3 := Below.grown ((Below.refl _ _).alloc (Nat.le_refl _) _) hg3 (by simp) (by simp); have HA3 := Lib.hid (RChkW.app (RChkW.below HS2.out hb23) hk3 (HO6.out.below hb23 (Nat.le_refl _))); have HB3 := Lib.hid (HB2.out.trans (hb23.mono z2)); have HM3 := Lib.hid (HMW.out.below HB3.out HMW.out.lt); clear hk3 hg3 hb23)
          | (refine wpList_load_mid (by rfl) 26 (.tmp 53) rfl w2.heap.size 0 rfl [.int .u8 ((u.a 0).toNat : Int), .int .u8 ((u.a 1).toNat : Int), .int .u8 ((u.a 2).toNat : Int), .int .u8 ((u.a 3).toNat : Int), .int .u8 ((u.a 4).toNat : Int), .int .u8 ((u.a 5).toNat : Int)] _ (HA3.out.f.range 0 [.int .u8 ((u.a 0).toNat : Int), .int .u8 ((u.a 1).toNat : Int), .int .u8 ((u.a 2).toNat : Int), .int .u8 ((u.a 3).toNat : Int), .int .u8 ((u.a 4).toNat : Int), .int .u8 ((u.a 5).toNat : Int)] (by rfl)) Tryd.underlying26 rfl (by kernel_rfl) ?_)
          | (refine wpList_load_mid (by rfl) 26 (.tmp 55) rfl w.heap.size 6 rfl [.int .u8 ((m.dst 0).toNat : Int), .int .u8 ((m.dst 1).toNat : Int), .int .u8 ((m.dst 2).toNat : Int), .int .u8 ((m.dst 3).toNat : Int), .int .u8 ((m.dst 4).toNat : Int), .int .u8 ((m.dst 5).toNat : Int)] _ (HM3.out.range 6 [.int .u8 ((m.dst 0).toNat : Int), .int .u8 ((m.dst 1).toNat : Int), .int .u8 ((m.dst 2).toNat : Int), .int .u8 ((m.dst 3).toNat : Int), .int .u8 ((m.dst 4).toNat : Int), .int .u8 ((m.dst 5).toNat : Int)] (by rfl)) Tryd.underlying26 rfl (by kernel_rfl) ?_))
        have HC1 := Lib.hid (sameAddr_any u.a m.dst w3)
        unfold av at HC1
        refine HC1.out.mono ?_
        rintro e w4 ⟨rfl, hb4⟩
        have HA4 := Lib.hid (RAppS.below HA3.out hb4)
        have HB4 := Lib.hid (HB3.out.trans (hb4.mono HB3.out.size))
        have HM4 := Lib.hid (HM3.out.below hb4 HM3.out.lt)
        clear hb4
        rcases hk1 : sameA u.a m.dst
        case false =>
          go_wp2_with fail
          refine (placed_any 105 (i : Int) (by decide) w4).mono ?_
          rintro e x4 ⟨rfl, hb4⟩
          have HBx := Lib.hid (HB4.out.trans (hb4.mono HB4.out.size))
          have hz4 := HZW.out.below HBx.out HZW.out.lt
          have HF4 := Lib.hid (HFW.out.below HBx.out HFW.out.lt)
          clear hb4
          go_wp2_with (first
            | (refine wpList_store_blk _ (by rfl) 52 _ _ rfl (w.heap.size + 1) zsent rfl rfl 52 _ hz4 (by kernel_rfl) rfl (by kernel_rfl) ?_; intro w5 hk5 hg5; have hf5 := HF4.out.grown hg5 (by simp); have HB5 := Lib.hid (Below.grown (HBW.out.trans (HBx.out.mono (by have := HLW.out; omega))) hg5 (by have := HBx.out.size; have := HLW.out; omega) (by simp)))
            | (refine wpList_store_blk _ (by rfl) 47 _ _ rfl (w.heap.size + 1 + 1) (faultcells (.placed 4 i)) rfl rfl 47 _ hf5 (by kernel_rfl) rfl (by kernel_rfl) ?_; intro w6 hk6 hg6))
          have HP := Lib.hid (show allR m true n L = .placed 4 i by unfold allR; rw [HU.out, HX.out, sent_amiss (c := 4) HRD.out (by rw [HUX.out, HPD.out]; simp [d1, hk1])])
          refine ret_cell2 rfl _ _ _ _ zsent (faultcells (.placed 4 i)) rfl (hk5.grown hg6 (by simp)) (by kernel_rfl) (by kernel_rfl) rfl hk6 (by kernel_rfl) (by kernel_rfl) rfl ?_
          rw [HP.out]
          exact ⟨rfl, Below.grown HB5.out hg6 HB5.out.size (by simp; omega)⟩
        case true =>
        have HK1 := Lib.hid hk1
        clear hk1
        go_wp2_with (first
          | (refine wpList_load_midG (by rfl) 26 (.tmp 60) rfl w2.heap.size 6 rfl [.int .u8 ((u.a 6).toNat : Int), .int .u8 ((u.a 7).toNat : Int), .int .u8 ((u.a 8).toNat : Int), .int .u8 ((u.a 9).toNat : Int), .int .u8 ((u.a 10).toNat : Int), .int .u8 ((u.a 11).toNat : Int)] _ (HA4.out.f.range 6 [.int .u8 ((u.a 6).toNat : Int), .int .u8 ((u.a 7).toNat : Int), .int .u8 ((u.a 8).toNat : Int), .int .u8 ((u.a 9).toNat : Int), .int .u8 ((u.a 10).toNat : Int), .int .u8 ((u.a 11).toNat : Int)] (by rfl)) Tryd.underlying26 rfl (by kernel_rfl) ?_)
          | (refine wpList_load_midG (by rfl) 26 (.tmp 62) rfl w.heap.size 0 rfl [.int .u8 ((m.bss 0).toNat : Int), .int .u8 ((m.bss 1).toNat : Int), .int .u8 ((m.bss 2).toNat : Int), .int .u8 ((m.bss 3).toNat : Int), .int .u8 ((m.bss 4).toNat : Int), .int .u8 ((m.bss 5).toNat : Int)] _ (HM4.out.range 0 [.int .u8 ((m.bss 0).toNat : Int), .int .u8 ((m.bss 1).toNat : Int), .int .u8 ((m.bss 2).toNat : Int), .int .u8 ((m.bss 3).toNat : Int), .int .u8 ((m.bss 4).toNat : Int), .int .u8 ((m.bss 5).toNat : Int)] (by rfl)) Tryd.underlying26 rfl (by kernel_rfl) ?_))
        have HC2 := Lib.hid (sameAddr_any (fun k => u.a (6 + k)) m.bss w4)
        unfold av at HC2
        refine HC2.out.mono ?_
        rintro e w5 ⟨rfl, hb5⟩
        have HA5 := Lib.hid (RAppS.below HA4.out hb5)
        have HB5 := Lib.hid (HB4.out.trans (hb5.mono HB4.out.size))
        have HM5 := Lib.hid (HM4.out.below hb5 HM4.out.lt)
        clear hb5
        rcases hk2 : sameA (fun k => u.a (6 + k)) m.bss
        case false =>
          go_wp2_with fail
          refine (placed_any 105 (i : Int) (by decide) w5).mono ?_
          rintro e x4 ⟨rfl, hb4⟩
          have HBx := Lib.hid (HB5.out.trans (hb4.mono HB5.out.size))
          have hz4 := HZW.out.below HBx.out HZW.out.lt
          have HF4 := Lib.hid (HFW.out.below HBx.out HFW.out.lt)
          clear hb4
          go_wp2_with (first
            | (refine wpList_store_blk _ (by rfl) 52 _ _ rfl (w.heap.size + 1) zsent rfl rfl 52 _ hz4 (by kernel_rfl) rfl (by kernel_rfl) ?_; intro w5 hk5 hg5; have hf5 := HF4.out.grown hg5 (by simp); have HB5 := Lib.hid (Below.grown (HBW.out.trans (HBx.out.mono (by have := HLW.out; omega))) hg5 (by have := HBx.out.size; have := HLW.out; omega) (by simp)))
            | (refine wpList_store_blk _ (by rfl) 47 _ _ rfl (w.heap.size + 1 + 1) (faultcells (.placed 4 i)) rfl rfl 47 _ hf5 (by kernel_rfl) rfl (by kernel_rfl) ?_; intro w6 hk6 hg6))
          have HP := Lib.hid (show allR m true n L = .placed 4 i by unfold allR; rw [HU.out, HX.out, sent_amiss (c := 4) HRD.out (by rw [HUX.out, HPD.out]; simp [d1, HK1.out, hk2])])
          refine ret_cell2 rfl _ _ _ _ zsent (faultcells (.placed 4 i)) rfl (hk5.grown hg6 (by simp)) (by kernel_rfl) (by kernel_rfl) rfl hk6 (by kernel_rfl) (by kernel_rfl) rfl ?_
          rw [HP.out]
          exact ⟨rfl, Below.grown HB5.out hg6 HB5.out.size (by simp; omega)⟩
        case true =>
        have HK2 := Lib.hid hk2
        clear hk2
        go_wp2_with (first
          | (refine wpList_load_midG (by rfl) 26 (.tmp 68) rfl w2.heap.size 12 rfl [.int .u8 ((u.a 12).toNat : Int), .int .u8 ((u.a 13).toNat : Int), .int .u8 ((u.a 14).toNat : Int), .int .u8 ((u.a 15).toNat : Int), .int .u8 ((u.a 16).toNat : Int), .int .u8 ((u.a 17).toNat : Int)] _ (HA5.out.f.range 12 [.int .u8 ((u.a 12).toNat : Int), .int .u8 ((u.a 13).toNat : Int), .int .u8 ((u.a 14).toNat : Int), .int .u8 ((u.a 15).toNat : Int), .int .u8 ((u.a 16).toNat : Int), .int .u8 ((u.a 17).toNat : Int)] (by rfl)) Tryd.underlying26 rfl (by kernel_rfl) ?_)
          | (refine wpList_load_midG (by rfl) 26 (.tmp 70) rfl w.heap.size 0 rfl [.int .u8 ((m.bss 0).toNat : Int), .int .u8 ((m.bss 1).toNat : Int), .int .u8 ((m.bss 2).toNat : Int), .int .u8 ((m.bss 3).toNat : Int), .int .u8 ((m.bss 4).toNat : Int), .int .u8 ((m.bss 5).toNat : Int)] _ (HM5.out.range 0 [.int .u8 ((m.bss 0).toNat : Int), .int .u8 ((m.bss 1).toNat : Int), .int .u8 ((m.bss 2).toNat : Int), .int .u8 ((m.bss 3).toNat : Int), .int .u8 ((m.bss 4).toNat : Int), .int .u8 ((m.bss 5).toNat : Int)] (by rfl)) Tryd.underlying26 rfl (by kernel_rfl) ?_))
        have HC3 := Lib.hid (sameAddr_any (fun k => u.a (12 + k)) m.bss w5)
        unfold av at HC3
        refine HC3.out.mono ?_
        rintro e w6 ⟨rfl, hb6⟩
        have HA6 := Lib.hid (RAppS.below HA5.out hb6)
        have HB6 := Lib.hid (HB5.out.trans (hb6.mono HB5.out.size))
        have HM6 := Lib.hid (HM5.out.below hb6 HM5.out.lt)
        clear hb6
        rcases hk3 : sameA (fun k => u.a (12 + k)) m.bss
        case false =>
          go_wp2_with fail
          refine (placed_any 105 (i : Int) (by decide) w6).mono ?_
          rintro e x4 ⟨rfl, hb4⟩
          have HBx := Lib.hid (HB6.out.trans (hb4.mono HB6.out.size))
          have hz4 := HZW.out.below HBx.out HZW.out.lt
          have HF4 := Lib.hid (HFW.out.below HBx.out HFW.out.lt)
          clear hb4
          go_wp2_with (first
            | (refine wpList_store_blk _ (by rfl) 52 _ _ rfl (w.heap.size + 1) zsent rfl rfl 52 _ hz4 (by kernel_rfl) rfl (by kernel_rfl) ?_; intro w5 hk5 hg5; have hf5 := HF4.out.grown hg5 (by simp); have HB5 := Lib.hid (Below.grown (HBW.out.trans (HBx.out.mono (by have := HLW.out; omega))) hg5 (by have := HBx.out.size; have := HLW.out; omega) (by simp)))
            | (refine wpList_store_blk _ (by rfl) 47 _ _ rfl (w.heap.size + 1 + 1) (faultcells (.placed 4 i)) rfl rfl 47 _ hf5 (by kernel_rfl) rfl (by kernel_rfl) ?_; intro w6 hk6 hg6))
          have HP := Lib.hid (show allR m true n L = .placed 4 i by unfold allR; rw [HU.out, HX.out, sent_amiss (c := 4) HRD.out (by rw [HUX.out, HPD.out]; simp [d1, HK1.out, HK2.out, hk3])])
          refine ret_cell2 rfl _ _ _ _ zsent (faultcells (.placed 4 i)) rfl (hk5.grown hg6 (by simp)) (by kernel_rfl) (by kernel_rfl) rfl hk6 (by kernel_rfl) (by kernel_rfl) rfl ?_
          rw [HP.out]
          exact ⟨rfl, Below.grown HB5.out hg6 HB5.out.size (by simp; omega)⟩
        case true =>
        have HK3 := Lib.hid hk3
        clear hk3
        have t18 : w6.cell? ⟨w2.heap.size, 18, none⟩ = some (.int .i64 u.tid) := HA6.out.f.cell 18
        have t0 : w6.cell? ⟨po, 0, none⟩ = some (.int .i64 s.tid) := HA6.out.out.cell 0
        have t17 : w6.cell? ⟨w.heap.size, 17, none⟩ = some (.int .i64 m.start) := HM6.out.cell 17
        have t18m : w6.cell? ⟨w.heap.size, 18, none⟩ = some (.int .i64 m.size) := HM6.out.cell 18
        have t19 : w6.cell? ⟨w2.heap.size, 19, none⟩ = some (.int .i64 u.seq) := HA6.out.f.cell 19
        have hub := useq_bound x
        rw [HUX.out] at hub
        have HUB := Lib.hid hub
        have HIN := Lib.hid (fun w' => rin2_any m.start m.size u.seq w' HT01.out.1 HT01.out.2 (by omega) (by omega))
        have HD1 := Lib.hid (fun w' => rdist_any m.start u.seq w' HT01.out.1 HT01.out.2 (by omega) (by omega))
        clear hub
        by_cases hi0 : i = 0
        case pos =>
          have p0 : decide ((0 : Int) < (i : Int)) = false := decide_eq_false (by omega)
          have p1 : decide (0 < i) = false := decide_eq_false (by omega)
          have hip : ¬ 0 < i := by omega
          have HP0 := Lib.hid p0
          clear hi0
          as_aux_lemma =>
            go_wp2_with fail
            rcases hin : decide ((u.seq - m.start) % 4096 < m.size)
            case false =>
              rw [hin] at HIN
              go_quiet ((go_at_call 36; exact quiet0 (fun w => HIN.out w) _ _))
              have HBq := Lib.hid (HB6.out.trans ((below_drewN (w := w6) nq).mono HB6.out.size))
              clear t18 t0 t17 t18m t19
              generalize w6.drewN nq = w7 at *
              go_wp2_with fail
              refine (placed_any 111 (i : Int) (by decide) w7).mono ?_
              rintro e x4 ⟨rfl, hb4⟩
              have HBx := Lib.hid (HBq.out.trans (hb4.mono HBq.out.size))
              have hz4 := HZW.out.below HBx.out HZW.out.lt
              have HF4 := Lib.hid (HFW.out.below HBx.out HFW.out.lt)
              clear hb4
              go_wp2_with (first
                | (refine wpList_store_blk _ (by rfl) 52 _ _ rfl (w.heap.size + 1) zsent rfl rfl 52 _ hz4 (by kernel_rfl) rfl (by kernel_rfl) ?_; intro w5 hk5 hg5; have hf5 := HF4.out.grown hg5 (by simp); have HB5 := Lib.hid (Below.grown (HBW.out.trans (HBx.out.mono (by have := HLW.out; omega))) hg5 (by have := HBx.out.size; have := HLW.out; omega) (by simp)))
                | (refine wpList_store_blk _ (by rfl) 47 _ _ rfl (w.heap.size + 1 + 1) (faultcells (.placed 10 i)) rfl rfl 47 _ hf5 (by kernel_rfl) rfl (by kernel_rfl) ?_; intro w6 hk6 hg6))
              have HP := Lib.hid (show allR m true n L = .placed 10 i by unfold allR; rw [HU.out, HX.out, sent_amiss (c := 10) HRD.out (by rw [HUX.out, HPD.out]; rw [if_neg (by unfold d1; rw [HP0.out]; simp [HK1.out, HK2.out, HK3.out]), if_pos (by unfold d2; rw [hin]; rfl)])])
              refine ret_cell2 rfl _ _ _ _ zsent (faultcells (.placed 10 i)) rfl (hk5.grown hg6 (by simp)) (by kernel_rfl) (by kernel_rfl) rfl hk6 (by kernel_rfl) (by kernel_rfl) rfl ?_
              rw [HP.out]
              exact ⟨rfl, Below.grown HB5.out hg6 HB5.out.size (by simp; omega)⟩
            case true =>
              rw [hin] at HIN
              go_quiet ((go_at_call 36; exact quiet0 (fun w => HIN.out w) _ _))
              have HA7 := Lib.hid (RAppS.below HA6.out (below_drewN (w := w6) nq))
              have HB7 := Lib.hid (HB6.out.trans ((below_drewN (w := w6) nq).mono HB6.out.size))
              clear t18 t0 t17 t18m t19
              generalize w6.drewN nq = w7 at *
              generalize w2.heap.size = pf at *
              have zz7 := HA7.out.out.lt
              have a18 : w7.cell? ⟨pf, 18, none⟩ = some (.int .i64 u.tid) := HA7.out.f.cell 18
              have b0 : w7.cell? ⟨po, 0, none⟩ = some (.int .i64 s.tid) := HA7.out.out.cell 0
              have c0 := HA7.out.out.frozen 0
              have hA8 := HA7.out.set_ 0 (.int .i64 u.tid)
              rw [sc0] at hA8
              have a21 : (w7.setCell ⟨po, 0, none⟩ (.int .i64 u.tid)).cell? ⟨pf, 21, none⟩ = some (.bool u.m) := hA8.f.cell 21
              have b3 : (w7.setCell ⟨po, 0, none⟩ (.int .i64 u.tid)).cell? ⟨po, 3, none⟩ = some (.bool s.more) := hA8.out.cell 3
              have c3 := hA8.out.frozen 3
              have hA9 := hA8.set_ 3 (.bool u.m)
              rw [sc3] at hA9
              have a22 : ((w7.setCell ⟨po, 0, none⟩ (.int .i64 u.tid)).setCell ⟨po, 3, none⟩ (.bool u.m)).cell? ⟨pf, 22, none⟩ = some (.bool u.e) := hA9.f.cell 22
              have b4 : ((w7.setCell ⟨po, 0, none⟩ (.int .i64 u.tid)).setCell ⟨po, 3, none⟩ (.bool u.m)).cell? ⟨po, 4, none⟩ = some (.bool s.eosp) := hA9.out.cell 4
              have c4 := hA9.out.frozen 4
              have hA10 := hA9.set_ 4 (.bool u.e)
              rw [sc4] at hA10
              have a19 : (((w7.setCell ⟨po, 0, none⟩ (.int .i64 u.tid)).setCell ⟨po, 3, none⟩ (.bool u.m)).setCell ⟨po, 4, none⟩ (.bool u.e)).cell? ⟨pf, 19, none⟩ = some (.int .i64 u.seq) := hA10.f.cell 19
              have b1 : (((w7.setCell ⟨po, 0, none⟩ (.int .i64 u.tid)).setCell ⟨po, 3, none⟩ (.bool u.m)).setCell ⟨po, 4, none⟩ (.bool u.e)).cell? ⟨po, 1, none⟩ = some (.slice A1 s.seqs.length C1) := hA10.out.cell 1
              have HA10 := Lib.hid hA10
              clear hA8 hA9 hA10
              go_wp2_with (first
                | (at_builtin; refine append_int _ rfl (.tmp 149) (.tmp 152) rfl po A1 s.seqs.length C1 s.seqs rfl (OwnI.alloc HA10.out.o1 _) _ 1 1 [u.seq] rfl (row_int1' _ _ _ _ (by simp [World.setCell])) (by have := HLEN.out; have := HI1.out; have := HLC.out; omega) (by simp [World.setCell]; omega) ?_; intro X1 D1 w8 ho8 hg8 _; have hA11 := RAppS.app1 (RAppS.alloc HA10.out (.cells #[.int .i64 u.seq] 3)) ho8 hg8; have b1' : w8.cell? ⟨po, 1, none⟩ = some (.slice A1 s.seqs.length C1) := hA11.out.cell 1; have c1' := hA11.out.frozen 1; have hA12 := hA11.set_ 1 (.slice X1 (s.seqs.length + 1) D1); rw [sc1] at hA12; have b2 : (w8.setCell ⟨po, 1, none⟩ (.slice X1 (s.seqs.length + 1) D1)).cell? ⟨po, 2, none⟩ = some (.slice A2 s.retry.length C2) := hA12.out.cell 2; have a20 : (w8.setCell ⟨po, 1, none⟩ (.slice X1 (s.seqs.length + 1) D1)).cell? ⟨pf, 20, none⟩ = some (.bool u.r) := hA12.f.cell 20; have HA12 := Lib.hid hA12; have zz8 := hA12.out.lt; clear ho8 hg8 hA11 hA12)
                | (at_builtin; refine append_bool _ rfl (.tmp 156) (.tmp 159) rfl po A2 s.retry.length C2 s.retry rfl (OwnB.alloc HA12.out.o2 _) _ 1 1 [u.r] rfl (row_of_blk1 (by have h := Blk.new (w8.setCell ⟨po, 1, none⟩ (.slice X1 (s.seqs.length + 1) D1)) #[.bool u.r] 4; simpa [World.setCell] using h)) (by have := HLEN.out; have := HI1.out; have := HLC.out; omega) (by simp [World.setCell] at zz8 ⊢; omega) ?_; intro X2 D2 w9 ho9 hg9 _; have hA13 := RAppS.app2 (RAppS.alloc HA12.out (.cells #[.bool u.r] 4)) ho9 hg9; have b2' : w9.cell? ⟨po, 2, none⟩ = some (.slice A2 s.retry.length C2) := hA13.out.cell 2; have c2' := hA13.out.frozen 2; have hA14 := hA13.set_ 2 (.slice X2 (s.retry.length + 1) D2); rw [sc2] at hA14; have b5 : (w9.setCell ⟨po, 2, none⟩ (.slice X2 (s.retry.length + 1) D2)).cell? ⟨po, 5, none⟩ = some (.slice A3 s.bodies.length C3) := hA14.out.cell 5; have a23 : (w9.setCell ⟨po, 2, none⟩ (.slice X2 (s.retry.length + 1) D2)).cell? ⟨pf, 23, none⟩ = some (.slice A6 n6 C6) := hA14.f.cell 23; have HA14 := Lib.hid hA14; have zz9 := hA14.out.lt; clear ho9 hg9 hA13 hA14)
                | (at_builtin; refine app_part3 _ rfl (.tmp 163) (.tmp 166) rfl po A3 s.bodies.length C3 s.bodies rfl rfl (OwnP.alloc HA14.out.o3 _) (by have := HLEN.out; have := HI1.out; have := HLC.out; omega) A6 n6 C6 u.body HA14.out.ob.len (OwnU8.alloc HA14.out.ob _) _ 1 rfl (row_of_blk1 (by have h := Blk.new (w9.setCell ⟨po, 2, none⟩ (.slice X2 (s.retry.length + 1) D2)) #[.slice A6 n6 C6] 22; simpa [World.setCell] using h)) (by simp [World.setCell] at zz9 ⊢; omega) ?_; intro X3 D3 w10 ho10 hg10 h4 h5 h6; have hE := RAppS.app3 (RAppS.alloc HA14.out (.cells #[.slice A6 n6 C6] 22)) ho10 hg10 h4 h5 h6; have b5' : w10.cell? ⟨po, 5, none⟩ = some (.slice A3 s.bodies.length C3) := hE.chk.out.cell 5; have c5' := hE.chk.out.frozen 5; have hE2 := hE.set_ 5 (.slice X3 (s.bodies.length + 1) D3); rw [sc5] at hE2; have HE2 := Lib.hid hE2; clear ho10 hg10 h4 h5 h6 hE hE2))
              have HPN := Lib.hid (show partG m u l = none by rw [HPD.out, if_neg (by unfold d1; rw [HP0.out]; simp [HK1.out, HK2.out, HK3.out]), if_neg (by unfold d2; rw [HP0.out, hin]; simp), if_neg (by unfold d3; rw [HP0.out]; simp)])
              have HSN := Lib.hid (show sentL m (x :: L.drop (i + 1)) i s l = sentL m (L.drop (i + 1)) (i + 1) (sentS s u) (some u) by rw [sent_next HRD.out (by rw [HUX.out]; exact HPN.out), HUX.out])
              refine ⟨?_, by simp [intOf]; have := HI1.out; omega⟩
              refine ⟨i + 1, sentS s u, some u, X1, D1, X2, D2, X3, D3, HI1.out, by simp, ⟨by show (s.seqs ++ [u.seq]).length = _; rw [List.length_append, HLEN.out.1]; rfl, by show (s.retry ++ [u.r]).length = _; rw [List.length_append, HLEN.out.2.1]; rfl, by show (s.bodies ++ [u.body]).length = _; rw [List.length_append, HLEN.out.2.2]; rfl⟩, lastD_next HLEN.out.1, seqB_next HSB.out HUB.out, RchkT_next rfl rfl rfl HE2.out.chk, ?_⟩
              exact HU.out.trans ((congrArg (fun z => sentL m z i s l) HX.out).trans HSN.out)
        case neg =>
          have p0 : decide ((0 : Int) < (i : Int)) = true := decide_eq_true (by omega)
          have p1 : decide (0 < i) = true := decide_eq_true (by omega)
          have hip : 0 < i := by omega
          have HP0 := Lib.hid p0
          have HI0 := Lib.hid hi0
          by_cases htid : u.tid = s.tid
          case neg =>
            have ct : (u.tid != s.tid) = true := by simp [htid]
            as_aux_lemma =>
              go_wp2_with fail
              refine (placed_any 105 (i : Int) (by decide) w6).mono ?_
              rintro e x4 ⟨rfl, hb4⟩
              have HBx := Lib.hid (HB6.out.trans (hb4.mono HB6.out.size))
              have hz4 := HZW.out.below HBx.out HZW.out.lt
              have HF4 := Lib.hid (HFW.out.below HBx.out HFW.out.lt)
              clear hb4
              go_wp2_with (first
                | (refine wpList_store_blk _ (by rfl) 52 _ _ rfl (w.heap.size + 1) zsent rfl rfl 52 _ hz4 (by kernel_rfl) rfl (by kernel_rfl) ?_; intro w5 hk5 hg5; have hf5 := HF4.out.grown hg5 (by simp); have HB5 := Lib.hid (Below.grown (HBW.out.trans (HBx.out.mono (by have := HLW.out; omega))) hg5 (by have := HBx.out.size; have := HLW.out; omega) (by simp)))
                | (refine wpList_store_blk _ (by rfl) 47 _ _ rfl (w.heap.size + 1 + 1) (faultcells (.placed 4 i)) rfl rfl 47 _ hf5 (by kernel_rfl) rfl (by kernel_rfl) ?_; intro w6 hk6 hg6))
              have HP := Lib.hid (show allR m true n L = .placed 4 i by unfold allR; rw [HU.out, HX.out, sent_amiss (c := 4) HRD.out (by rw [HUX.out, HPD.out]; rw [if_pos (by unfold d1; rw [HP0.out]; simp [htid])])])
              refine ret_cell2 rfl _ _ _ _ zsent (faultcells (.placed 4 i)) rfl (hk5.grown hg6 (by simp)) (by kernel_rfl) (by kernel_rfl) rfl hk6 (by kernel_rfl) (by kernel_rfl) rfl ?_
              rw [HP.out]
              exact ⟨rfl, Below.grown HB5.out hg6 HB5.out.size (by simp; omega)⟩
          case pos =>
            have ct : (u.tid != s.tid) = false := by simp [htid]
            have HTI := Lib.hid htid
            obtain ⟨j, hj⟩ : ∃ j, j + 1 = i := ⟨i - 1, by omega⟩
            have qj : IntKind.i64.wrap ((i : Int) - 1) = (j : Int) := by rw [IntWalk.i64_in _ (by have := HLC.out; have := HI1.out; omega)]; omega
            have hjl : j < s.seqs.length := by have := HLEN.out.1; omega
            obtain ⟨q, hq⟩ : ∃ q, s.seqs[j]? = some q := ⟨_, List.getElem?_eq_getElem hjl⟩
            have hdq : dQ s i = q := by unfold dQ; rw [show i - 1 = j by omega, List.getD_eq_getElem?_getD, hq]; rfl
            have hqb := HSB.out q (List.mem_of_getElem? hq)
            have HD2 := Lib.hid (fun w' => rdist_any m.start q w' HT01.out.1 HT01.out.2 (by omega) (by omega))
            obtain ⟨bq, oq, hA1, lq, hcq⟩ := HA6.out.o1.row.at_ (by omega)
            have cq : w6.cell? ⟨bq, oq + j, none⟩ = some (.int .i64 q) := by have h := hcq j _ (by rw [List.getElem?_map, hq]; rfl); exact h
            have c1 : w6.cell? ⟨po, 1, none⟩ = some (.slice A1 s.seqs.length C1) := HA6.out.out.cell 1
            have HA1 := Lib.hid hA1
            rw [hA1] at c1
            have hjl' : (j : Int) < (s.seqs.length : Int) := by omega
            have HDQ := Lib.hid hdq
            have HJ := Lib.hid hj
            clear hq hqb hcq hA1 hdq hj htid hi0
            rcases hin : decide ((u.seq - m.start) % 4096 < m.size)
            case false =>
              as_aux_lemma =>
              rw [hin] at HIN
              go_wp2_with fail
              go_quiet (first | (go_at_call 36; exact quiet0 (fun w => HIN.out w) _ _))
              have HBq := Lib.hid (HB6.out.trans ((below_drewN (w := w6) nq).mono HB6.out.size))
              clear t18 t0 t17 t18m t19 cq c1
              generalize w6.drewN nq = w7 at *
              go_wp2_with fail
              refine (placed_any 111 (i : Int) (by decide) w7).mono ?_
              rintro e x4 ⟨rfl, hb4⟩
              have HBx := Lib.hid (HBq.out.trans (hb4.mono HBq.out.size))
              have hz4 := HZW.out.below HBx.out HZW.out.lt
              have HF4 := Lib.hid (HFW.out.below HBx.out HFW.out.lt)
              clear hb4
              go_wp2_with (first
                | (refine wpList_store_blk _ (by rfl) 52 _ _ rfl (w.heap.size + 1) zsent rfl rfl 52 _ hz4 (by kernel_rfl) rfl (by kernel_rfl) ?_; intro w5 hk5 hg5; have hf5 := HF4.out.grown hg5 (by simp); have HB5 := Lib.hid (Below.grown (HBW.out.trans (HBx.out.mono (by have := HLW.out; omega))) hg5 (by have := HBx.out.size; have := HLW.out; omega) (by simp)))
                | (refine wpList_store_blk _ (by rfl) 47 _ _ rfl (w.heap.size + 1 + 1) (faultcells (.placed 10 i)) rfl rfl 47 _ hf5 (by kernel_rfl) rfl (by kernel_rfl) ?_; intro w6 hk6 hg6))
              have HP := Lib.hid (show allR m true n L = .placed 10 i by unfold allR; rw [HU.out, HX.out, sent_amiss (c := 10) HRD.out (by rw [HUX.out, HPD.out]; rw [if_neg (by simp [d1, HK1.out, HK2.out, HK3.out, HTI.out]), if_pos (by unfold d2; rw [hin]; rfl)])])
              refine ret_cell2 rfl _ _ _ _ zsent (faultcells (.placed 10 i)) rfl (hk5.grown hg6 (by simp)) (by kernel_rfl) (by kernel_rfl) rfl hk6 (by kernel_rfl) (by kernel_rfl) rfl ?_
              rw [HP.out]
              exact ⟨rfl, Below.grown HB5.out hg6 HB5.out.size (by simp; omega)⟩
            case true =>
              rw [hin] at HIN
              have HIY := Lib.hid hin
              clear hin
              rcases hds : decide ((u.seq - m.start) % 4096 ≤ (q - m.start) % 4096)
              case true =>
                as_aux_lemma =>
                go_wp2_with fail
                go_quiet (first
                  | (go_at_call 36; exact quiet0 (fun w => HIN.out w) _ _)
                  | (go_at_call 37; first | (with_reducible exact quiet0 (fun w => HD1.out w) _ _) | (with_reducible exact quiet0 (fun w => HD2.out w) _ _)))
                have HBq := Lib.hid (HB6.out.trans ((below_drewN (w := w6) nq).mono HB6.out.size))
                clear t18 t0 t17 t18m t19 cq c1
                generalize w6.drewN nq = w7 at *
                go_wp2_with fail
                refine (placed_any 111 (i : Int) (by decide) w7).mono ?_
                rintro e x4 ⟨rfl, hb4⟩
                have HBx := Lib.hid (HBq.out.trans (hb4.mono HBq.out.size))
                have hz4 := HZW.out.below HBx.out HZW.out.lt
                have HF4 := Lib.hid (HFW.out.below HBx.out HFW.out.lt)
                clear hb4
                go_wp2_with (first
                  | (refine wpList_store_blk _ (by rfl) 52 _ _ rfl (w.heap.size + 1) zsent rfl rfl 52 _ hz4 (by kernel_rfl) rfl (by kernel_rfl) ?_; intro w5 hk5 hg5; have hf5 := HF4.out.grown hg5 (by simp); have HB5 := Lib.hid (Below.grown (HBW.out.trans (HBx.out.mono (by have := HLW.out; omega))) hg5 (by have := HBx.out.size; have := HLW.out; omega) (by simp)))
                  | (refine wpList_store_blk _ (by rfl) 47 _ _ rfl (w.heap.size + 1 + 1) (faultcells (.placed 10 i)) rfl rfl 47 _ hf5 (by kernel_rfl) rfl (by kernel_rfl) ?_; intro w6 hk6 hg6))
                have HP := Lib.hid (show allR m true n L = .placed 10 i by unfold allR; rw [HU.out, HX.out, sent_amiss (c := 10) HRD.out (by rw [HUX.out, HPD.out]; rw [if_neg (by simp [d1, HK1.out, HK2.out, HK3.out, HTI.out]), if_pos (by unfold d2; rw [HDQ.out, HP0.out, hds]; simp)])])
                refine ret_cell2 rfl _ _ _ _ zsent (faultcells (.placed 10 i)) rfl (hk5.grown hg6 (by simp)) (by kernel_rfl) (by kernel_rfl) rfl hk6 (by kernel_rfl) (by kernel_rfl) rfl ?_
                rw [HP.out]
                exact ⟨rfl, Below.grown HB5.out hg6 HB5.out.size (by simp; omega)⟩
              case false =>
                go_wp2_with fail
                go_quiet (first
                  | (go_at_call 36; exact quiet0 (fun w => HIN.out w) _ _)
                  | (go_at_call 37; first | (with_reducible exact quiet0 (fun w => HD1.out w) _ _) | (with_reducible exact quiet0 (fun w => HD2.out w) _ _)))
                have HBq := Lib.hid (HB6.out.trans ((below_drewN (w := w6) nq).mono HB6.out.size))
                have HA7q := Lib.hid (RAppS.below HA6.out (below_drewN (w := w6) nq))
                clear t18 t0 t17 t18m t19 cq c1
                generalize w6.drewN nq = w7 at *
                have HNS := Lib.hid hds
                clear hds
                have t21 : w7.cell? ⟨w2.heap.size, 21, none⟩ = some (.bool u.m) := HA7q.out.f.cell 21
                have t22 : w7.cell? ⟨w2.heap.size, 22, none⟩ = some (.bool u.e) := HA7q.out.f.cell 22
                have c3q : w7.cell? ⟨po, 3, none⟩ = some (.bool s.more) := HA7q.out.out.cell 3
                have c4q : w7.cell? ⟨po, 4, none⟩ = some (.bool s.eosp) := HA7q.out.out.cell 4
                by_cases hmm : u.m = s.more
                case neg =>
                  have cm : (u.m != s.more) = true := by simp [hmm]
                  have cm2 : (u.m == s.more) = false := by simp [hmm]
                  as_aux_lemma =>
                    go_wp2_with fail
                    refine (placed_any 110 (i : Int) (by decide) w7).mono ?_
                    rintro e x4 ⟨rfl, hb4⟩
                    have HBx := Lib.hid (HBq.out.trans (hb4.mono HBq.out.size))
                    have hz4 := HZW.out.below HBx.out HZW.out.lt
                    have HF4 := Lib.hid (HFW.out.below HBx.out HFW.out.lt)
                    clear hb4
                    go_wp2_with (first
                      | (refine wpList_store_blk _ (by rfl) 52 _ _ rfl (w.heap.size + 1) zsent rfl rfl 52 _ hz4 (by kernel_rfl) rfl (by kernel_rfl) ?_; intro w5 hk5 hg5; have hf5 := HF4.out.grown hg5 (by simp); have HB5 := Lib.hid (Below.grown (HBW.out.trans (HBx.out.mono (by have := HLW.out; omega))) hg5 (by have := HBx.out.size; have := HLW.out; omega) (by simp)))
                      | (refine wpList_store_blk _ (by rfl) 47 _ _ rfl (w.heap.size + 1 + 1) (faultcells (.placed 9 i)) rfl rfl 47 _ hf5 (by kernel_rfl) rfl (by kernel_rfl) ?_; intro w6 hk6 hg6))
                    have HP := Lib.hid (show allR m true n L = .placed 9 i by unfold allR; rw [HU.out, HX.out, sent_amiss (c := 9) HRD.out (by rw [HUX.out, HPD.out]; rw [if_neg (by simp [d1, HK1.out, HK2.out, HK3.out, HTI.out]), if_neg (by unfold d2; rw [HDQ.out, HNS.out, HIY.out]; simp), if_pos (by unfold d3; rw [HP0.out]; simp [hmm])])])
                    refine ret_cell2 rfl _ _ _ _ zsent (faultcells (.placed 9 i)) rfl (hk5.grown hg6 (by simp)) (by kernel_rfl) (by kernel_rfl) rfl hk6 (by kernel_rfl) (by kernel_rfl) rfl ?_
                    rw [HP.out]
                    exact ⟨rfl, Below.grown HB5.out hg6 HB5.out.size (by simp; omega)⟩
                case pos =>
                  have cm : (u.m != s.more) = false := by simp [hmm]
                  have cm2 : (u.m == s.more) = true := by simp [hmm]
                  have HMM := Lib.hid hmm
                  clear hmm
                  by_cases hee : u.e = s.eosp
                  case neg =>
                    have ce : (u.e != s.eosp) = true := by simp [hee]
                    have ce2 : (u.e == s.eosp) = false := by simp [hee]
                    as_aux_lemma =>
                      go_wp2_with fail
                      refine (placed_any 110 (i : Int) (by decide) w7).mono ?_
                      rintro e x4 ⟨rfl, hb4⟩
                      have HBx := Lib.hid (HBq.out.trans (hb4.mono HBq.out.size))
                      have hz4 := HZW.out.below HBx.out HZW.out.lt
                      have HF4 := Lib.hid (HFW.out.below HBx.out HFW.out.lt)
                      clear hb4
                      go_wp2_with (first
                        | (refine wpList_store_blk _ (by rfl) 52 _ _ rfl (w.heap.size + 1) zsent rfl rfl 52 _ hz4 (by kernel_rfl) rfl (by kernel_rfl) ?_; intro w5 hk5 hg5; have hf5 := HF4.out.grown hg5 (by simp); have HB5 := Lib.hid (Below.grown (HBW.out.trans (HBx.out.mono (by have := HLW.out; omega))) hg5 (by have := HBx.out.size; have := HLW.out; omega) (by simp)))
                        | (refine wpList_store_blk _ (by rfl) 47 _ _ rfl (w.heap.size + 1 + 1) (faultcells (.placed 9 i)) rfl rfl 47 _ hf5 (by kernel_rfl) rfl (by kernel_rfl) ?_; intro w6 hk6 hg6))
                      have HP := Lib.hid (show allR m true n L = .placed 9 i by unfold allR; rw [HU.out, HX.out, sent_amiss (c := 9) HRD.out (by rw [HUX.out, HPD.out]; rw [if_neg (by simp [d1, HK1.out, HK2.out, HK3.out, HTI.out]), if_neg (by unfold d2; rw [HDQ.out, HNS.out, HIY.out]; simp), if_pos (by unfold d3; rw [HP0.out]; simp [hee])])])
                      refine ret_cell2 rfl _ _ _ _ zsent (faultcells (.placed 9 i)) rfl (hk5.grown hg6 (by simp)) (by kernel_rfl) (by kernel_rfl) rfl hk6 (by kernel_rfl) (by kernel_rfl) rfl ?_
                      rw [HP.out]
                      exact ⟨rfl, Below.grown HB5.out hg6 HB5.out.size (by simp; omega)⟩
                  case pos =>
                    have ce : (u.e != s.eosp) = false := by simp [hee]
                    have ce2 : (u.e == s.eosp) = true := by simp [hee]
                    have HEE := Lib.hid hee
                    clear hee
                    as_aux_lemma =>
                      have HA7 := Lib.hid HA7q.out
                      have HB7 := Lib.hid HBq.out
                      generalize w2.heap.size = pf at *
                      have zz7 := HA7.out.out.lt
                      have a18 : w7.cell? ⟨pf, 18, none⟩ = some (.int .i64 u.tid) := HA7.out.f.cell 18
                      have b0 : w7.cell? ⟨po, 0, none⟩ = some (.int .i64 s.tid) := HA7.out.out.cell 0
                      have c0 := HA7.out.out.frozen 0
                      have hA8 := HA7.out.set_ 0 (.int .i64 u.tid)
                      rw [sc0] at hA8
                      have a21 : (w7.setCell ⟨po, 0, none⟩ (.int .i64 u.tid)).cell? ⟨pf, 21, none⟩ = some (.bool u.m) := hA8.f.cell 21
                      have b3 : (w7.setCell ⟨po, 0, none⟩ (.int .i64 u.tid)).cell? ⟨po, 3, none⟩ = some (.bool s.more) := hA8.out.cell 3
                      have c3 := hA8.out.frozen 3
                      have hA9 := hA8.set_ 3 (.bool u.m)
                      rw [sc3] at hA9
                      have a22 : ((w7.setCell ⟨po, 0, none⟩ (.int .i64 u.tid)).setCell ⟨po, 3, none⟩ (.bool u.m)).cell? ⟨pf, 22, none⟩ = some (.bool u.e) := hA9.f.cell 22
                      have b4 : ((w7.setCell ⟨po, 0, none⟩ (.int .i64 u.tid)).setCell ⟨po, 3, none⟩ (.bool u.m)).cell? ⟨po, 4, none⟩ = some (.bool s.eosp) := hA9.out.cell 4
                      have c4 := hA9.out.frozen 4
                      have hA10 := hA9.set_ 4 (.bool u.e)
                      rw [sc4] at hA10
                      have a19 : (((w7.setCell ⟨po, 0, none⟩ (.int .i64 u.tid)).setCell ⟨po, 3, none⟩ (.bool u.m)).setCell ⟨po, 4, none⟩ (.bool u.e)).cell? ⟨pf, 19, none⟩ = some (.int .i64 u.seq) := hA10.f.cell 19
                      have b1 : (((w7.setCell ⟨po, 0, none⟩ (.int .i64 u.tid)).setCell ⟨po, 3, none⟩ (.bool u.m)).setCell ⟨po, 4, none⟩ (.bool u.e)).cell? ⟨po, 1, none⟩ = some (.slice A1 s.seqs.length C1) := hA10.out.cell 1
                      have HA10 := Lib.hid hA10
                      clear hA8 hA9 hA10
                      go_wp2_with (first
                        | (at_builtin; refine append_int _ rfl (.tmp 149) (.tmp 152) rfl po A1 s.seqs.length C1 s.seqs rfl (OwnI.alloc HA10.out.o1 _) _ 1 1 [u.seq] rfl (row_int1' _ _ _ _ (by simp [World.setCell])) (by have := HLEN.out; have := HI1.out; have := HLC.out; omega) (by simp [World.setCell]; omega) ?_; intro X1 D1 w8 ho8 hg8 _; have hA11 := RAppS.app1 (RAppS.alloc HA10.out (.cells #[.int .i64 u.seq] 3)) ho8 hg8; have b1' : w8.cell? ⟨po, 1, none⟩ = some (.slice A1 s.seqs.length C1) := hA11.out.cell 1; have c1' := hA11.out.frozen 1; have hA12 := hA11.set_ 1 (.slice X1 (s.seqs.length + 1) D1); rw [sc1] at hA12; have b2 : (w8.setCell ⟨po, 1, none⟩ (.slice X1 (s.seqs.length + 1) D1)).cell? ⟨po, 2, none⟩ = some (.slice A2 s.retry.length C2) := hA12.out.cell 2; have a20 : (w8.setCell ⟨po, 1, none⟩ (.slice X1 (s.seqs.length + 1) D1)).cell? ⟨pf, 20, none⟩ = some (.bool u.r) := hA12.f.cell 20; have HA12 := Lib.hid hA12; have zz8 := hA12.out.lt; clear ho8 hg8 hA11 hA12)
                        | (at_builtin; refine append_bool _ rfl (.tmp 156) (.tmp 159) rfl po A2 s.retry.length C2 s.retry rfl (OwnB.alloc HA12.out.o2 _) _ 1 1 [u.r] rfl (row_of_blk1 (by have h := Blk.new (w8.setCell ⟨po, 1, none⟩ (.slice X1 (s.seqs.length + 1) D1)) #[.bool u.r] 4; simpa [World.setCell] using h)) (by have := HLEN.out; have := HI1.out; have := HLC.out; omega) (by simp [World.setCell] at zz8 ⊢; omega) ?_; intro X2 D2 w9 ho9 hg9 _; have hA13 := RAppS.app2 (RAppS.alloc HA12.out (.cells #[.bool u.r] 4)) ho9 hg9; have b2' : w9.cell? ⟨po, 2, none⟩ = some (.slice A2 s.retry.length C2) := hA13.out.cell 2; have c2' := hA13.out.frozen 2; have hA14 := hA13.set_ 2 (.slice X2 (s.retry.length + 1) D2); rw [sc2] at hA14; have b5 : (w9.setCell ⟨po, 2, none⟩ (.slice X2 (s.retry.length + 1) D2)).cell? ⟨po, 5, none⟩ = some (.slice A3 s.bodies.length C3) := hA14.out.cell 5; have a23 : (w9.setCell ⟨po, 2, none⟩ (.slice X2 (s.retry.length + 1) D2)).cell? ⟨pf, 23, none⟩ = some (.slice A6 n6 C6) := hA14.f.cell 23; have HA14 := Lib.hid hA14; have zz9 := hA14.out.lt; clear ho9 hg9 hA13 hA14)
                        | (at_builtin; refine app_part3 _ rfl (.tmp 163) (.tmp 166) rfl po A3 s.bodies.length C3 s.bodies rfl rfl (OwnP.alloc HA14.out.o3 _) (by have := HLEN.out; have := HI1.out; have := HLC.out; omega) A6 n6 C6 u.body HA14.out.ob.len (OwnU8.alloc HA14.out.ob _) _ 1 rfl (row_of_blk1 (by have h := Blk.new (w9.setCell ⟨po, 2, none⟩ (.slice X2 (s.retry.length + 1) D2)) #[.slice A6 n6 C6] 22; simpa [World.setCell] using h)) (by simp [World.setCell] at zz9 ⊢; omega) ?_; intro X3 D3 w10 ho10 hg10 h4 h5 h6; have hE := RAppS.app3 (RAppS.alloc HA14.out (.cells #[.slice A6 n6 C6] 22)) ho10 hg10 h4 h5 h6; have b5' : w10.cell? ⟨po, 5, none⟩ = some (.slice A3 s.bodies.length C3) := hE.chk.out.cell 5; have c5' := hE.chk.out.frozen 5; have hE2 := hE.set_ 5 (.slice X3 (s.bodies.length + 1) D3); rw [sc5] at hE2; have HE2 := Lib.hid hE2; clear ho10 hg10 h4 h5 h6 hE hE2))
                      have HPN := Lib.hid (show partG m u l = none by rw [HPD.out, if_neg (by simp [d1, HK1.out, HK2.out, HK3.out, HTI.out]), if_neg (by unfold d2; rw [HDQ.out, HNS.out, HIY.out]; simp), if_neg (by unfold d3; simp [HMM.out, HEE.out])])
                      have HSN := Lib.hid (show sentL m (x :: L.drop (i + 1)) i s l = sentL m (L.drop (i + 1)) (i + 1) (sentS s u) (some u) by rw [sent_next HRD.out (by rw [HUX.out]; exact HPN.out), HUX.out])
                      refine ⟨?_, by simp [intOf]; have := HI1.out; omega⟩
                      refine ⟨i + 1, sentS s u, some u, X1, D1, X2, D2, X3, D3, HI1.out, by simp, ⟨by show (s.seqs ++ [u.seq]).length = _; rw [List.length_append, HLEN.out.1]; rfl, by show (s.retry ++ [u.r]).length = _; rw [List.length_append, HLEN.out.2.1]; rfl, by show (s.bodies ++ [u.body]).length = _; rw [List.length_append, HLEN.out.2.2]; rfl⟩, lastD_next HLEN.out.1, seqB_next HSB.out HUB.out, RchkT_next rfl rfl rfl HE2.out.chk, ?_⟩
                      exact HU.out.trans ((congrArg (fun z => sentL m z i s l) HX.out).trans HSN.out)
    case neg =>
      obtain rfl : i = nL := by omega
      have q1 : ¬ ((i : Int) < (i : Int)) := by omega
      clear hi1 hi
      have HEND := Lib.hid (show sentL m L 0 noSent none = .ok s by rw [HU.out, List.drop_of_length_le (by rw [HLN.out]; exact Nat.le_refl _)]; rfl)
      have t18 : wr.cell? ⟨w.heap.size, 18, none⟩ = some (.int .i64 m.size) := HMW.out.cell 18
      have t19 : wr.cell? ⟨w.heap.size, 19, none⟩ = some (.int .i64 m.bytes) := HMW.out.cell 19
      by_cases hsz : m.size < (i : Int)
      case pos =>
        have gs : decide (m.size < (i : Int)) = true := decide_eq_true hsz
        as_aux_lemma =>
          go_wp2_with fail
          refine (bare_any 104 wr).mono ?_
          rintro e x4 ⟨rfl, hb4⟩
          have HBx := Lib.hid (HBW.out.trans (hb4.mono HBW.out.size))
          have hz4 := HZW.out.below hb4 HZW.out.lt
          have HF4 := Lib.hid (HFW.out.below hb4 HFW.out.lt)
          clear hb4
          go_wp2_with (first
            | (refine wpList_store_blk _ (by rfl) 52 _ _ rfl (w.heap.size + 1) zsent rfl rfl 52 _ hz4 (by kernel_rfl) rfl (by kernel_rfl) ?_; intro w5 hk5 hg5; have hf5 := HF4.out.grown hg5 (by simp); have HB5 := Lib.hid (Below.grown HBx.out hg5 (by have := HBx.out.size; have := HLW.out; omega) (by simp)))
            | (refine wpList_store_blk _ (by rfl) 47 _ _ rfl (w.heap.size + 1 + 1) (faultcells (.bare 3)) rfl rfl 47 _ hf5 (by kernel_rfl) rfl (by kernel_rfl) ?_; intro w6 hk6 hg6))
          have HP := Lib.hid (show allR m true n L = .bare 3 by unfold allR; rw [HEND.out]; simp only; rw [show ((L).length : Int) = (i : Int) by rw [HLN.out], whole_many (.inl hsz)])
          refine ret_cell2 rfl _ _ _ _ zsent (faultcells (.bare 3)) rfl (hk5.grown hg6 (by simp)) (by kernel_rfl) (by kernel_rfl) rfl hk6 (by kernel_rfl) (by kernel_rfl) rfl ?_
          rw [HP.out]
          exact ⟨rfl, Below.grown HB5.out hg6 HB5.out.size (by simp; omega)⟩
      case neg =>
        have gs : decide (m.size < (i : Int)) = false := decide_eq_false hsz
        by_cases hby : m.bytes < (n : Int)
        case pos =>
          have gb : decide (m.bytes < (n : Int)) = true := decide_eq_true hby
          as_aux_lemma =>
            go_wp2_with fail
            refine (bare_any 104 wr).mono ?_
            rintro e x4 ⟨rfl, hb4⟩
            have HBx := Lib.hid (HBW.out.trans (hb4.mono HBW.out.size))
            have hz4 := HZW.out.below hb4 HZW.out.lt
            have HF4 := Lib.hid (HFW.out.below hb4 HFW.out.lt)
            clear hb4
            go_wp2_with (first
              | (refine wpList_store_blk _ (by rfl) 52 _ _ rfl (w.heap.size + 1) zsent rfl rfl 52 _ hz4 (by kernel_rfl) rfl (by kernel_rfl) ?_; intro w5 hk5 hg5; have hf5 := HF4.out.grown hg5 (by simp); have HB5 := Lib.hid (Below.grown HBx.out hg5 (by have := HBx.out.size; have := HLW.out; omega) (by simp)))
              | (refine wpList_store_blk _ (by rfl) 47 _ _ rfl (w.heap.size + 1 + 1) (faultcells (.bare 3)) rfl rfl 47 _ hf5 (by kernel_rfl) rfl (by kernel_rfl) ?_; intro w6 hk6 hg6))
            have HP := Lib.hid (show allR m true n L = .bare 3 by unfold allR; rw [HEND.out]; simp only; rw [show ((L).length : Int) = (i : Int) by rw [HLN.out], whole_many (.inr ⟨rfl, hby⟩)])
            refine ret_cell2 rfl _ _ _ _ zsent (faultcells (.bare 3)) rfl (hk5.grown hg6 (by simp)) (by kernel_rfl) (by kernel_rfl) rfl hk6 (by kernel_rfl) (by kernel_rfl) rfl ?_
            rw [HP.out]
            exact ⟨rfl, Below.grown HB5.out hg6 HB5.out.size (by simp; omega)⟩
        case neg =>
          have gb : decide (m.bytes < (n : Int)) = false := decide_eq_false hby
          have HWN := Lib.hid (And.intro hsz hby)
          go_wp2_with (refine wpList_load_mid (by rfl) 28 (.tmp 186) rfl w.heap.size 12 rfl [.int .i64 m.r.m, .int .i64 m.r.c, .int .i64 m.r.s, .int .i64 m.r.w, .int .i64 m.r.g] _ (HMW.out.range 12 [.int .i64 m.r.m, .int .i64 m.r.c, .int .i64 m.r.s, .int .i64 m.r.w, .int .i64 m.r.g] (by rfl)) Tryd.underlying28 rfl (by kernel_rfl) ?_)
          refine (rppdu_any m.r (n : Int) wr HS01.out.1 HS01.out.2 (by omega) (by have := HN.out; omega)).mono ?_
          rintro e w2 ⟨rfl, hb2⟩
          have HS2 := Lib.hid (RChkW.below HS.out hb2)
          have HZ2 := Lib.hid (HZW.out.below hb2 HZW.out.lt)
          have HF2 := Lib.hid (HFW.out.below hb2 HFW.out.lt)
          have HM2 := Lib.hid (HMW.out.below hb2 HMW.out.lt)
          have HB2 := Lib.hid (HBW.out.trans (hb2.mono HBW.out.size))
          clear t18 t19 hb2
          have t20 : w2.cell? ⟨w.heap.size, 20, none⟩ = some (.int .i64 m.ticks) := HM2.out.cell 20
          by_cases htk : m.ticks < ppP m.r (n : Int)
          case pos =>
            have gt : decide (m.ticks < ppP m.r (n : Int)) = true := decide_eq_true htk
            as_aux_lemma =>
              go_wp2_with fail
              refine (bare_any 112 w2).mono ?_
              rintro e x4 ⟨rfl, hb4⟩
              have HBx := Lib.hid (HB2.out.trans (hb4.mono HB2.out.size))
              have hz4 := HZ2.out.below hb4 HZ2.out.lt
              have HF4 := Lib.hid (HF2.out.below hb4 HF2.out.lt)
              clear hb4
              go_wp2_with (first
                | (refine wpList_store_blk _ (by rfl) 52 _ _ rfl (w.heap.size + 1) zsent rfl rfl 52 _ hz4 (by kernel_rfl) rfl (by kernel_rfl) ?_; intro w5 hk5 hg5; have hf5 := HF4.out.grown hg5 (by simp); have HB5 := Lib.hid (Below.grown HBx.out hg5 (by have := HBx.out.size; have := HLW.out; omega) (by simp)))
                | (refine wpList_store_blk _ (by rfl) 47 _ _ rfl (w.heap.size + 1 + 1) (faultcells (.bare 11)) rfl rfl 47 _ hf5 (by kernel_rfl) rfl (by kernel_rfl) ?_; intro w6 hk6 hg6))
              have HP := Lib.hid (show allR m true n L = .bare 11 by unfold allR; rw [HEND.out]; simp only; rw [show ((L).length : Int) = (i : Int) by rw [HLN.out], whole_long (by rintro (h | h); have := HWN.out; omega; have := HWN.out; have := h.2; omega) (.inr (.inr ⟨rfl, htk⟩))])
              refine ret_cell2 rfl _ _ _ _ zsent (faultcells (.bare 11)) rfl (hk5.grown hg6 (by simp)) (by kernel_rfl) (by kernel_rfl) rfl hk6 (by kernel_rfl) (by kernel_rfl) rfl ?_
              rw [HP.out]
              exact ⟨rfl, Below.grown HB5.out hg6 HB5.out.size (by simp; omega)⟩
          case neg =>
            have gt : decide (m.ticks < ppP m.r (n : Int)) = false := decide_eq_false htk
            by_cases hmx : 54840 < ppP m.r (n : Int)
            case pos =>
              have gx : decide (54840 < ppP m.r (n : Int)) = true := decide_eq_true hmx
              as_aux_lemma =>
                go_wp2_with fail
                refine (bare_any 112 w2).mono ?_
                rintro e x4 ⟨rfl, hb4⟩
                have HBx := Lib.hid (HB2.out.trans (hb4.mono HB2.out.size))
                have hz4 := HZ2.out.below hb4 HZ2.out.lt
                have HF4 := Lib.hid (HF2.out.below hb4 HF2.out.lt)
                clear hb4
                go_wp2_with (first
                  | (refine wpList_store_blk _ (by rfl) 52 _ _ rfl (w.heap.size + 1) zsent rfl rfl 52 _ hz4 (by kernel_rfl) rfl (by kernel_rfl) ?_; intro w5 hk5 hg5; have hf5 := HF4.out.grown hg5 (by simp); have HB5 := Lib.hid (Below.grown HBx.out hg5 (by have := HBx.out.size; have := HLW.out; omega) (by simp)))
                  | (refine wpList_store_blk _ (by rfl) 47 _ _ rfl (w.heap.size + 1 + 1) (faultcells (.bare 11)) rfl rfl 47 _ hf5 (by kernel_rfl) rfl (by kernel_rfl) ?_; intro w6 hk6 hg6))
                have HP := Lib.hid (show allR m true n L = .bare 11 by unfold allR; rw [HEND.out]; simp only; rw [show ((L).length : Int) = (i : Int) by rw [HLN.out], whole_long (by rintro (h | h); have := HWN.out; omega; have := HWN.out; have := h.2; omega) (.inr (.inl hmx))])
                refine ret_cell2 rfl _ _ _ _ zsent (faultcells (.bare 11)) rfl (hk5.grown hg6 (by simp)) (by kernel_rfl) (by kernel_rfl) rfl hk6 (by kernel_rfl) (by kernel_rfl) rfl ?_
                rw [HP.out]
                exact ⟨rfl, Below.grown HB5.out hg6 HB5.out.size (by simp; omega)⟩
            case neg =>
              have gx : decide (54840 < ppP m.r (n : Int)) = false := decide_eq_false hmx
              go_wp2_with (refine wpList_load_midG (by rfl) 28 (.tmp 203) rfl w.heap.size 12 rfl [.int .i64 m.r.m, .int .i64 m.r.c, .int .i64 m.r.s, .int .i64 m.r.w, .int .i64 m.r.g] _ (HM2.out.range 12 [.int .i64 m.r.m, .int .i64 m.r.c, .int .i64 m.r.s, .int .i64 m.r.w, .int .i64 m.r.g] (by rfl)) Tryd.underlying28 rfl (by kernel_rfl) ?_)
              refine (rvalid_any m.r w2 HS01.out.1 HS01.out.2).mono ?_
              rintro e w3 ⟨rfl, hb3⟩
              have HS3 := Lib.hid (RChkW.below HS2.out hb3)
              have HZ3 := Lib.hid (HZ2.out.below hb3 HZ2.out.lt)
              have HF3 := Lib.hid (HF2.out.below hb3 HF2.out.lt)
              have HB3 := Lib.hid (HB2.out.trans (hb3.mono HB2.out.size))
              clear hb3 t20
              rcases hva : validP m.r
              case false =>
                as_aux_lemma =>
                  go_wp2_with fail
                  refine (bare_any 112 w3).mono ?_
                  rintro e x4 ⟨rfl, hb4⟩
                  have HBx := Lib.hid (HB3.out.trans (hb4.mono HB3.out.size))
                  have hz4 := HZ3.out.below hb4 HZ3.out.lt
                  have HF4 := Lib.hid (HF3.out.below hb4 HF3.out.lt)
                  clear hb4
                  go_wp2_with (first
                    | (refine wpList_store_blk _ (by rfl) 52 _ _ rfl (w.heap.size + 1) zsent rfl rfl 52 _ hz4 (by kernel_rfl) rfl (by kernel_rfl) ?_; intro w5 hk5 hg5; have hf5 := HF4.out.grown hg5 (by simp); have HB5 := Lib.hid (Below.grown HBx.out hg5 (by have := HBx.out.size; have := HLW.out; omega) (by simp)))
                    | (refine wpList_store_blk _ (by rfl) 47 _ _ rfl (w.heap.size + 1 + 1) (faultcells (.bare 11)) rfl rfl 47 _ hf5 (by kernel_rfl) rfl (by kernel_rfl) ?_; intro w6 hk6 hg6))
                  have HP := Lib.hid (show allR m true n L = .bare 11 by unfold allR; rw [HEND.out]; simp only; rw [show ((L).length : Int) = (i : Int) by rw [HLN.out], whole_long (by rintro (h | h); have := HWN.out; omega; have := HWN.out; have := h.2; omega) (.inl hva)])
                  refine ret_cell2 rfl _ _ _ _ zsent (faultcells (.bare 11)) rfl (hk5.grown hg6 (by simp)) (by kernel_rfl) (by kernel_rfl) rfl hk6 (by kernel_rfl) (by kernel_rfl) rfl ?_
                  rw [HP.out]
                  exact ⟨rfl, Below.grown HB5.out hg6 HB5.out.size (by simp; omega)⟩
              case true =>
                have HWF := Lib.hid (show wholeP m true (i : Int) (n : Int) = none from whole_fine (by rintro (h | h); have := HWN.out; omega; have := HWN.out; have := h.2; omega) (by rintro (h | h | h); rw [hva] at h; cases h; omega; have := h.2; omega))
                have HP := Lib.hid (show allR m true n L = .fine s by unfold allR; rw [HEND.out]; simp only; rw [show ((L).length : Int) = (i : Int) by rw [HLN.out], HWF.out])
                clear hmx gx gs htk gt gb
                go_wp2_with fail
                have hlw := HLW.out
                have HSD := Lib.hid (RChkW.below HS3.out (below_drewN (w := w3) 1))
                have HZD := Lib.hid (HZ3.out.below (below_drewN (w := w3) 1) HZ3.out.lt)
                have HFD := Lib.hid (HF3.out.below (below_drewN (w := w3) 1) HF3.out.lt)
                have HBD := Lib.hid (HB3.out.trans ((below_drewN (w := w3) 1).mono HB3.out.size))
                have hR : ∀ x : World, Blk x po (sentcells s.tid A1 s.seqs.length C1 A2 s.retry.length C2 s.more s.eosp A3 s.bodies.length C3) 52 → x.rangeAt po 0 (sentcells s.tid A1 s.seqs.length C1 A2 s.retry.length C2 s.more s.eosp A3 s.bodies.length C3).toList := fun x hx => hx.range 0 _ (by rfl)
                refine wp_region_held_drew (S := fun w' => w'.rangeAt po 0 (sentcells s.tid A1 s.seqs.length C1 A2 s.retry.length C2 s.more s.eosp A3 s.bodies.length C3).toList) (by kernel_rfl) (hR _ HSD.out.out) (fun hHeld => ?_)
                rw [show w3.drewN 1 = w3.drew from rfl] at HSD HZD HFD HBD
                generalize w3.drew = U at *
                refine wpAnyH_take (i := 0) (oi := { dst := some 210, op := _, type := _, pos := _, after := _, guard := none }) (v := .agg (sentcells s.tid A1 s.seqs.length C1 A2 s.retry.length C2 s.more s.eosp A3 s.bodies.length C3)) rfl (by kernel_rfl) (by kernel_rfl) (by kernel_rfl) (fun _ _ _ h => h) (yieldsIf_load_mid (S := fun w' => w'.rangeAt po 0 (sentcells s.tid A1 s.seqs.length C1 A2 s.retry.length C2 s.more s.eosp A3 s.bodies.length C3).toList) (by rfl) 52 (.tmp 11) rfl po 0 rfl (sentcells s.tid A1 s.seqs.length C1 A2 s.retry.length C2 s.more s.eosp A3 s.bodies.length C3).toList _ (fun w hw => hw) Tryd.underlying52 rfl (by kernel_rfl)) (by assumption) ?_
                try simp only [Act.put, List.setIfInBounds_toArray, List.set_cons_zero, List.set_cons_succ]
                refine wpAnyH_ready (rs := [1]) (by kernel_rfl) (by simp) ?_
                refine AllReadyH.cons (o := { dst := some 211, op := _, type := _, pos := _, after := _, guard := none }) rfl (fun K hK => ?_) AllReadyH.nil
                go_simp
                refine (none_any _).mono ?_
                rintro e x1 ⟨rfl, hb⟩
                have HS4 := Lib.hid (RChkW.below HSD.out hb)
                have HZ4 := Lib.hid (HZD.out.below hb HZD.out.lt)
                have HF4 := Lib.hid (HFD.out.below hb HFD.out.lt)
                have HB4 := Lib.hid (HBD.out.trans (hb.mono HBD.out.size))
                refine hK.out _ _ (hR _ HS4.out.out) (fun hHeld => ?_)
                clear hK K hb
                try simp only [Act.put, List.setIfInBounds_toArray, List.set_cons_zero, List.set_cons_succ]
                refine wpAnyH_ready (rs := [2]) (by kernel_rfl) (by simp) ?_
                refine AllReadyH.cons (o := { dst := none, op := _, type := _, pos := _, after := _, guard := none }) rfl (fun K hK => as_wanted rfl (wp_store_blk x1 52 (.tmp 6) (.tmp 210) rfl (w.heap.size + 1) (sentcells s.tid A1 s.seqs.length C1 A2 s.retry.length C2 s.more s.eosp A3 s.bodies.length C3) rfl rfl 52 _ HZ4.out (by kernel_rfl) rfl sent_one (fun x2 hk2 hg2 => ?_))) AllReadyH.nil
                have HO5 := Lib.hid (HS4.out.out.grown hg2 (by simp; omega))
                have HF5 := Lib.hid (HF4.out.grown hg2 (by simp))
                have HB5 := Lib.hid (Below.grown HB4.out hg2 HB4.out.size (by simp))
                have lz := HZ4.out.lt
                refine hK.out _ _ (hR _ HO5.out) (fun hHeld => ?_)
                clear hK K
                try simp only [Act.put, List.setIfInBounds_toArray, List.set_cons_zero, List.set_cons_succ]
                refine wpAnyH_ready (rs := [3]) (by kernel_rfl) (by simp) ?_
                refine AllReadyH.cons (o := { dst := none, op := _, type := _, pos := _, after := _, guard := none }) rfl (fun K hK => as_wanted rfl (wp_store_blk x2 47 (.tmp 7) (.tmp 211) rfl (w.heap.size + 1 + 1) (faultcells (.fine s)) rfl rfl 47 _ HF5.out (by kernel_rfl) rfl (by kernel_rfl) (fun x3 hk3 hg3 => ?_))) AllReadyH.nil
                refine hK.out _ _ (hR _ (HO5.out.grown hg3 (by simp; omega))) (fun hHeld => ?_)
                clear hK K
                try simp only [Act.put, List.setIfInBounds_toArray, List.set_cons_zero, List.set_cons_succ]
                refine wpAnyH_done (by kernel_rfl) ?_ _
                go_wp2_with fail
                refine ret_cell2 rfl _ _ _ _ (sentcells s.tid A1 s.seqs.length C1 A2 s.retry.length C2 s.more s.eosp A3 s.bodies.length C3) (faultcells (.fine s)) rfl (hk2.grown hg3 (by simp)) (by kernel_rfl) (by kernel_rfl) rfl hk3 (by kernel_rfl) (by kernel_rfl) rfl ?_
                rw [HP.out]
                have hT := HS4.out
                have hge : w.heap.size ≤ po := by omega
                have hz := HZ4.out
                have hf := HF5.out
                have lf := hf.lt
                refine ⟨A1, C1, A2, C2, A3, C3, rfl, ?_, ?_, ?_, Below.grown HB5.out hg3 HB5.out.size (by simp; omega)⟩
                · have k1 := own_keep hT.o1 hg2 (.inr (Ne.symm (own_ne hT.o1 hz (by decide))))
                  exact OwnI.base_le (own_keep k1 hg3 (.inr (Ne.symm (own_ne k1 hf (by decide))))) hge
                · have k1 := own_keep hT.o2 hg2 (.inr (Ne.symm (own_ne hT.o2 hz (by decide))))
                  exact OwnB.base_le (own_keep k1 hg3 (.inr (Ne.symm (own_ne k1 hf (by decide))))) hge
                · obtain ⟨A', C', vs', e', ho', hp'⟩ := hT.o3
                  have k1 := own_keep ho' hg2 (.inr (Ne.symm (own_ne ho' hz (by decide))))
                  refine OwnP.base_le ⟨A', C', vs', e', own_keep k1 hg3 (.inr (Ne.symm (own_ne k1 hf (by decide)))), fun i' u' x' hu hx => ?_⟩ hge
                  obtain ⟨A'', C'', e'', ho''⟩ := hp' i' u' x' hu hx
                  have k2 := own_keep ho'' hg2 (.inr (Ne.symm (own_ne ho'' hz (by decide))))
                  exact ⟨A'', C'', e'', own_keep k2 hg3 (.inr (Ne.symm (own_ne k2 hf (by decide))))⟩
end Go.Proofs.YtoagmehgiaamlaaDoor
