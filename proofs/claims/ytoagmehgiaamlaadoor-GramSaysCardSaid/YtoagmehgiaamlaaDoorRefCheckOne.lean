/-
  The document's Check over its frames (one). Printed by gen_rcheck.py.
-/
import Derived.Test.YtoagmehgiaamlaaDoorRefCheckPlain
import Derived.Test.YtoagmehgiaamlaaDoorRefAir
namespace Go.Proofs.YtoagmehgiaamlaaDoor
open Go.ChangeShapes Go.WideShapes Go.ChangeAt Go.RowKit
set_option linter.unusedVariables false

set_option maxRecDepth 100000 in
set_option maxHeartbeats 16000000 in
theorem rcheck_one {w : World} (m : RulesP) (hs0 : -9223372036854775808 ≤ m.r.s) (hs1 : m.r.s ≤ 9223372036854775807) (ht0 : -9223372036854775808 ≤ m.start) (ht1 : m.start ≤ 9223372036854775807) (A : Option Addr) (n C : Nat) (b : List UInt8) (h : Row w 1 A n C (b.map u8v)) (hn : n ≤ 1048576) :
    Calls Tryd.prog 16 #[.agg (rucells m), .bool false, .slice A n C] w fun e w' => RCheckR w (allR m false n [b]) e w' := by
  have HN := Lib.hid hn
  have HBL := Lib.hid (show b.length = n by simpa using h.1)
  have hr1 : RowP ((((w.alloc (.cells (rucells m) 55)).alloc (.cells zsent 52)).alloc (.cells #[.int .i64 0, .bool false, .int .i64 0] 47)).alloc (.cells #[.slice A n C] 22)) (some ⟨(((w.alloc (.cells (rucells m) 55)).alloc (.cells zsent 52)).alloc (.cells #[.int .i64 0, .bool false, .int .i64 0] 47)).heap.size, 0, none⟩) 1 1 [b] := rowP_one _ A n C b HBL.out (((h.alloc _).alloc _).alloc _) _
  rw [show (((w.alloc (.cells (rucells m) 55)).alloc (.cells zsent 52)).alloc (.cells #[.int .i64 0, .bool false, .int .i64 0] 47)).heap.size = w.heap.size + 1 + 1 + 1 by simp] at hr1
  have hm1 : Blk ((((w.alloc (.cells (rucells m) 55)).alloc (.cells zsent 52)).alloc (.cells #[.int .i64 0, .bool false, .int .i64 0] 47)).alloc (.cells #[.slice A n C] 22)) w.heap.size (rucells m) 55 := (((Blk.new w _ _).alloc _).alloc _).alloc _
  have hz1 := ((Blk.new (w.alloc (.cells (rucells m) 55)) zsent 52).alloc (.cells #[.int .i64 0, .bool false, .int .i64 0] 47)).alloc (.cells #[.slice A n C] 22)
  rw [show (w.alloc (.cells (rucells m) 55)).heap.size = w.heap.size + 1 by simp] at hz1
  have hf1 := (Blk.new ((w.alloc (.cells (rucells m) 55)).alloc (.cells zsent 52)) #[.int .i64 0, .bool false, .int .i64 0] 47).alloc (.cells #[.slice A n C] 22)
  rw [show ((w.alloc (.cells (rucells m) 55)).alloc (.cells zsent 52)).heap.size = w.heap.size + 1 + 1 by simp] at hf1
  have hb1 : Below w.heap.size w ((((w.alloc (.cells (rucells m) 55)).alloc (.cells zsent 52)).alloc (.cells #[.int .i64 0, .bool false, .int .i64 0] 47)).alloc (.cells #[.slice A n C] 22)) := ((((Below.refl _ _).alloc (Nat.le_refl _) _).alloc (by simp) _).alloc (by simp; omega) _).alloc (by simp; omega) _
  have hpo : ((((w.alloc (.cells (rucells m) 55)).alloc (.cells zsent 52)).alloc (.cells #[.int .i64 0, .bool false, .int .i64 0] 47)).alloc (.cells #[.slice A n C] 22)).heap.size = w.heap.size + 1 + 1 + 1 + 1 := by simp
  have hch := Rchk_start _ _ hpo
  have HRP := Lib.hid hr1
  have HM := Lib.hid hm1
  have HZ := Lib.hid hz1
  have HF := Lib.hid hf1
  have HBP := Lib.hid hb1
  have HPO := Lib.hid hpo
  have HCH := Lib.hid hch
  have HLC := Lib.hid (show (1 : Nat) ≤ 64 by decide)
  have HLN := Lib.hid (show ([b] : List (List UInt8)).length = 1 from rfl)
  rw [zsent_eq] at HRP HM HZ HF HBP HPO HCH
  clear h hn hr1 hm1 hz1 hf1 hb1 hpo hch
  have HS01 := Lib.hid (And.intro hs0 hs1)
  have HT01 := Lib.hid (And.intro ht0 ht1)
  clear hs0 hs1 ht0 ht1
  go_enter Tryd.func16, Tryd.ntmps16
  go_wp2_with fail
  generalize ((((w.alloc _).alloc _).alloc _).alloc _).alloc _ = W at *
  generalize (((w.alloc _).alloc _).alloc _).alloc _ = WP at *
  have HLW := Lib.hid (show w.heap.size + 1 + 1 < (w.heap.size + 1 + 1 + 1 + 1) by omega)

  go_loopw [12] (fun iv wr => ∃ (i : Nat) (s : SentP) (l : Option URead) (A1 : Option Addr) (C1 : Nat) (A2 : Option Addr) (C2 : Nat) (A3 : Option Addr) (C3 : Nat), i ≤ 1 ∧ iv = .int .i64 i ∧ (s.seqs.length = i ∧ s.retry.length = i ∧ s.bodies.length = i) ∧ LastD s i l ∧ RChkT WP (w.heap.size + 1 + 1 + 1 + 1) s A1 C1 A2 C2 A3 C3 wr ∧ sentL m [b] 0 noSent none = sentL m ([b].drop i) i s l)
    (fun iv _ => 1 - (intOf iv).toNat)
  case atStart => exact ⟨0, noSent, none, none, 0, none, 0, none, 0, Nat.zero_le _, rfl, ⟨rfl, rfl, rfl⟩, rfl, HCH.out, rfl⟩
  case round =>
    obtain ⟨i, s, l, A1, C1, A2, C2, A3, C3, hi, rfl, hlen, hl, hS, hU⟩ := hrel
    have HS := Lib.hid hS
    have HLS := Lib.hid hl
    have HU := Lib.hid hU
    have HLEN := Lib.hid hlen
    have HI := Lib.hid hi
    have z1 : (w.heap.size + 1 + 1 + 1 + 1) < wr.heap.size := hS.out.lt
    have HBW := Lib.hid (HBP.out.trans (hS.bel.mono (by have := HLW.out; omega)))
    have HZW := Lib.hid (HZ.out.below hS.bel (by have := HLW.out; omega))
    have HFW := Lib.hid (HF.out.below hS.bel HLW.out)
    have HMW := Lib.hid (HM.out.below hS.bel (by have := HLW.out; omega))
    clear hl hS hU hlen
    by_cases hi1 : i < 1
    case pos =>
      have HRW := Lib.hid (HRP.out.below HS.out.bel (Nat.le_of_eq HPO.out))
      obtain ⟨b1, o1, x, A5, C5, e5, l5, hx, c5, r5⟩ := HRW.out.at_ hi1
      injection e5 with e5; injection e5 with e51 e52; subst e51 e52; rw [Nat.zero_add] at c5
      have q1 : (i : Int) < (1 : Int) := by omega
      have q2 : IntKind.i64.wrap ((i : Int) + 1) = (i : Int) + 1 := IntWalk.i64_in _ (by have := HLC.out; omega)
      have HX := Lib.hid (drop_of_get hx)
      have HI1 := Lib.hid hi1
      clear hi hi1 hx
      go_wp2_with fail
      have HC := Lib.hid (rreadU A5 x.length C5 x wr r5)
      rcases hrd : rdErr x with _ | c
      case some =>
        have HRD := Lib.hid hrd
        rw [hrd, show errCode (some c) = 101 + (c : Int) from rfl] at HC
        have g0 : (101 + (c : Int) != 0) = true := by simp; omega
        clear hrd c5 r5
        refine HC.out.mono ?_
        rintro e w2 ⟨A6, n6, C6, rfl, ho6, hb6⟩
        have HB2 := Lib.hid hb6
        have z2 := hb6.size
        clear ho6 hb6
        unfold uv
        go_wp2_with (refine wpList_store_blk _ (by rfl) 35 _ _ rfl w2.heap.size _ rfl rfl 35 _ (Blk.new _ _ _) (by kernel_rfl) rfl (qcells_one _ _ _ _ _ _ _ _ _) ?_; intro w3 hk3 hg3; have hb23 : Below w2.heap.size w2 w3 := Below.grown ((Below.refl _ _).alloc (Nat.le_refl _) _) hg3 (by simp) (by simp); have HB3 := Lib.hid (HB2.out.trans (hb23.mono z2)); clear hk3 hg3 hb23)
        refine (placed_any (101 + (c : Int)) (i : Int) (by omega) w3).mono ?_
        rintro e w4 ⟨rfl, hb4⟩
        have HB4 := Lib.hid (HB3.out.trans (hb4.mono HB3.out.size))
        have hz4 := HZW.out.below HB4.out HZW.out.lt
        have HF4 := Lib.hid (HFW.out.below HB4.out HFW.out.lt)
        clear hb4
        go_wp2_with (first
          | (refine wpList_store_blk _ (by rfl) 52 _ _ rfl (w.heap.size + 1) zsent rfl rfl 52 _ hz4 (by kernel_rfl) rfl (by kernel_rfl) ?_; intro w5 hk5 hg5; have hf5 := HF4.out.grown hg5 (by simp); have HB5 := Lib.hid (Below.grown (HBW.out.trans (HB4.out.mono (by have := HLW.out; omega))) hg5 (by have := HB4.out.size; have := HLW.out; omega) (by simp)))
          | (refine wpList_store_blk _ (by rfl) 47 _ _ rfl (w.heap.size + 1 + 1) (faultcells (.placed c i)) rfl rfl 47 _ hf5 (by kernel_rfl) rfl (by kernel_rfl) ?_; intro w6 hk6 hg6))
        have HP := Lib.hid (show allR m false n [b] = .placed c i by unfold allR; rw [HU.out, HX.out, sent_bad HRD.out])
        refine ret_cell2 rfl _ _ _ _ zsent (faultcells (.placed c i)) rfl (hk5.grown hg6 (by simp)) (by kernel_rfl) (by kernel_rfl) rfl hk6 (by kernel_rfl) (by kernel_rfl) rfl ?_
        rw [HP.out]
        exact ⟨rfl, Below.grown HB5.out hg6 HB5.out.size (by simp; omega)⟩
      case none =>
        have HRD := Lib.hid hrd
        rw [hrd, show errCode none = 0 from rfl] at HC
        clear hrd c5 r5
        obtain ⟨u, hu⟩ : ∃ u, uread x = u := ⟨_, rfl⟩
        rw [hu] at HC
        have HUX := Lib.hid hu
        clear hu
        have HPD := Lib.hid (gpart_doc (m := m) (u := u) HLS.out)
        refine HC.out.mono ?_
        rintro e w2 ⟨A6, n6, C6, rfl, ho6, hb6⟩
        have HS2 := Lib.hid (RChkW.below HS.out hb6)
        have z2 := hb6.size
        have HB2 := Lib.hid hb6
        have HO6 := Lib.hid (ho6.base_le (b' := (w.heap.size + 1 + 1 + 1 + 1)) (by omega))
        clear ho6 hb6
        unfold uv
        go_wp2_with (first
          | (refine wpList_store_blk _ (by rfl) 35 _ _ rfl w2.heap.size _ rfl rfl 35 _ (Blk.new _ _ _) (by kernel_rfl) rfl (qcells_one _ _ _ _ _ _ _ _ _) ?_; intro w3 hk3 hg3; have hb23 : Below w2.heap.size w2 w3 := Below.grown ((Below.refl _ _).alloc (Nat.le_refl _) _) hg3 (by simp) (by simp); have HA3 := Lib.hid (RChkW.app (RChkW.below HS2.out hb23) hk3 (HO6.out.below hb23 (Nat.le_refl _))); have HB3 := Lib.hid (HB2.out.trans (hb23.mono z2)); have HM3 := Lib.hid (HMW.out.below HB3.out HMW.out.lt); clear hk3 hg3 hb23)
          | (refine wpList_load_mid (by rfl) 26 (.tmp 53) rfl w2.heap.size 0 rfl [.int .u8 ((u.a 0).toNat : Int), .int .u8 ((u.a 1).toNat : Int), .int .u8 ((u.a 2).toNat : Int), .int .u8 ((u.a 3).toNat : Int), .int .u8 ((u.a 4).toNat : Int), .int .u8 ((u.a 5).toNat : Int)] _ (HA3.out.f.range 0 [.int .u8 ((u.a 0).toNat : Int), .int .u8 ((u.a 1).toNat : Int), .int .u8 ((u.a 2).toNat : Int), .int .u8 ((u.a 3).toNat : Int), .int .u8 ((u.a 4).toNat : Int), .int .u8 ((u.a 5).toNat : Int)] (by rfl)) Tryd.underlying26 rfl (by kernel_rfl) ?_)
          | (refine wpList_load_mid (by rfl) 26 (.tmp 55) rfl w.heap.size 6 rfl [.int .u8 ((m.dst 0).toNat : Int), .int .u8 ((m.dst 1).toNat : Int), .int .u8 ((m.dst 2).toNat : Int), .int .u8 ((m.dst 3).toNat : Int), .int .u8 ((m.dst 4).toNat : Int), .int .u8 ((m.dst 5).toNat : Int)] _ (HM3.out.range 6 [.int .u8 ((m.dst 0).toNat : Int), .int .u8 ((m.dst 1).toNat : Int), .int .u8 ((m.dst 2).toNat : Int), .int .u8 ((m.dst 3).toNat : Int), .int .u8 ((m.dst 4).toNat : Int), .int .u8 ((m.dst 5).toNat : Int)] (by rfl)) Tryd.underlying26 rfl (by kernel_rfl) ?_))
        have HC1 := Lib.hid (sameAddr_any u.a m.dst w3)
        unfold av at HC1
        refine HC1.out.mono ?_
        rintro e w4 ⟨rfl, hb4⟩
        have HA4 := Lib.hid (RAppS.below HA3.out hb4)
        have HB4 := Lib.hid (HB3.out.trans (hb4.mono HB3.out.size))
        have HM4 := Lib.hid (HM3.out.below hb4 HM3.out.lt)
        clear hb4
        rcases hk1 : sameA u.a m.dst
        case false =>
          go_wp2_with fail
          refine (placed_any 105 (i : Int) (by decide) w4).mono ?_
          rintro e x4 ⟨rfl, hb4⟩
          have HBx := Lib.hid (HB4.out.trans (hb4.mono HB4.out.size))
          have hz4 := HZW.out.below HBx.out HZW.out.lt
          have HF4 := Lib.hid (HFW.out.below HBx.out HFW.out.lt)
          clear hb4
          go_wp2_with (first
            | (refine wpList_store_blk _ (by rfl) 52 _ _ rfl (w.heap.size + 1) zsent rfl rfl 52 _ hz4 (by kernel_rfl) rfl (by kernel_rfl) ?_; intro w5 hk5 hg5; have hf5 := HF4.out.grown hg5 (by simp); have HB5 := Lib.hid (Below.grown (HBW.out.trans (HBx.out.mono (by have := HLW.out; omega))) hg5 (by have := HBx.out.size; have := HLW.out; omega) (by simp)))
            | (refine wpList_store_blk _ (by rfl) 47 _ _ rfl (w.heap.size + 1 + 1) (faultcells (.placed 4 i)) rfl rfl 47 _ hf5 (by kernel_rfl) rfl (by kernel_rfl) ?_; intro w6 hk6 hg6))
          have HP := Lib.hid (show allR m false n [b] = .placed 4 i by unfold allR; rw [HU.out, HX.out, sent_amiss (c := 4) HRD.out (by rw [HUX.out, HPD.out]; simp [d1, hk1])])
          refine ret_cell2 rfl _ _ _ _ zsent (faultcells (.placed 4 i)) rfl (hk5.grown hg6 (by simp)) (by kernel_rfl) (by kernel_rfl) rfl hk6 (by kernel_rfl) (by kernel_rfl) rfl ?_
          rw [HP.out]
          exact ⟨rfl, Below.grown HB5.out hg6 HB5.out.size (by simp; omega)⟩
        case true =>
        have HK1 := Lib.hid hk1
        clear hk1
        go_wp2_with (first
          | (refine wpList_load_midG (by rfl) 26 (.tmp 60) rfl w2.heap.size 6 rfl [.int .u8 ((u.a 6).toNat : Int), .int .u8 ((u.a 7).toNat : Int), .int .u8 ((u.a 8).toNat : Int), .int .u8 ((u.a 9).toNat : Int), .int .u8 ((u.a 10).toNat : Int), .int .u8 ((u.a 11).toNat : Int)] _ (HA4.out.f.range 6 [.int .u8 ((u.a 6).toNat : Int), .int .u8 ((u.a 7).toNat : Int), .int .u8 ((u.a 8).toNat : Int), .int .u8 ((u.a 9).toNat : Int), .int .u8 ((u.a 10).toNat : Int), .int .u8 ((u.a 11).toNat : Int)] (by rfl)) Tryd.underlying26 rfl (by kernel_rfl) ?_)
          | (refine wpList_load_midG (by rfl) 26 (.tmp 62) rfl w.heap.size 0 rfl [.int .u8 ((m.bss 0).toNat : Int), .int .u8 ((m.bss 1).toNat : Int), .int .u8 ((m.bss 2).toNat : Int), .int .u8 ((m.bss 3).toNat : Int), .int .u8 ((m.bss 4).toNat : Int), .int .u8 ((m.bss 5).toNat : Int)] _ (HM4.out.range 0 [.int .u8 ((m.bss 0).toNat : Int), .int .u8 ((m.bss 1).toNat : Int), .int .u8 ((m.bss 2).toNat : Int), .int .u8 ((m.bss 3).toNat : Int), .int .u8 ((m.bss 4).toNat : Int), .int .u8 ((m.bss 5).toNat : Int)] (by rfl)) Tryd.underlying26 rfl (by kernel_rfl) ?_))
        have HC2 := Lib.hid (sameAddr_any (fun k => u.a (6 + k)) m.bss w4)
        unfold av at HC2
        refine HC2.out.mono ?_
        rintro e w5 ⟨rfl, hb5⟩
        have HA5 := Lib.hid (RAppS.below HA4.out hb5)
        have HB5 := Lib.hid (HB4.out.trans (hb5.mono HB4.out.size))
        have HM5 := Lib.hid (HM4.out.below hb5 HM4.out.lt)
        clear hb5
        rcases hk2 : sameA (fun k => u.a (6 + k)) m.bss
        case false =>
          go_wp2_with fail
          refine (placed_any 105 (i : Int) (by decide) w5).mono ?_
          rintro e x4 ⟨rfl, hb4⟩
          have HBx := Lib.hid (HB5.out.trans (hb4.mono HB5.out.size))
          have hz4 := HZW.out.below HBx.out HZW.out.lt
          have HF4 := Lib.hid (HFW.out.below HBx.out HFW.out.lt)
          clear hb4
          go_wp2_with (first
            | (refine wpList_store_blk _ (by rfl) 52 _ _ rfl (w.heap.size + 1) zsent rfl rfl 52 _ hz4 (by kernel_rfl) rfl (by kernel_rfl) ?_; intro w5 hk5 hg5; have hf5 := HF4.out.grown hg5 (by simp); have HB5 := Lib.hid (Below.grown (HBW.out.trans (HBx.out.mono (by have := HLW.out; omega))) hg5 (by have := HBx.out.size; have := HLW.out; omega) (by simp)))
            | (refine wpList_store_blk _ (by rfl) 47 _ _ rfl (w.heap.size + 1 + 1) (faultcells (.placed 4 i)) rfl rfl 47 _ hf5 (by kernel_rfl) rfl (by kernel_rfl) ?_; intro w6 hk6 hg6))
          have HP := Lib.hid (show allR m false n [b] = .placed 4 i by unfold allR; rw [HU.out, HX.out, sent_amiss (c := 4) HRD.out (by rw [HUX.out, HPD.out]; simp [d1, HK1.out, hk2])])
          refine ret_cell2 rfl _ _ _ _ zsent (faultcells (.placed 4 i)) rfl (hk5.grown hg6 (by simp)) (by kernel_rfl) (by kernel_rfl) rfl hk6 (by kernel_rfl) (by kernel_rfl) rfl ?_
          rw [HP.out]
          exact ⟨rfl, Below.grown HB5.out hg6 HB5.out.size (by simp; omega)⟩
        case true =>
        have HK2 := Lib.hid hk2
        clear hk2
        go_wp2_with (first
          | (refine wpList_load_midG (by rfl) 26 (.tmp 68) rfl w2.heap.size 12 rfl [.int .u8 ((u.a 12).toNat : Int), .int .u8 ((u.a 13).toNat : Int), .int .u8 ((u.a 14).toNat : Int), .int .u8 ((u.a 15).toNat : Int), .int .u8 ((u.a 16).toNat : Int), .int .u8 ((u.a 17).toNat : Int)] _ (HA5.out.f.range 12 [.int .u8 ((u.a 12).toNat : Int), .int .u8 ((u.a 13).toNat : Int), .int .u8 ((u.a 14).toNat : Int), .int .u8 ((u.a 15).toNat : Int), .int .u8 ((u.a 16).toNat : Int), .int .u8 ((u.a 17).toNat : Int)] (by rfl)) Tryd.underlying26 rfl (by kernel_rfl) ?_)
          | (refine wpList_load_midG (by rfl) 26 (.tmp 70) rfl w.heap.size 0 rfl [.int .u8 ((m.bss 0).toNat : Int), .int .u8 ((m.bss 1).toNat : Int), .int .u8 ((m.bss 2).toNat : Int), .int .u8 ((m.bss 3).toNat : Int), .int .u8 ((m.bss 4).toNat : Int), .int .u8 ((m.bss 5).toNat : Int)] _ (HM5.out.range 0 [.int .u8 ((m.bss 0).toNat : Int), .int .u8 ((m.bss 1).toNat : Int), .int .u8 ((m.bss 2).toNat : Int), .int .u8 ((m.bss 3).toNat : Int), .int .u8 ((m.bss 4).toNat : Int), .int .u8 ((m.bss 5).toNat : Int)] (by rfl)) Tryd.underlying26 rfl (by kernel_rfl) ?_))
        have HC3 := Lib.hid (sameAddr_any (fun k => u.a (12 + k)) m.bss w5)
        unfold av at HC3
        refine HC3.out.mono ?_
        rintro e w6 ⟨rfl, hb6⟩
        have HA6 := Lib.hid (RAppS.below HA5.out hb6)
        have HB6 := Lib.hid (HB5.out.trans (hb6.mono HB5.out.size))
        have HM6 := Lib.hid (HM5.out.below hb6 HM5.out.lt)
        clear hb6
        rcases hk3 : sameA (fun k => u.a (12 + k)) m.bss
        case false =>
          go_wp2_with fail
          refine (placed_any 105 (i : Int) (by decide) w6).mono ?_
          rintro e x4 ⟨rfl, hb4⟩
          have HBx := Lib.hid (HB6.out.trans (hb4.mono HB6.out.size))
          have hz4 := HZW.out.below HBx.out HZW.out.lt
          have HF4 := Lib.hid (HFW.out.below HBx.out HFW.out.lt)
          clear hb4
          go_wp2_with (first
            | (refine wpList_store_blk _ (by rfl) 52 _ _ rfl (w.heap.size + 1) zsent rfl rfl 52 _ hz4 (by kernel_rfl) rfl (by kernel_rfl) ?_; intro w5 hk5 hg5; have hf5 := HF4.out.grown hg5 (by simp); have HB5 := Lib.hid (Below.grown (HBW.out.trans (HBx.out.mono (by have := HLW.out; omega))) hg5 (by have := HBx.out.size; have := HLW.out; omega) (by simp)))
            | (refine wpList_store_blk _ (by rfl) 47 _ _ rfl (w.heap.size + 1 + 1) (faultcells (.placed 4 i)) rfl rfl 47 _ hf5 (by kernel_rfl) rfl (by kernel_rfl) ?_; intro w6 hk6 hg6))
          have HP := Lib.hid (show allR m false n [b] = .placed 4 i by unfold allR; rw [HU.out, HX.out, sent_amiss (c := 4) HRD.out (by rw [HUX.out, HPD.out]; simp [d1, HK1.out, HK2.out, hk3])])
          refine ret_cell2 rfl _ _ _ _ zsent (faultcells (.placed 4 i)) rfl (hk5.grown hg6 (by simp)) (by kernel_rfl) (by kernel_rfl) rfl hk6 (by kernel_rfl) (by kernel_rfl) rfl ?_
          rw [HP.out]
          exact ⟨rfl, Below.grown HB5.out hg6 HB5.out.size (by simp; omega)⟩
        case true =>
        have HK3 := Lib.hid hk3
        clear hk3
        have t18 : w6.cell? ⟨w2.heap.size, 18, none⟩ = some (.int .i64 u.tid) := HA6.out.f.cell 18
        have t0 : w6.cell? ⟨(w.heap.size + 1 + 1 + 1 + 1), 0, none⟩ = some (.int .i64 s.tid) := HA6.out.out.cell 0
        by_cases hi0 : i = 0
        case neg =>
          exact absurd HI1.out (by omega)
        case pos =>
          subst hi0
          have p0 : decide ((0 : Int) < ((0 : Nat) : Int)) = false := by decide
          have t17 : w6.cell? ⟨w.heap.size, 17, none⟩ = some (.int .i64 m.start) := HM6.out.cell 17
          have t18m : w6.cell? ⟨w.heap.size, 18, none⟩ = some (.int .i64 m.size) := HM6.out.cell 18
          have t19 : w6.cell? ⟨w2.heap.size, 19, none⟩ = some (.int .i64 u.seq) := HA6.out.f.cell 19
          have hub := useq_bound x
          rw [HUX.out] at hub
          have HIN := Lib.hid (fun w' => rin2_any m.start m.size u.seq w' HT01.out.1 HT01.out.2 (by omega) (by omega))
          clear hub
          go_wp2_with fail
          rcases hin : decide ((u.seq - m.start) % 4096 < m.size)
          case false =>
            rw [hin] at HIN
            go_quiet ((go_at_call 36; exact quiet0 (fun w => HIN.out w) _ _))
            have HBq := Lib.hid (HB6.out.trans ((below_drewN (w := w6) nq).mono HB6.out.size))
            clear t18 t0 t17 t18m t19
            generalize w6.drewN nq = w7 at *
            go_wp2_with fail
            refine (placed_any 111 ((0 : Nat) : Int) (by decide) w7).mono ?_
            rintro e x4 ⟨rfl, hb4⟩
            have HBx := Lib.hid (HBq.out.trans (hb4.mono HBq.out.size))
            have hz4 := HZW.out.below HBx.out HZW.out.lt
            have HF4 := Lib.hid (HFW.out.below HBx.out HFW.out.lt)
            clear hb4
            go_wp2_with (first
              | (refine wpList_store_blk _ (by rfl) 52 _ _ rfl (w.heap.size + 1) zsent rfl rfl 52 _ hz4 (by kernel_rfl) rfl (by kernel_rfl) ?_; intro w5 hk5 hg5; have hf5 := HF4.out.grown hg5 (by simp); have HB5 := Lib.hid (Below.grown (HBW.out.trans (HBx.out.mono (by have := HLW.out; omega))) hg5 (by have := HBx.out.size; have := HLW.out; omega) (by simp)))
              | (refine wpList_store_blk _ (by rfl) 47 _ _ rfl (w.heap.size + 1 + 1) (faultcells (.placed 10 0)) rfl rfl 47 _ hf5 (by kernel_rfl) rfl (by kernel_rfl) ?_; intro w6 hk6 hg6))
            have HP := Lib.hid (show allR m false n [b] = .placed 10 0 by unfold allR; rw [HU.out, HX.out, sent_amiss (c := 10) HRD.out (by rw [HUX.out, HPD.out]; rw [if_neg (by simp [d1, HK1.out, HK2.out, HK3.out]), if_pos (by simp [d2, hin])])])
            refine ret_cell2 rfl _ _ _ _ zsent (faultcells (.placed 10 0)) rfl (hk5.grown hg6 (by simp)) (by kernel_rfl) (by kernel_rfl) rfl hk6 (by kernel_rfl) (by kernel_rfl) rfl ?_
            rw [HP.out]
            exact ⟨rfl, Below.grown HB5.out hg6 HB5.out.size (by simp; omega)⟩
          case true =>
            rw [hin] at HIN
            go_quiet ((go_at_call 36; exact quiet0 (fun w => HIN.out w) _ _))
            have HA7 := Lib.hid (RAppS.below HA6.out (below_drewN (w := w6) nq))
            have HB7 := Lib.hid (HB6.out.trans ((below_drewN (w := w6) nq).mono HB6.out.size))
            clear t18 t0 t17 t18m t19
            generalize w6.drewN nq = w7 at *
            generalize w2.heap.size = pf at *
            have zz7 := HA7.out.out.lt
            have a18 : w7.cell? ⟨pf, 18, none⟩ = some (.int .i64 u.tid) := HA7.out.f.cell 18
            have b0 : w7.cell? ⟨(w.heap.size + 1 + 1 + 1 + 1), 0, none⟩ = some (.int .i64 s.tid) := HA7.out.out.cell 0
            have c0 := HA7.out.out.frozen 0
            have hA8 := HA7.out.set_ 0 (.int .i64 u.tid)
            rw [sc0] at hA8
            have a21 : (w7.setCell ⟨(w.heap.size + 1 + 1 + 1 + 1), 0, none⟩ (.int .i64 u.tid)).cell? ⟨pf, 21, none⟩ = some (.bool u.m) := hA8.f.cell 21
            have b3 : (w7.setCell ⟨(w.heap.size + 1 + 1 + 1 + 1), 0, none⟩ (.int .i64 u.tid)).cell? ⟨(w.heap.size + 1 + 1 + 1 + 1), 3, none⟩ = some (.bool s.more) := hA8.out.cell 3
            have c3 := hA8.out.frozen 3
            have hA9 := hA8.set_ 3 (.bool u.m)
            rw [sc3] at hA9
            have a22 : ((w7.setCell ⟨(w.heap.size + 1 + 1 + 1 + 1), 0, none⟩ (.int .i64 u.tid)).setCell ⟨(w.heap.size + 1 + 1 + 1 + 1), 3, none⟩ (.bool u.m)).cell? ⟨pf, 22, none⟩ = some (.bool u.e) := hA9.f.cell 22
            have b4 : ((w7.setCell ⟨(w.heap.size + 1 + 1 + 1 + 1), 0, none⟩ (.int .i64 u.tid)).setCell ⟨(w.heap.size + 1 + 1 + 1 + 1), 3, none⟩ (.bool u.m)).cell? ⟨(w.heap.size + 1 + 1 + 1 + 1), 4, none⟩ = some (.bool s.eosp) := hA9.out.cell 4
            have c4 := hA9.out.frozen 4
            have hA10 := hA9.set_ 4 (.bool u.e)
            rw [sc4] at hA10
            have a19 : (((w7.setCell ⟨(w.heap.size + 1 + 1 + 1 + 1), 0, none⟩ (.int .i64 u.tid)).setCell ⟨(w.heap.size + 1 + 1 + 1 + 1), 3, none⟩ (.bool u.m)).setCell ⟨(w.heap.size + 1 + 1 + 1 + 1), 4, none⟩ (.bool u.e)).cell? ⟨pf, 19, none⟩ = some (.int .i64 u.seq) := hA10.f.cell 19
            have b1 : (((w7.setCell ⟨(w.heap.size + 1 + 1 + 1 + 1), 0, none⟩ (.int .i64 u.tid)).setCell ⟨(w.heap.size + 1 + 1 + 1 + 1), 3, none⟩ (.bool u.m)).setCell ⟨(w.heap.size + 1 + 1 + 1 + 1), 4, none⟩ (.bool u.e)).cell? ⟨(w.heap.size + 1 + 1 + 1 + 1), 1, none⟩ = some (.slice A1 s.seqs.length C1) := hA10.out.cell 1
            have HA10 := Lib.hid hA10
            clear hA8 hA9 hA10
            go_wp2_with (first
              | (at_builtin; refine append_int _ rfl (.tmp 149) (.tmp 152) rfl (w.heap.size + 1 + 1 + 1 + 1) A1 s.seqs.length C1 s.seqs rfl (OwnI.alloc HA10.out.o1 _) _ 1 1 [u.seq] rfl (row_int1' _ _ _ _ (by simp [World.setCell])) (by have := HLEN.out; omega) (by simp [World.setCell]; omega) ?_; intro X1 D1 w8 ho8 hg8 _; have hA11 := RAppS.app1 (RAppS.alloc HA10.out (.cells #[.int .i64 u.seq] 3)) ho8 hg8; have b1' : w8.cell? ⟨(w.heap.size + 1 + 1 + 1 + 1), 1, none⟩ = some (.slice A1 s.seqs.length C1) := hA11.out.cell 1; have c1' := hA11.out.frozen 1; have hA12 := hA11.set_ 1 (.slice X1 (s.seqs.length + 1) D1); rw [sc1] at hA12; have b2 : (w8.setCell ⟨(w.heap.size + 1 + 1 + 1 + 1), 1, none⟩ (.slice X1 (s.seqs.length + 1) D1)).cell? ⟨(w.heap.size + 1 + 1 + 1 + 1), 2, none⟩ = some (.slice A2 s.retry.length C2) := hA12.out.cell 2; have a20 : (w8.setCell ⟨(w.heap.size + 1 + 1 + 1 + 1), 1, none⟩ (.slice X1 (s.seqs.length + 1) D1)).cell? ⟨pf, 20, none⟩ = some (.bool u.r) := hA12.f.cell 20; have HA12 := Lib.hid hA12; have zz8 := hA12.out.lt; clear ho8 hg8 hA11 hA12)
              | (at_builtin; refine append_bool _ rfl (.tmp 156) (.tmp 159) rfl (w.heap.size + 1 + 1 + 1 + 1) A2 s.retry.length C2 s.retry rfl (OwnB.alloc HA12.out.o2 _) _ 1 1 [u.r] rfl (row_of_blk1 (by have h := Blk.new (w8.setCell ⟨(w.heap.size + 1 + 1 + 1 + 1), 1, none⟩ (.slice X1 (s.seqs.length + 1) D1)) #[.bool u.r] 4; simpa [World.setCell] using h)) (by have := HLEN.out; omega) (by simp [World.setCell] at zz8 ⊢; omega) ?_; intro X2 D2 w9 ho9 hg9 _; have hA13 := RAppS.app2 (RAppS.alloc HA12.out (.cells #[.bool u.r] 4)) ho9 hg9; have b2' : w9.cell? ⟨(w.heap.size + 1 + 1 + 1 + 1), 2, none⟩ = some (.slice A2 s.retry.length C2) := hA13.out.cell 2; have c2' := hA13.out.frozen 2; have hA14 := hA13.set_ 2 (.slice X2 (s.retry.length + 1) D2); rw [sc2] at hA14; have b5 : (w9.setCell ⟨(w.heap.size + 1 + 1 + 1 + 1), 2, none⟩ (.slice X2 (s.retry.length + 1) D2)).cell? ⟨(w.heap.size + 1 + 1 + 1 + 1), 5, none⟩ = some (.slice A3 s.bodies.length C3) := hA14.out.cell 5; have a23 : (w9.setCell ⟨(w.heap.size + 1 + 1 + 1 + 1), 2, none⟩ (.slice X2 (s.retry.length + 1) D2)).cell? ⟨pf, 23, none⟩ = some (.slice A6 n6 C6) := hA14.f.cell 23; have HA14 := Lib.hid hA14; have zz9 := hA14.out.lt; clear ho9 hg9 hA13 hA14)
              | (at_builtin; refine app_part3 _ rfl (.tmp 163) (.tmp 166) rfl (w.heap.size + 1 + 1 + 1 + 1) A3 s.bodies.length C3 s.bodies rfl rfl (OwnP.alloc HA14.out.o3 _) (by have := HLEN.out; omega) A6 n6 C6 u.body HA14.out.ob.len (OwnU8.alloc HA14.out.ob _) _ 1 rfl (row_of_blk1 (by have h := Blk.new (w9.setCell ⟨(w.heap.size + 1 + 1 + 1 + 1), 2, none⟩ (.slice X2 (s.retry.length + 1) D2)) #[.slice A6 n6 C6] 22; simpa [World.setCell] using h)) (by simp [World.setCell] at zz9 ⊢; omega) ?_; intro X3 D3 w10 ho10 hg10 h4 h5 h6; have hE := RAppS.app3 (RAppS.alloc HA14.out (.cells #[.slice A6 n6 C6] 22)) ho10 hg10 h4 h5 h6; have b5' : w10.cell? ⟨(w.heap.size + 1 + 1 + 1 + 1), 5, none⟩ = some (.slice A3 s.bodies.length C3) := hE.chk.out.cell 5; have c5' := hE.chk.out.frozen 5; have hE2 := hE.set_ 5 (.slice X3 (s.bodies.length + 1) D3); rw [sc5] at hE2; have HE2 := Lib.hid hE2; clear ho10 hg10 h4 h5 h6 hE hE2))
            have HPN := Lib.hid (show partG m u l = none by rw [HPD.out, if_neg (by simp [d1, HK1.out, HK2.out, HK3.out]), if_neg (by simp [d2, hin]), if_neg (by simp [d3])])
            have HSN := Lib.hid (show sentL m (x :: [b].drop (0 + 1)) 0 s l = sentL m ([b].drop (0 + 1)) (0 + 1) (sentS s u) (some u) by rw [sent_next HRD.out (by rw [HUX.out]; exact HPN.out), HUX.out])
            refine ⟨?_, by simp [intOf]⟩
            refine ⟨0 + 1, sentS s u, some u, X1, D1, X2, D2, X3, D3, HI1.out, by simp, ⟨by show (s.seqs ++ [u.seq]).length = _; rw [List.length_append, HLEN.out.1]; rfl, by show (s.retry ++ [u.r]).length = _; rw [List.length_append, HLEN.out.2.1]; rfl, by show (s.bodies ++ [u.body]).length = _; rw [List.length_append, HLEN.out.2.2]; rfl⟩, lastD_next HLEN.out.1, RchkT_next rfl rfl rfl HE2.out.chk, ?_⟩
            exact HU.out.trans ((congrArg (fun z => sentL m z 0 s l) HX.out).trans HSN.out)
    case neg =>
      obtain rfl : i = 1 := by omega
      have q1 : ¬ ((1 : Int) < (1 : Int)) := by omega
      clear hi1 hi
      have HEND := Lib.hid (show sentL m [b] 0 noSent none = .ok s by rw [HU.out, List.drop_of_length_le (by rw [HLN.out]; exact Nat.le_refl _)]; rfl)
      have t18 : wr.cell? ⟨w.heap.size, 18, none⟩ = some (.int .i64 m.size) := HMW.out.cell 18
      by_cases hsz : m.size < (1 : Int)
      case pos =>
        have gs : decide (m.size < (1 : Int)) = true := decide_eq_true hsz
        as_aux_lemma =>
          go_wp2_with fail
          refine (bare_any 104 wr).mono ?_
          rintro e x4 ⟨rfl, hb4⟩
          have HBx := Lib.hid (HBW.out.trans (hb4.mono HBW.out.size))
          have hz4 := HZW.out.below hb4 HZW.out.lt
          have HF4 := Lib.hid (HFW.out.below hb4 HFW.out.lt)
          clear hb4
          go_wp2_with (first
            | (refine wpList_store_blk _ (by rfl) 52 _ _ rfl (w.heap.size + 1) zsent rfl rfl 52 _ hz4 (by kernel_rfl) rfl (by kernel_rfl) ?_; intro w5 hk5 hg5; have hf5 := HF4.out.grown hg5 (by simp); have HB5 := Lib.hid (Below.grown HBx.out hg5 (by have := HBx.out.size; have := HLW.out; omega) (by simp)))
            | (refine wpList_store_blk _ (by rfl) 47 _ _ rfl (w.heap.size + 1 + 1) (faultcells (.bare 3)) rfl rfl 47 _ hf5 (by kernel_rfl) rfl (by kernel_rfl) ?_; intro w6 hk6 hg6))
          have HP := Lib.hid (show allR m false n [b] = .bare 3 by unfold allR; rw [HEND.out]; simp only; rw [show (([b]).length : Int) = (1 : Int) by rfl, whole_many (.inl hsz)])
          refine ret_cell2 rfl _ _ _ _ zsent (faultcells (.bare 3)) rfl (hk5.grown hg6 (by simp)) (by kernel_rfl) (by kernel_rfl) rfl hk6 (by kernel_rfl) (by kernel_rfl) rfl ?_
          rw [HP.out]
          exact ⟨rfl, Below.grown HB5.out hg6 HB5.out.size (by simp; omega)⟩
      case neg =>
        have gs : decide (m.size < (1 : Int)) = false := decide_eq_false hsz
        have HWN := Lib.hid (show ¬ (m.size < (1 : Int) ∨ (false = true ∧ m.bytes < (n : Int))) from (by rintro (h | h); exact hsz h; exact absurd h.1 (by decide)))
        go_wp2_with (refine wpList_load_mid (by rfl) 28 (.tmp 186) rfl w.heap.size 12 rfl [.int .i64 m.r.m, .int .i64 m.r.c, .int .i64 m.r.s, .int .i64 m.r.w, .int .i64 m.r.g] _ (HMW.out.range 12 [.int .i64 m.r.m, .int .i64 m.r.c, .int .i64 m.r.s, .int .i64 m.r.w, .int .i64 m.r.g] (by rfl)) Tryd.underlying28 rfl (by kernel_rfl) ?_)
        refine (rppdu_any m.r (n : Int) wr HS01.out.1 HS01.out.2 (by omega) (by have := HN.out; omega)).mono ?_
        rintro e w2 ⟨rfl, hb2⟩
        have HS2 := Lib.hid (RChkW.below HS.out hb2)
        have HZ2 := Lib.hid (HZW.out.below hb2 HZW.out.lt)
        have HF2 := Lib.hid (HFW.out.below hb2 HFW.out.lt)
        have HM2 := Lib.hid (HMW.out.below hb2 HMW.out.lt)
        have HB2 := Lib.hid (HBW.out.trans (hb2.mono HBW.out.size))
        clear t18  hb2
        by_cases hmx : 54840 < ppP m.r (n : Int)
        case pos =>
          have gx : decide (54840 < ppP m.r (n : Int)) = true := decide_eq_true hmx
          as_aux_lemma =>
            go_wp2_with fail
            refine (bare_any 112 w2).mono ?_
            rintro e x4 ⟨rfl, hb4⟩
            have HBx := Lib.hid (HB2.out.trans (hb4.mono HB2.out.size))
            have hz4 := HZ2.out.below hb4 HZ2.out.lt
            have HF4 := Lib.hid (HF2.out.below hb4 HF2.out.lt)
            clear hb4
            go_wp2_with (first
              | (refine wpList_store_blk _ (by rfl) 52 _ _ rfl (w.heap.size + 1) zsent rfl rfl 52 _ hz4 (by kernel_rfl) rfl (by kernel_rfl) ?_; intro w5 hk5 hg5; have hf5 := HF4.out.grown hg5 (by simp); have HB5 := Lib.hid (Below.grown HBx.out hg5 (by have := HBx.out.size; have := HLW.out; omega) (by simp)))
              | (refine wpList_store_blk _ (by rfl) 47 _ _ rfl (w.heap.size + 1 + 1) (faultcells (.bare 11)) rfl rfl 47 _ hf5 (by kernel_rfl) rfl (by kernel_rfl) ?_; intro w6 hk6 hg6))
            have HP := Lib.hid (show allR m false n [b] = .bare 11 by unfold allR; rw [HEND.out]; simp only; rw [show (([b]).length : Int) = (1 : Int) by rfl, whole_long HWN.out (.inr (.inl hmx))])
            refine ret_cell2 rfl _ _ _ _ zsent (faultcells (.bare 11)) rfl (hk5.grown hg6 (by simp)) (by kernel_rfl) (by kernel_rfl) rfl hk6 (by kernel_rfl) (by kernel_rfl) rfl ?_
            rw [HP.out]
            exact ⟨rfl, Below.grown HB5.out hg6 HB5.out.size (by simp; omega)⟩
        case neg =>
          have gx : decide (54840 < ppP m.r (n : Int)) = false := decide_eq_false hmx
          go_wp2_with (refine wpList_load_midG (by rfl) 28 (.tmp 203) rfl w.heap.size 12 rfl [.int .i64 m.r.m, .int .i64 m.r.c, .int .i64 m.r.s, .int .i64 m.r.w, .int .i64 m.r.g] _ (HM2.out.range 12 [.int .i64 m.r.m, .int .i64 m.r.c, .int .i64 m.r.s, .int .i64 m.r.w, .int .i64 m.r.g] (by rfl)) Tryd.underlying28 rfl (by kernel_rfl) ?_)
          refine (rvalid_any m.r w2 HS01.out.1 HS01.out.2).mono ?_
          rintro e w3 ⟨rfl, hb3⟩
          have HS3 := Lib.hid (RChkW.below HS2.out hb3)
          have HZ3 := Lib.hid (HZ2.out.below hb3 HZ2.out.lt)
          have HF3 := Lib.hid (HF2.out.below hb3 HF2.out.lt)
          have HB3 := Lib.hid (HB2.out.trans (hb3.mono HB2.out.size))
          clear hb3 
          rcases hva : validP m.r
          case false =>
            as_aux_lemma =>
              go_wp2_with fail
              refine (bare_any 112 w3).mono ?_
              rintro e x4 ⟨rfl, hb4⟩
              have HBx := Lib.hid (HB3.out.trans (hb4.mono HB3.out.size))
              have hz4 := HZ3.out.below hb4 HZ3.out.lt
              have HF4 := Lib.hid (HF3.out.below hb4 HF3.out.lt)
              clear hb4
              go_wp2_with (first
                | (refine wpList_store_blk _ (by rfl) 52 _ _ rfl (w.heap.size + 1) zsent rfl rfl 52 _ hz4 (by kernel_rfl) rfl (by kernel_rfl) ?_; intro w5 hk5 hg5; have hf5 := HF4.out.grown hg5 (by simp); have HB5 := Lib.hid (Below.grown HBx.out hg5 (by have := HBx.out.size; have := HLW.out; omega) (by simp)))
                | (refine wpList_store_blk _ (by rfl) 47 _ _ rfl (w.heap.size + 1 + 1) (faultcells (.bare 11)) rfl rfl 47 _ hf5 (by kernel_rfl) rfl (by kernel_rfl) ?_; intro w6 hk6 hg6))
              have HP := Lib.hid (show allR m false n [b] = .bare 11 by unfold allR; rw [HEND.out]; simp only; rw [show (([b]).length : Int) = (1 : Int) by rfl, whole_long HWN.out (.inl hva)])
              refine ret_cell2 rfl _ _ _ _ zsent (faultcells (.bare 11)) rfl (hk5.grown hg6 (by simp)) (by kernel_rfl) (by kernel_rfl) rfl hk6 (by kernel_rfl) (by kernel_rfl) rfl ?_
              rw [HP.out]
              exact ⟨rfl, Below.grown HB5.out hg6 HB5.out.size (by simp; omega)⟩
          case true =>
            have HWF := Lib.hid (show wholeP m false (1 : Int) (n : Int) = none from whole_fine HWN.out (by rintro (h | h | h); rw [hva] at h; cases h; omega; exact absurd h.1 (by decide)))
            have HP := Lib.hid (show allR m false n [b] = .fine s by unfold allR; rw [HEND.out]; simp only; rw [show (([b]).length : Int) = (1 : Int) by rfl, HWF.out])
            clear hmx gx gs
            go_wp2_with fail
            have HSD := Lib.hid (RChkW.below HS3.out (below_drewN (w := w3) 1))
            have HZD := Lib.hid (HZ3.out.below (below_drewN (w := w3) 1) HZ3.out.lt)
            have HFD := Lib.hid (HF3.out.below (below_drewN (w := w3) 1) HF3.out.lt)
            have HBD := Lib.hid (HB3.out.trans ((below_drewN (w := w3) 1).mono HB3.out.size))
            have hR : ∀ x : World, Blk x (w.heap.size + 1 + 1 + 1 + 1) (sentcells s.tid A1 s.seqs.length C1 A2 s.retry.length C2 s.more s.eosp A3 s.bodies.length C3) 52 → x.rangeAt (w.heap.size + 1 + 1 + 1 + 1) 0 (sentcells s.tid A1 s.seqs.length C1 A2 s.retry.length C2 s.more s.eosp A3 s.bodies.length C3).toList := fun x hx => hx.range 0 _ (by rfl)
            refine wp_region_held_drew (S := fun w' => w'.rangeAt (w.heap.size + 1 + 1 + 1 + 1) 0 (sentcells s.tid A1 s.seqs.length C1 A2 s.retry.length C2 s.more s.eosp A3 s.bodies.length C3).toList) (by kernel_rfl) (hR _ HSD.out.out) (fun hHeld => ?_)
            rw [show w3.drewN 1 = w3.drew from rfl] at HSD HZD HFD HBD
            generalize w3.drew = U at *
            refine wpAnyH_take (i := 0) (oi := { dst := some 210, op := _, type := _, pos := _, after := _, guard := none }) (v := .agg (sentcells s.tid A1 s.seqs.length C1 A2 s.retry.length C2 s.more s.eosp A3 s.bodies.length C3)) rfl (by kernel_rfl) (by kernel_rfl) (by kernel_rfl) (fun _ _ _ h => h) (yieldsIf_load_mid (S := fun w' => w'.rangeAt (w.heap.size + 1 + 1 + 1 + 1) 0 (sentcells s.tid A1 s.seqs.length C1 A2 s.retry.length C2 s.more s.eosp A3 s.bodies.length C3).toList) (by rfl) 52 (.tmp 11) rfl (w.heap.size + 1 + 1 + 1 + 1) 0 rfl (sentcells s.tid A1 s.seqs.length C1 A2 s.retry.length C2 s.more s.eosp A3 s.bodies.length C3).toList _ (fun w hw => hw) Tryd.underlying52 rfl (by kernel_rfl)) (by assumption) ?_
            try simp only [Act.put, List.setIfInBounds_toArray, List.set_cons_zero, List.set_cons_succ]
            refine wpAnyH_ready (rs := [1]) (by kernel_rfl) (by simp) ?_
            refine AllReadyH.cons (o := { dst := some 211, op := _, type := _, pos := _, after := _, guard := none }) rfl (fun K hK => ?_) AllReadyH.nil
            go_simp
            refine (none_any _).mono ?_
            rintro e x1 ⟨rfl, hb⟩
            have HS4 := Lib.hid (RChkW.below HSD.out hb)
            have HZ4 := Lib.hid (HZD.out.below hb HZD.out.lt)
            have HF4 := Lib.hid (HFD.out.below hb HFD.out.lt)
            have HB4 := Lib.hid (HBD.out.trans (hb.mono HBD.out.size))
            refine hK.out _ _ (hR _ HS4.out.out) (fun hHeld => ?_)
            clear hK K hb
            try simp only [Act.put, List.setIfInBounds_toArray, List.set_cons_zero, List.set_cons_succ]
            refine wpAnyH_ready (rs := [2]) (by kernel_rfl) (by simp) ?_
            refine AllReadyH.cons (o := { dst := none, op := _, type := _, pos := _, after := _, guard := none }) rfl (fun K hK => as_wanted rfl (wp_store_blk x1 52 (.tmp 6) (.tmp 210) rfl (w.heap.size + 1) (sentcells s.tid A1 s.seqs.length C1 A2 s.retry.length C2 s.more s.eosp A3 s.bodies.length C3) rfl rfl 52 _ HZ4.out (by kernel_rfl) rfl sent_one (fun x2 hk2 hg2 => ?_))) AllReadyH.nil
            have HO5 := Lib.hid (HS4.out.out.grown hg2 (by simp; omega))
            have HF5 := Lib.hid (HF4.out.grown hg2 (by simp))
            have HB5 := Lib.hid (Below.grown HB4.out hg2 HB4.out.size (by simp))
            have lz := HZ4.out.lt
            refine hK.out _ _ (hR _ HO5.out) (fun hHeld => ?_)
            clear hK K
            try simp only [Act.put, List.setIfInBounds_toArray, List.set_cons_zero, List.set_cons_succ]
            refine wpAnyH_ready (rs := [3]) (by kernel_rfl) (by simp) ?_
            refine AllReadyH.cons (o := { dst := none, op := _, type := _, pos := _, after := _, guard := none }) rfl (fun K hK => as_wanted rfl (wp_store_blk x2 47 (.tmp 7) (.tmp 211) rfl (w.heap.size + 1 + 1) (faultcells (.fine s)) rfl rfl 47 _ HF5.out (by kernel_rfl) rfl (by kernel_rfl) (fun x3 hk3 hg3 => ?_))) AllReadyH.nil
            refine hK.out _ _ (hR _ (HO5.out.grown hg3 (by simp; omega))) (fun hHeld => ?_)
            clear hK K
            try simp only [Act.put, List.setIfInBounds_toArray, List.set_cons_zero, List.set_cons_succ]
            refine wpAnyH_done (by kernel_rfl) ?_ _
            go_wp2_with fail
            refine ret_cell2 rfl _ _ _ _ (sentcells s.tid A1 s.seqs.length C1 A2 s.retry.length C2 s.more s.eosp A3 s.bodies.length C3) (faultcells (.fine s)) rfl (hk2.grown hg3 (by simp)) (by kernel_rfl) (by kernel_rfl) rfl hk3 (by kernel_rfl) (by kernel_rfl) rfl ?_
            rw [HP.out]
            have hT := HS4.out
            have hge : w.heap.size ≤ (w.heap.size + 1 + 1 + 1 + 1) := by omega
            have hz := HZ4.out
            have hf := HF5.out
            have lf := hf.lt
            refine ⟨A1, C1, A2, C2, A3, C3, rfl, ?_, ?_, ?_, Below.grown HB5.out hg3 HB5.out.size (by simp; omega)⟩
            · have k1 := own_keep hT.o1 hg2 (.inr (Ne.symm (own_ne hT.o1 hz (by decide))))
              exact OwnI.base_le (own_keep k1 hg3 (.inr (Ne.symm (own_ne k1 hf (by decide))))) hge
            · have k1 := own_keep hT.o2 hg2 (.inr (Ne.symm (own_ne hT.o2 hz (by decide))))
              exact OwnB.base_le (own_keep k1 hg3 (.inr (Ne.symm (own_ne k1 hf (by decide))))) hge
            · obtain ⟨A', C', vs', e', ho', hp'⟩ := hT.o3
              have k1 := own_keep ho' hg2 (.inr (Ne.symm (own_ne ho' hz (by decide))))
              refine OwnP.base_le ⟨A', C', vs', e', own_keep k1 hg3 (.inr (Ne.symm (own_ne k1 hf (by decide)))), fun i' u' x' hu hx => ?_⟩ hge
              obtain ⟨A'', C'', e'', ho''⟩ := hp' i' u' x' hu hx
              have k2 := own_keep ho'' hg2 (.inr (Ne.symm (own_ne ho'' hz (by decide))))
              exact ⟨A'', C'', e'', own_keep k2 hg3 (.inr (Ne.symm (own_ne k2 hf (by decide))))⟩
end Go.Proofs.YtoagmehgiaamlaaDoor
