/-
  The document's Contend: the same winner, the same slots, the same counters.
-/
import Derived.Test.YtejlfifoehpljaaDoorRefEdca
import Derived.Test.YtejlfifoehpljaaDoorRefEdcaPlain
namespace Go.Proofs.YtejlfifoehpljaaDoor
open Go.ChangeShapes Go.WideShapes Go.ChangeAt Go.RowKit
open Edca
set_option linter.unusedVariables false

set_option maxRecDepth 100000 in
set_option maxHeartbeats 4000000 in
theorem rcontend_any (B : Nat) (rd : Nat → Bool) (dr : Nat → Int) (s : St) (hi : Inv s) (hd : ∀ k, k < 4 → 0 ≤ dr k ∧ dr k < 4294967296) (d : Nat → Int) (hdw : ∀ k, k < 4 → max (d k) (fs k) = fs k + s.g k) (w : World) (hB : Blk w B (rcells d (ctOf s.h s.l)) 46) :
    Calls Tryd.prog 12 #[.pointer (some ⟨B, 0, none⟩), .agg (bv rd), .agg (uv dr)] w fun e w' => e = .returned (.tuple #[.int .i64 (conW rd dr s), .int .i64 (conT rd dr s), .bool (conB rd dr s)]) ∧
      (∃ d', (∀ k, k < 4 → max (d' k) (fs k) = fs k + (conS rd dr s).g k) ∧ Blk w' B (rcells d' (ctOf (conS rd dr s).h (conS rd dr s).l)) 46) ∧ w.grownBy w' (some B) := by
  have hlt := hB.lt
  have hk1 : Blk ((w.alloc (.cells (bv rd) 31)).alloc (.cells (uv dr) 32)) w.heap.size (bv rd) 31 := (Blk.new w _ _).alloc _
  have hk2 : Blk ((w.alloc (.cells (bv rd) 31)).alloc (.cells (uv dr) 32)) (w.heap.size + 1) (uv dr) 32 := by
    have := Blk.new (w.alloc (.cells (bv rd) 31)) (uv dr) 32
    simpa using this
  have hk0 := (hB.alloc (.cells (bv rd) 31)).alloc (.cells (uv dr) 32)
  have hgw : w.grownBy ((w.alloc (.cells (bv rd) 31)).alloc (.cells (uv dr) 32)) (some B) := but_of B (((Below.refl _ _).alloc (Nat.le_refl _) _).alloc (by simp) _)
  go_enter Tryd.func12, Tryd.ntmps12
  go_wp2_with fail
  have hn1 : B ≠ w.heap.size := by omega
  have hn2 : B ≠ w.heap.size + 1 := by omega
  generalize (w.alloc _).alloc _ = W at *
  generalize hN1 : w.heap.size = n1 at *
  clear hB
  have HK1 := Lib.hid hk1
  have HK2 := Lib.hid hk2
  have HGW := Lib.hid hgw
  have HI := Lib.hid hi
  have HD := Lib.hid hd
  have HDW := Lib.hid hdw
  clear hk1 hk2 hgw hi hd hdw
  go_loopw [11, 9, 10] (fun i sl wn wr => ∃ k : Nat, k ≤ 4 ∧ i = .int .i64 k ∧ wn = .int .i64 (run1 rd dr s.g { h := s.h, l := s.l, w := -1, t := 0 } k).w ∧
    (∃ SL : Int, sl = .int .i64 SL ∧ ((run1 rd dr s.g { h := s.h, l := s.l, w := -1, t := 0 } k).w < 0 ∧ SL = -1 ∨ 0 ≤ (run1 rd dr s.g { h := s.h, l := s.l, w := -1, t := 0 } k).w ∧ SL = (run1 rd dr s.g { h := s.h, l := s.l, w := -1, t := 0 } k).t)) ∧
    Blk wr B (rcells d (ctOf (run1 rd dr s.g { h := s.h, l := s.l, w := -1, t := 0 } k).h (run1 rd dr s.g { h := s.h, l := s.l, w := -1, t := 0 } k).l)) 46 ∧ Hid (W.grownBy wr (some B))) (fun i _ _ _ => 4 - (intOf i).toNat)
  case atStart => exact ⟨0, by omega, rfl, rfl, ⟨-1, rfl, Or.inl ⟨by show (-1 : Int) < 0; omega, rfl⟩⟩, hk0, Lib.hid (World.grownBy.refl W _)⟩
  case round =>
    obtain ⟨k, hk4, rfl, rfl, ⟨SL, rfl, hSL⟩, hkr, hR⟩ := hrel
    have HA := Lib.hid (run1_inv (rd := rd) (dr := dr) (s := { h := s.h, l := s.l, w := -1, t := 0 }) (inv_g HI.out) (invA_start HI.out) k hk4)
    by_cases hk : k < 4
    · have hstep : run1 rd dr s.g { h := s.h, l := s.l, w := -1, t := 0 } (k + 1) = step1 rd dr s.g k (run1 rd dr s.g { h := s.h, l := s.l, w := -1, t := 0 } k) := rfl
      have HST := Lib.hid hstep
      clear hstep
      generalize run1 rd dr s.g { h := s.h, l := s.l, w := -1, t := 0 } k = a at *
      have d1 : wr.cell? ⟨n1, k, none⟩ = some (.bool (rd k)) := ((HK1.out.grown hR.out (by simp; omega)).cell k).trans (bv_at rd k hk)
      have d2 : wr.cell? ⟨n1 + 1, k, none⟩ = some (.int .u32 (dr k)) := ((HK2.out.grown hR.out (by simp; omega)).cell k).trans (uv_at dr k hk)
      have d4 : wr.cell? ⟨B, 4 + k, none⟩ = some (.int .i64 (ctOf a.h a.l k)) := (hkr.cell _).trans (r_c _ _ k hk)
      have d5 : wr.cell? ⟨B, k, none⟩ = some (.int .i64 (d k)) := (hkr.cell _).trans (r_d _ _ k hk)
      have e1 : (k : Int) < 4 := by omega
      have e0 : (0 : Int) ≤ (k : Int) := by omega
      have hlB : B < wr.heap.size := hkr.lt
      have hln : n1 + 1 < wr.heap.size := Nat.lt_of_lt_of_le HK2.out.lt hR.out.size
      have hSL' := Lib.hid hSL
      clear hSL
      cases hr : rd k
      · rw [hr] at d1
        have HR := Lib.hid hr
        clear hr
        go_wp2_with fail
        go_roundw
        case rel => exact ⟨k + 1, by omega, by go_num, by rw [HST.out, step1_skip HR.out], ⟨SL, rfl, by rw [HST.out, step1_skip HR.out]; exact hSL'.out⟩, by rw [HST.out, step1_skip HR.out]; exact hkr, hR⟩
        case measure => simp [intOf]; omega
      · rw [hr] at d1
        cases hh : a.h k
        · rw [ctOf_no hh] at d4
          obtain ⟨hg0, hg1⟩ := inv_g HI.out k hk
          obtain ⟨hw3, hw4⟩ := win_bounds hk hg0 hg1
          obtain ⟨hdr0, hdr1⟩ := HD.out k hk
          obtain ⟨M, hM⟩ : ∃ M, M = win s.g k + 1 := ⟨_, rfl⟩
          have hMe : fs k + s.g k + 1 = M := hM.symm
          have q1 : IntKind.i64.wrap (fs k + s.g k + 1) = M := by rw [hMe]; exact IntWalk.i64_in _ (by omega)
          have q2 : IntKind.u32.wrap M = M := by rw [IntKind.wrap_u32]; omega
          have q3 : ¬ M = 0 := by omega
          have q4 := Int.emod_nonneg (dr k) q3
          have q5 := Int.emod_lt_of_pos (dr k) (show 0 < M by omega)
          have hM4 : M ≤ 1024 := by omega
          have HM := Lib.hid hM
          clear hMe hM hw3 hw4
          have f2 := hkr.frozen (4 + k)
          have HL : Hid (dr k % M = bif a.h k then a.l k else dr k % (win s.g k + 1)) := Lib.hid (by rw [hh, HM.out]; rfl)
          have HR := Lib.hid hr
          have q6 : IntKind.i64.wrap ((dr k).tmod M) = dr k % M := by rw [Int.tmod_eq_emod_of_nonneg hdr0]; exact IntWalk.i64_in _ (by omega)
          have q8 : IntKind.i64.wrap (dr k % M + 1) = dr k % M + 1 := IntWalk.i64_in _ (by omega)
          have hdk := HDW.out k hk
          clear hh hr
          have hk2r := HK2.out.grown hR.out (by simp; omega)
          have hne : n1 + 1 ≠ B := by omega
          go_wp2_with fail
          go_region_held3 (fun w' => w'.cell? ⟨n1 + 1, k, none⟩ = some (.int .u32 (dr k)))
            (first | exact d2 | exact (hb1.cell (p := ⟨n1 + 1, k, none⟩) hln).trans d2 | exact ((h2w.far (p := ⟨B, 4 + k, none⟩) hne _).cell k).trans (uv_at dr k hk))
            ((refine (rwindow_any B k hk (d k) (s.g k) hdk wr.drew hlB d5).mono ?_; rintro e w1 ⟨rfl, hb1⟩; have g4 : w1.cell? ⟨B, 4 + k, none⟩ = some (.int .i64 0) := (hb1.cell (p := ⟨B, 4 + k, none⟩) hlB).trans d4; have hkw := Blk.below (w := wr.drew) hkr hb1 hlB; have h2w := Blk.below (w := wr.drew) hk2r hb1 hln; have f4 := hkw.frozen (4 + k)))
          have hkx : Blk (w1.setCell ⟨B, 4 + k, none⟩ (.int .i64 (dr k % M + 1))) B (rcells d (ctOf (upd a.h k true) (upd a.l k (dr k % M)))) 46 := by
            have := hkw.set_ (4 + k) (.int .i64 (dr k % M + 1))
            rw [r_setc _ _ k hk, ← ctOf_set] at this
            exact this
          have hRx : Hid (W.grownBy (w1.setCell ⟨B, 4 + k, none⟩ (.int .i64 (dr k % M + 1))) (some B)) :=
            Lib.hid ((hR.out.trans (but_of B ((below_drewN (w := wr) 1).trans hb1))).trans (but_set _ _ _ _))
          have hL0 : 0 ≤ dr k % M ∧ dr k % M ≤ 1023 := ⟨q4, by omega⟩
          clear d2 d4 d5 g4 f2 f4 hkr hkw h2w hk2r q1 q2 q3 q4 q5 q6 q8 hb1 HM hdk
          generalize dr k % M = L at *
          generalize w1.setCell _ _ = wx at *
          have hlx : B < wx.heap.size := hkx.lt
          have dl : wx.cell? ⟨B, 4 + k, none⟩ = some (.int .i64 (L + 1)) := ((hkx.cell _).trans (r_c _ _ k hk)).trans (by rw [ctOf_set, upd_at])
          have q7 : IntKind.i64.wrap (wt k + (L + 1)) = wt k + (L + 1) := IntWalk.i64_in _ (by have := wt_le k; omega)
          have q9 : IntKind.i64.wrap (wt k + (L + 1) - 1) = wt k + L := by rw [show wt k + (L + 1) - 1 = wt k + L by omega]; exact IntWalk.i64_in _ (by have := wt_le k; omega)
          go_wp2_with fail
          go_region_held3 (fun w' => w'.cell? ⟨B, 4 + k, none⟩ = some (.int .i64 (L + 1))) (first | exact dl | exact (hb2.cell (p := ⟨B, 4 + k, none⟩) hlx).trans dl) ((refine (rwait_any k hk _).mono ?_; rintro e w2 ⟨rfl, hb2⟩))
          have hkx2 := Blk.below (w := wx.drew) hkx hb2 hlx
          have hRx2 := Lib.hid (hRx.out.trans (but_of B ((below_drewN (w := wx) 1).trans hb2)))
          have hwt := wt_le k
          have hat0 : 0 ≤ a.t := HA.out.2.2.2.1
          clear dl hb2 hkx
          go_wp2_with fail
          all_goals
            have hSLo := hSL'.out
            go_roundw
            case rel =>
              first
              | (have hs := HST.out.trans (step1_yes HR.out HL.out (by omega))
                 exact ⟨k + 1, by omega, by go_num, by rw [hs], ⟨_, rfl, by rw [hs]; exact Or.inr ⟨by show (0 : Int) ≤ (k : Int); omega, rfl⟩⟩, by rw [hs]; exact hkx2, hRx2⟩)
              | (have hs := HST.out.trans (step1_no HR.out HL.out (by omega) (by omega))
                 exact ⟨k + 1, by omega, by go_num, by rw [hs], ⟨SL, rfl, by rw [hs]; exact hSLo⟩, by rw [hs]; exact hkx2, hRx2⟩)
            case measure => simp [intOf]; omega
        · have hl0 := HA.out.1 k hk
          rw [ctOf_yes hh] at d4
          have hne0 : ¬ a.l k + 1 = 0 := by omega
          have hne0' : (a.l k + 1 == 0) = false := by simp; omega
          have HR := Lib.hid hr
          have hkx : Blk wr B (rcells d (ctOf (upd a.h k true) (upd a.l k (a.l k)))) 46 := by rw [upd_same hh, upd_same rfl]; exact hkr
          have hRx := hR
          obtain ⟨L, hLd⟩ : ∃ L, L = a.l k := ⟨_, rfl⟩
          have HL : Hid (L = bif a.h k then a.l k else dr k % (win s.g k + 1)) := Lib.hid (by rw [hh, hLd]; rfl)
          have hL0 : 0 ≤ L ∧ L ≤ 1023 := by rw [hLd]; exact hl0
          rw [← hLd] at hkx d4 hne0 hne0'
          clear hr hh d2 d5 hkr hR hLd hl0
          have hlx : B < wr.heap.size := hkx.lt
          have dl : wr.cell? ⟨B, 4 + k, none⟩ = some (.int .i64 (L + 1)) := ((hkx.cell _).trans (r_c _ _ k hk)).trans (by rw [ctOf_set, upd_at])
          have q7 : IntKind.i64.wrap (wt k + (L + 1)) = wt k + (L + 1) := IntWalk.i64_in _ (by have := wt_le k; omega)
          have q9 : IntKind.i64.wrap (wt k + (L + 1) - 1) = wt k + L := by rw [show wt k + (L + 1) - 1 = wt k + L by omega]; exact IntWalk.i64_in _ (by have := wt_le k; omega)
          go_wp2_with fail
          go_region_held3 (fun w' => w'.cell? ⟨B, 4 + k, none⟩ = some (.int .i64 (L + 1))) (first | exact dl | exact (hb2.cell (p := ⟨B, 4 + k, none⟩) hlx).trans dl) ((refine (rwait_any k hk _).mono ?_; rintro e w2 ⟨rfl, hb2⟩))
          have hkx2 := Blk.below (w := wr.drew) hkx hb2 hlx
          have hRx2 := Lib.hid (hRx.out.trans (but_of B ((below_drewN (w := wr) 1).trans hb2)))
          have hwt := wt_le k
          have hat0 : 0 ≤ a.t := HA.out.2.2.2.1
          clear dl hb2 hkx
          go_wp2_with fail
          all_goals
            have hSLo := hSL'.out
            go_roundw
            case rel =>
              first
              | (have hs := HST.out.trans (step1_yes HR.out HL.out (by omega))
                 exact ⟨k + 1, by omega, by go_num, by rw [hs], ⟨_, rfl, by rw [hs]; exact Or.inr ⟨by show (0 : Int) ≤ (k : Int); omega, rfl⟩⟩, by rw [hs]; exact hkx2, hRx2⟩)
              | (have hs := HST.out.trans (step1_no HR.out HL.out (by omega) (by omega))
                 exact ⟨k + 1, by omega, by go_num, by rw [hs], ⟨SL, rfl, by rw [hs]; exact hSLo⟩, by rw [hs]; exact hkx2, hRx2⟩)
            case measure => simp [intOf]; omega
    · have hk' : k = 4 := by omega
      subst hk'
      have hmid : mid rd dr s = run1 rd dr s.g { h := s.h, l := s.l, w := -1, t := 0 } 4 := rfl
      have hS : conS rd dr s = bif decide ((mid rd dr s).w < 0) then { h := (mid rd dr s).h, l := (mid rd dr s).l, g := s.g } else run2 rd (mid rd dr s).w (mid rd dr s).t { h := (mid rd dr s).h, l := (mid rd dr s).l, g := s.g } 4 := rfl
      have hW : conW rd dr s = bif decide ((mid rd dr s).w < 0) then 0 else (mid rd dr s).w := rfl
      have hT : conT rd dr s = bif decide ((mid rd dr s).w < 0) then 0 else (mid rd dr s).t := rfl
      have hBB : conB rd dr s = !decide ((mid rd dr s).w < 0) := rfl
      rw [hmid] at hS hW hT hBB
      have hleast := run1_least (rd := rd) (dr := dr) (g := s.g) (s := { h := s.h, l := s.l, w := -1, t := 0 }) rfl 4
      clear hmid
      generalize run1 rd dr s.g { h := s.h, l := s.l, w := -1, t := 0 } 4 = a at *
      obtain ⟨hal, haw0, haw1, hat0, hat1⟩ := HA.out
      have hal' := Lib.hid hal
      clear hal
      by_cases hw : a.w < 0
      · have hd' : decide (a.w < 0) = true := by simpa using hw
        rw [hd'] at hS hW hT hBB
        have HcS := Lib.hid hS
        have HcW := Lib.hid hW
        have HcT := Lib.hid hT
        have HcB := Lib.hid hBB
        clear hS hW hT hBB hleast hSL
        go_wp2_with fail
        go_ret3
        rw [HcS.out, HcW.out, HcT.out, HcB.out]
        exact ⟨rfl, ⟨d, HDW.out, hkr⟩, HGW.out.trans hR.out⟩
      · have hd' : decide (a.w < 0) = false := by simpa using hw
        rw [hd'] at hS hW hT hBB
        simp only [cond_false, Bool.not_false] at hS hW hT hBB
        obtain ⟨hl1, hl2⟩ := hleast
        obtain ⟨j, hj4, hwj, hrj, htj⟩ := hl2 (by omega)
        rcases hSL with ⟨hneg, _⟩ | ⟨_, rfl⟩
        · exact absurd hneg hw
        obtain ⟨ah, al, aw, tt⟩ := a
        dsimp only at *
        subst hwj
        have HcS := Lib.hid hS
        have HcW := Lib.hid hW
        have HcT := Lib.hid hT
        have HcB := Lib.hid hBB
        have HL1 := Lib.hid hl1
        have hinv : Inv { h := ah, l := al, g := s.g } := fun k hk => ⟨(hal'.out k hk).1, (hal'.out k hk).2, (HI.out k hk).2.2⟩
        have HINV := Lib.hid hinv
        have hahj : ah j = true := (hl1 j hj4 hrj).1
        have hcj : upd (ctOf ah al) j (al j + 1) = ctOf ah al := upd_same (ctOf_yes hahj)
        have hkr0 : Blk wr B (rcells d (upd (ctOf ah al) j (al j + 1))) 46 := by rw [hcj]; exact hkr
        have HRJ := Lib.hid hrj
        have HTJ := Lib.hid htj
        clear hinv hd' hS hW hT hBB hl1 hl2 hkr hcj hahj htj hw HA hrj
        go_wp2_with fail
        go_loopw [13] (fun i wr => ∃ k : Nat, k ≤ 4 ∧ i = .int .i64 k ∧ ∃ d' : Nat → Int, Hid (∀ i, i < 4 → max (d' i) (fs i) = fs i + (run2 rd (j : Int) tt { h := ah, l := al, g := s.g } k).g i) ∧
          Blk wr B (rcells d' (upd (ctOf (run2 rd (j : Int) tt { h := ah, l := al, g := s.g } k).h (run2 rd (j : Int) tt { h := ah, l := al, g := s.g } k).l) j (al j + 1))) 46 ∧ Hid (W.grownBy wr (some B))) (fun i _ => 4 - (intOf i).toNat)
        case atStart => exact ⟨0, by omega, rfl, d, Lib.hid HDW.out, hkr0, hR⟩
        case round =>
          obtain ⟨k, hk4, rfl, d', hd', hkr, hR⟩ := hrel
          have HINVk := Lib.hid (run2_inv (rd := rd) (w := (j : Int)) (t := tt) hat0 HINV.out k hk4)
          have hat := Lib.hid (run2_at (rd := rd) (w := (j : Int)) (t := tt) (s := { h := ah, l := al, g := s.g }) (k := k) k (Nat.le_refl _))
          by_cases hk : k < 4
          · have hstep : run2 rd (j : Int) tt { h := ah, l := al, g := s.g } (k + 1) = step2 rd (j : Int) tt k (run2 rd (j : Int) tt { h := ah, l := al, g := s.g } k) := rfl
            have HST := Lib.hid hstep
            clear hstep
            generalize run2 rd (j : Int) tt { h := ah, l := al, g := s.g } k = b at *
            obtain ⟨hbl0, hbl1, hbg0, hbg1⟩ := HINVk.out k hk
            have d1 : wr.cell? ⟨n1, k, none⟩ = some (.bool (rd k)) := ((HK1.out.grown hR.out (by simp; omega)).cell k).trans (bv_at rd k hk)
            have e1 : (k : Int) < 4 := by omega
            have e0 : (0 : Int) ≤ (k : Int) := by omega
            have hlB : B < wr.heap.size := hkr.lt
            have hwt := wt_le k
            cases hr : rd k
            · rw [hr] at d1
              have HR := Lib.hid hr
              clear hr
              go_wp2_with fail
              go_roundw
              case rel => exact ⟨k + 1, by omega, by go_num, d', Lib.hid (by rw [HST.out, step2_skip HR.out]; exact hd'.out), by rw [HST.out, step2_skip HR.out]; exact hkr, hR⟩
              case measure => simp [intOf]; omega
            · rw [hr] at d1
              have HR := Lib.hid hr
              obtain ⟨g1, g2, g3⟩ := HL1.out k hk hr
              have hbh : b.h k = true := hat.out.1.trans g1
              have hbl : b.l k = al k := hat.out.2.1
              have HBH := Lib.hid hbh
              rw [← hbl] at g3
              by_cases hkj : k = j
              · subst hkj
                have hs := HST.out.trans (step2_win HR.out (by rw [hbl]; have := HTJ.out; omega) rfl)
                have HS := Lib.hid hs
                clear hr hs hbh hbl g1 g3
                go_wp2_with fail
                go_roundw
                case rel =>
                  refine ⟨k + 1, by omega, by go_num, d', Lib.hid (by rw [HS.out]; exact hd'.out), ?_, hR⟩
                  rw [HS.out]
                  show Blk wr B (rcells d' (upd (ctOf (upd b.h k false) (upd b.l k 0)) k (al k + 1))) 46
                  rw [ctOf_clear, upd_upd']
                  exact hkr
                case measure => simp [intOf]; omega
              · have hkj' : ((k : Int) == (j : Int)) = false := by simp; omega
                have hkj2 : ¬ (k : Int) = (j : Int) := by omega
                have d4 : wr.cell? ⟨B, 4 + k, none⟩ = some (.int .i64 (b.l k + 1)) := ((hkr.cell _).trans (r_c _ _ k hk)).trans (by rw [upd_ne _ _ hkj, ctOf_yes hbh])
                have q7 : IntKind.i64.wrap (wt k + (b.l k + 1)) = wt k + (b.l k + 1) := IntWalk.i64_in _ (by omega)
                have q9 : IntKind.i64.wrap (wt k + (b.l k + 1) - 1) = wt k + b.l k := by rw [show wt k + (b.l k + 1) - 1 = wt k + b.l k by omega]; exact IntWalk.i64_in _ (by omega)
                clear hr hbh hbl g1
                go_wp2_with fail
                go_region_held3 (fun w' => w'.cell? ⟨B, 4 + k, none⟩ = some (.int .i64 (b.l k + 1))) (first | exact d4 | exact (hb2.cell (p := ⟨B, 4 + k, none⟩) hlB).trans d4) ((refine (rwait_any k hk _).mono ?_; rintro e w2 ⟨rfl, hb2⟩))
                have hk2 := Blk.below (w := wr.drew) hkr hb2 hlB
                have hQ2 := Lib.hid (hR.out.trans (but_of B ((below_drewN (w := wr) 1).trans hb2)))
                have hlB2 : B < w2.heap.size := hk2.lt
                have d42 : w2.cell? ⟨B, 4 + k, none⟩ = some (.int .i64 (b.l k + 1)) := (hb2.cell (p := ⟨B, 4 + k, none⟩) hlB).trans d4
                clear d4 hb2 hkr hR d1
                by_cases hcmp : wt k + b.l k = tt
                · have hs := HST.out.trans (step2_lose HR.out (by omega) hkj2)
                  have HS := Lib.hid hs
                  have hg1' : b.g k ≤ 1020 := by have : fs k ≥ 3 ∧ ms k ≤ 1023 := (by rcases (show k = 0 ∨ k = 1 ∨ k = 2 ∨ k = 3 by omega) with rfl | rfl | rfl | rfl <;> decide); omega
                  have hcmp' : (wt k + b.l k == tt) = true := by simpa using hcmp
                  have HCMP := Lib.hid hcmp
                  have hdk := hd'.out k hk
                  clear hs hcmp
                  go_wp2_with fail
                  refine (rwider_any B k hk d' _ (b.g k) hdk hbg0 hg1' _ hk2).mono ?_
                  rintro e w3 ⟨rfl, hk3, hg3⟩
                  have g43 : w3.cell? ⟨B, 4 + k, none⟩ = some (.int .i64 (upd (ctOf b.h b.l) j (al j + 1) k)) := (hk3.cell _).trans (r_c _ _ k hk)
                  have f33 := hk3.frozen (4 + k)
                  clear d42
                  go_wp2_with fail
                  refine ⟨?rel, ?measure⟩
                  case rel =>
                    go_simp
                    refine ⟨k + 1, by omega, by omega, upd d' k (min (2 * (fs k + b.g k) + 1) (ms k)), Lib.hid ?_, ?_, Lib.hid ((hQ2.out.trans hg3).trans (but_set _ _ _ _))⟩
                    · intro i hi
                      rw [HS.out]
                      show max (upd d' k (min (2 * (fs k + b.g k) + 1) (ms k)) i) (fs i) = fs i + upd b.g k (grown b.g k) i
                      by_cases e : i = k
                      · subst e
                        rw [upd_at, upd_at]
                        unfold grown win
                        have : fs i ≤ ms i ∧ 3 ≤ fs i := by rcases (show i = 0 ∨ i = 1 ∨ i = 2 ∨ i = 3 by omega) with rfl | rfl | rfl | rfl <;> decide
                        omega
                      · rw [upd_ne _ _ e, upd_ne _ _ e]; exact hd'.out i hi
                    · rw [HS.out]
                      show Blk _ B (rcells _ (upd (ctOf (upd b.h k false) (upd b.l k 0)) j (al j + 1))) 46
                      rw [ctOf_clear]
                      have := hk3.set_ (4 + k) (.int .i64 0)
                      rw [r_setc _ _ k hk, upd_comm _ _ _ (fun e => hkj e.symm)] at this
                      exact this
                  case measure => simp [intOf]; omega
                · have hcmp' : (wt k + b.l k == tt) = false := by simpa using hcmp
                  have hgt : tt < wt k + b.l k := by omega
                  have f2 := hk2.frozen (4 + k)
                  have q8 : IntKind.i64.wrap (tt - wt k) = tt - wt k := IntWalk.i64_in _ (by omega)
                  have q10 : IntKind.i64.wrap (b.l k + 1 - (tt - wt k)) = b.l k + 1 - (tt - wt k) := IntWalk.i64_in _ (by omega)
                  have q11 : IntKind.i64.wrap (b.l k + 1) = b.l k + 1 := IntWalk.i64_in _ (by omega)
                  have c2 : ¬ b.l k + 1 < 1 := by omega
                  have c2' : ¬ b.l k < 0 := by omega
                  have c3 : ¬ b.l k + 1 - (tt - wt k) < 1 := by omega
                  have HS := Lib.hid (HST.out.trans (step2_wait HR.out hgt))
                  by_cases c1 : tt - wt k < 0
                  all_goals
                    go_wp2_with fail
                    go_region_with (go_at_call 22; refine (rwait_any k hk _).mono ?_; rintro e w3 ⟨rfl, hb3⟩; have hk3 := Blk.below (w := w2.drew) hk2 hb3 hlB2; have d43 : w3.cell? ⟨B, 4 + k, none⟩ = some (.int .i64 (b.l k + 1)) := (hb3.cell (p := ⟨B, 4 + k, none⟩) hlB2).trans d42; have f3 := hk3.frozen (4 + k))
                    all_goals
                      have HQ3 := Lib.hid ((hQ2.out.trans (but_of B ((below_drewN (w := w2) 1).trans hb3))).trans (but_set w3 B (4 + k) (.int .i64 (max (b.l k - max (tt - wt k) 0) 0 + 1))))
                      have HK3 := Lib.hid (hk3.set_ (4 + k) (.int .i64 (max (b.l k - max (tt - wt k) 0) 0 + 1)))
                      go_wp2_with fail
                      go_roundw
                      case rel =>
                        have hQ4 := HQ3.out
                        have hK4 := HK3.out
                        rw [r_setc _ _ k hk, upd_comm _ _ _ (fun e => hkj e.symm), ← ctOf_left HBH.out] at hK4
                        first
                        | (have e : max (b.l k - max (tt - wt k) 0) 0 + 1 = b.l k + 1 - (tt - wt k) := by omega
                           rw [e] at hQ4 hK4
                           refine ⟨k + 1, by omega, by go_num, d', Lib.hid (by rw [HS.out]; exact hd'.out), ?_, Lib.hid hQ4⟩
                           rw [HS.out]
                           exact hK4)
                        | (have e : max (b.l k - max (tt - wt k) 0) 0 + 1 = b.l k + 1 := by omega
                           rw [e] at hQ4 hK4
                           refine ⟨k + 1, by omega, by go_num, d', Lib.hid (by rw [HS.out]; exact hd'.out), ?_, Lib.hid hQ4⟩
                           rw [HS.out]
                           exact hK4)
                      case measure => simp [intOf]; omega
          · have hk' : k = 4 := by omega
            subst hk'
            have hwon := run2_won (s := { h := ah, l := al, g := s.g }) HRJ.out HTJ.out 4 hj4
            have e1 : (j : Int) < 4 := by omega
            have e0 : (0 : Int) ≤ (j : Int) := by omega
            have d4 : wr.cell? ⟨B, 4 + j, none⟩ = some (.int .i64 (upd (ctOf (run2 rd (j : Int) tt { h := ah, l := al, g := s.g } 4).h (run2 rd (j : Int) tt { h := ah, l := al, g := s.g } 4).l) j (al j + 1) j)) := (hkr.cell _).trans (r_c _ _ j hj4)
            rw [upd_at] at d4
            have f4 := hkr.frozen (4 + j)
            have HK := Lib.hid (hkr.set_ (4 + j) (.int .i64 0))
            have HWON := Lib.hid hwon
            clear hwon hat HINVk
            go_wp2_with fail
            go_ret3
            rw [HcS.out, HcW.out, HcT.out, HcB.out]
            refine ⟨rfl, ⟨d', hd'.out, ?_⟩, (HGW.out.trans hR.out).trans (but_set _ _ _ _)⟩
            have := HK.out
            rw [r_setc _ _ j hj4, upd_upd', upd_same (ctOf_no HWON.out)] at this
            exact this
end Go.Proofs.YtejlfifoehpljaaDoor
