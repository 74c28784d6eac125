/-
  edca.Contend.
-/
import Derived.Test.YtejlfifoehpljaaDoorEdcaGrow
namespace Go.Proofs.YtejlfifoehpljaaDoor
open Go.ChangeShapes Go.WideShapes Go.ChangeAt Go.RowKit
open Edca
set_option linter.unusedVariables false

def bv (f : Nat → Bool) : Array Value := #[.bool (f 0), .bool (f 1), .bool (f 2), .bool (f 3)]
def uv (f : Nat → Int) : Array Value := #[.int .u32 (f 0), .int .u32 (f 1), .int .u32 (f 2), .int .u32 (f 3)]
theorem bv_at (f : Nat → Bool) (k : Nat) (hk : k < 4) : (bv f)[k]? = some (.bool (f k)) := by
  rcases (show k = 0 ∨ k = 1 ∨ k = 2 ∨ k = 3 by omega) with rfl | rfl | rfl | rfl <;> rfl
theorem uv_at (f : Nat → Int) (k : Nat) (hk : k < 4) : (uv f)[k]? = some (.int .u32 (f k)) := by
  rcases (show k = 0 ∨ k = 1 ∨ k = 2 ∨ k = 3 by omega) with rfl | rfl | rfl | rfl <;> rfl
theorem e_h (h : Nat → Bool) (l g : Nat → Int) (k : Nat) (hk : k < 4) : (ecells h l g)[k * 3]? = some (.bool (h k)) := by
  rcases (show k = 0 ∨ k = 1 ∨ k = 2 ∨ k = 3 by omega) with rfl | rfl | rfl | rfl <;> rfl
theorem e_l (h : Nat → Bool) (l g : Nat → Int) (k : Nat) (hk : k < 4) : (ecells h l g)[k * 3 + 1]? = some (.int .i64 (l k)) := by
  rcases (show k = 0 ∨ k = 1 ∨ k = 2 ∨ k = 3 by omega) with rfl | rfl | rfl | rfl <;> rfl
theorem e_g (h : Nat → Bool) (l g : Nat → Int) (k : Nat) (hk : k < 4) : (ecells h l g)[3 * k + 2]? = some (.int .i64 (g k)) := by
  rcases (show k = 0 ∨ k = 1 ∨ k = 2 ∨ k = 3 by omega) with rfl | rfl | rfl | rfl <;> rfl
theorem e_seth (h : Nat → Bool) (l g : Nat → Int) (k : Nat) (hk : k < 4) (v : Bool) : (ecells h l g).setIfInBounds (k * 3) (.bool v) = ecells (upd h k v) l g := by
  rcases (show k = 0 ∨ k = 1 ∨ k = 2 ∨ k = 3 by omega) with rfl | rfl | rfl | rfl <;> rfl
theorem e_setl (h : Nat → Bool) (l g : Nat → Int) (k : Nat) (hk : k < 4) (v : Int) : (ecells h l g).setIfInBounds (k * 3 + 1) (.int .i64 v) = ecells h (upd l k v) g := by
  rcases (show k = 0 ∨ k = 1 ∨ k = 2 ∨ k = 3 by omega) with rfl | rfl | rfl | rfl <;> rfl

set_option maxRecDepth 100000 in
set_option maxHeartbeats 4000000 in
theorem contend_any (B : Nat) (rd : Nat → Bool) (dr : Nat → Int) (s : St) (hi : Inv s) (hd : ∀ k, k < 4 → 0 ≤ dr k ∧ dr k < 4294967296) (w : World) (hB : Blk w B (ecells s.h s.l s.g) 30) :
    Calls Tryd.prog 7 #[.pointer (some ⟨B, 0, none⟩), .agg (bv rd), .agg (uv dr)] w fun e w' => e = .returned (.tuple #[.int .i64 (conW rd dr s), .int .i64 (conT rd dr s), .bool (conB rd dr s)]) ∧
      Blk w' B (ecells (conS rd dr s).h (conS rd dr s).l (conS rd dr s).g) 30 ∧ w.grownBy w' (some B) := by
  have hlt := hB.lt
  have hk1 : Blk ((w.alloc (.cells (bv rd) 31)).alloc (.cells (uv dr) 32)) w.heap.size (bv rd) 31 := (Blk.new w _ _).alloc _
  have hk2 : Blk ((w.alloc (.cells (bv rd) 31)).alloc (.cells (uv dr) 32)) (w.heap.size + 1) (uv dr) 32 := by
    have := Blk.new (w.alloc (.cells (bv rd) 31)) (uv dr) 32
    simpa using this
  have hk0 := (hB.alloc (.cells (bv rd) 31)).alloc (.cells (uv dr) 32)
  have hgw : w.grownBy ((w.alloc (.cells (bv rd) 31)).alloc (.cells (uv dr) 32)) (some B) := but_of B (((Below.refl _ _).alloc (Nat.le_refl _) _).alloc (by simp) _)
  go_enter Tryd.func7, Tryd.ntmps7
  go_wp2_with fail
  have hn1 : B ≠ w.heap.size := by omega
  have hn2 : B ≠ w.heap.size + 1 := by omega
  generalize (w.alloc _).alloc _ = W at *
  generalize hN1 : w.heap.size = n1 at *
  clear hB
  have HK1 := Lib.hid hk1
  have HK2 := Lib.hid hk2
  have HGW := Lib.hid hgw
  have HI := Lib.hid hi
  have HD := Lib.hid hd
  clear hk1 hk2 hgw hi hd
  go_loopw [16, 9, 10] (fun i wn ls wr => ∃ k : Nat, k ≤ 4 ∧ i = .int .i64 k ∧ wn = .int .i64 (run1 rd dr s.g { h := s.h, l := s.l, w := -1, t := 0 } k).w ∧ ls = .int .i64 (run1 rd dr s.g { h := s.h, l := s.l, w := -1, t := 0 } k).t ∧
    Blk wr B (ecells (run1 rd dr s.g { h := s.h, l := s.l, w := -1, t := 0 } k).h (run1 rd dr s.g { h := s.h, l := s.l, w := -1, t := 0 } k).l s.g) 30 ∧ Hid (W.grownBy wr (some B))) (fun i _ _ _ => 4 - (intOf i).toNat)
  case atStart => exact ⟨0, by omega, rfl, rfl, rfl, hk0, Lib.hid (World.grownBy.refl W _)⟩
  case round =>
    obtain ⟨k, hk4, rfl, rfl, rfl, hkr, hR⟩ := hrel
    have HA := Lib.hid (run1_inv (rd := rd) (dr := dr) (s := { h := s.h, l := s.l, w := -1, t := 0 }) (inv_g HI.out) (invA_start HI.out) k hk4)
    by_cases hk : k < 4
    · have hstep : run1 rd dr s.g { h := s.h, l := s.l, w := -1, t := 0 } (k + 1) = step1 rd dr s.g k (run1 rd dr s.g { h := s.h, l := s.l, w := -1, t := 0 } k) := rfl
      have HST := Lib.hid hstep
      clear hstep
      generalize run1 rd dr s.g { h := s.h, l := s.l, w := -1, t := 0 } k = a at *
      have d1 : wr.cell? ⟨n1, k, none⟩ = some (.bool (rd k)) := ((HK1.out.grown hR.out (by simp; omega)).cell k).trans (bv_at rd k hk)
      have d2 : wr.cell? ⟨n1 + 1, k, none⟩ = some (.int .u32 (dr k)) := ((HK2.out.grown hR.out (by simp; omega)).cell k).trans (uv_at dr k hk)
      have d3 : wr.cell? ⟨B, k * 3, none⟩ = some (.bool (a.h k)) := (hkr.cell _).trans (e_h _ _ _ k hk)
      have d4 : wr.cell? ⟨B, k * 3 + 1, none⟩ = some (.int .i64 (a.l k)) := (hkr.cell _).trans (e_l _ _ _ k hk)
      have d5 : wr.cell? ⟨B, 3 * k + 2, none⟩ = some (.int .i64 (s.g k)) := (hkr.cell _).trans (e_g _ _ _ k hk)
      have e1 : (k : Int) < 4 := by omega
      have e0 : (0 : Int) ≤ (k : Int) := by omega
      have hlB : B < wr.heap.size := hkr.lt
      have hln : n1 + 1 < wr.heap.size := Nat.lt_of_lt_of_le HK2.out.lt hR.out.size
      cases hr : rd k
      · rw [hr] at d1
        have HR := Lib.hid hr
        clear hr
        go_wp2_with fail
        go_roundw
        case rel => exact ⟨k + 1, by omega, by go_num, by rw [HST.out, step1_skip HR.out], by rw [HST.out, step1_skip HR.out], by rw [HST.out, step1_skip HR.out]; exact hkr, hR⟩
        case measure => simp [intOf]; omega
      · rw [hr] at d1
        cases hh : a.h k
        · rw [hh] at d3
          obtain ⟨hg0, hg1⟩ := inv_g HI.out k hk
          obtain ⟨hw3, hw4⟩ := win_bounds hk hg0 hg1
          obtain ⟨hdr0, hdr1⟩ := HD.out k hk
          obtain ⟨M, hM⟩ : ∃ M, M = win s.g k + 1 := ⟨_, rfl⟩
          have hMe : fs k + s.g k + 1 = M := hM.symm
          have q1 : IntKind.i64.wrap (fs k + s.g k + 1) = M := by rw [hMe]; exact IntWalk.i64_in _ (by omega)
          have q2 : IntKind.u32.wrap M = M := by rw [IntKind.wrap_u32]; omega
          have q3 : ¬ M = 0 := by omega
          have q4 := Int.emod_nonneg (dr k) q3
          have q5 := Int.emod_lt_of_pos (dr k) (show 0 < M by omega)
          have hgk : s.g k ≤ 1020 := by have : fs k ≥ 3 := (by rcases (show k = 0 ∨ k = 1 ∨ k = 2 ∨ k = 3 by omega) with rfl | rfl | rfl | rfl <;> decide); unfold win at hw4; omega
          have hM4 : M ≤ 1024 := by omega
          have HM := Lib.hid hM
          have hg1' := hg1
          clear hMe hM hw3 hw4
          have f1 := hkr.frozen (k * 3)
          have f2 := hkr.frozen (k * 3 + 1)
          have HL : Hid (dr k % M = bif a.h k then a.l k else dr k % (win s.g k + 1)) := Lib.hid (by rw [hh, HM.out]; rfl)
          have HR := Lib.hid hr
          have q6 : IntKind.i64.wrap ((dr k).tmod M) = dr k % M := by rw [Int.tmod_eq_emod_of_nonneg hdr0]; exact IntWalk.i64_in _ (by omega)
          clear hh hr
          go_wp2_with fail
          have hk2r := HK2.out.grown hR.out (by simp; omega)
          have hne : n1 + 1 ≠ B := by omega
          go_region_held3 (fun w' => w'.cell? ⟨n1 + 1, k, none⟩ = some (.int .u32 (dr k)))
            (first | exact d2 | exact (hb1.cell (p := ⟨n1 + 1, k, none⟩) hln).trans d2 | exact ((h2w.far (p := ⟨B, k * 3, none⟩) hne _).cell k).trans (uv_at dr k hk) | exact (((h2w.far (p := ⟨B, k * 3, none⟩) hne _).far (p := ⟨B, k * 3 + 1, none⟩) hne _).cell k).trans (uv_at dr k hk))
            ((refine (window_any B k hk (s.g k) hg0 hgk wr.drew hlB d5).mono ?_; rintro e w1 ⟨rfl, hb1⟩; have g3 : w1.cell? ⟨B, k * 3, none⟩ = some (.bool false) := (hb1.cell (p := ⟨B, k * 3, none⟩) hlB).trans d3; have g4 : w1.cell? ⟨B, k * 3 + 1, none⟩ = some (.int .i64 (a.l k)) := (hb1.cell (p := ⟨B, k * 3 + 1, none⟩) hlB).trans d4; have hkw := Blk.below (w := wr.drew) hkr hb1 hlB; have h2w := Blk.below (w := wr.drew) hk2r hb1 hln; have f3 := hkw.frozen (k * 3); have f4 := hkw.frozen (k * 3 + 1)))
          have hkx : Blk ((w1.setCell ⟨B, k * 3, none⟩ (.bool true)).setCell ⟨B, k * 3 + 1, none⟩ (.int .i64 (dr k % M))) B (ecells (upd a.h k true) (upd a.l k (dr k % M)) s.g) 30 := by
            have := (hkw.set_ (k * 3) (.bool true)).set_ (k * 3 + 1) (.int .i64 (dr k % M))
            rw [e_seth _ _ _ k hk, e_setl _ _ _ k hk] at this
            exact this
          have hRx : Hid (W.grownBy ((w1.setCell ⟨B, k * 3, none⟩ (.bool true)).setCell ⟨B, k * 3 + 1, none⟩ (.int .i64 (dr k % M))) (some B)) :=
            Lib.hid (((hR.out.trans (but_of B ((below_drewN (w := wr) 1).trans hb1))).trans (but_set _ _ _ _)).trans (but_set _ _ _ _))
          have hL0 : 0 ≤ dr k % M ∧ dr k % M ≤ 1023 := ⟨q4, by omega⟩
          clear d2 d3 d4 d5 g3 g4 f1 f2 f3 f4 hkr hkw h2w hk2r q1 q2 q3 q4 q5 q6 hb1 HM
          generalize dr k % M = L at *
          generalize (w1.setCell ⟨B, k * 3, none⟩ (.bool true)).setCell _ _ = wx at *
          have hlx : B < wx.heap.size := hkx.lt
          have dl : wx.cell? ⟨B, k * 3 + 1, none⟩ = some (.int .i64 L) := ((hkx.cell _).trans (e_l _ _ _ k hk)).trans (by rw [upd_at])
          have q7 : IntKind.i64.wrap (wt k + L) = wt k + L := IntWalk.i64_in _ (by have := wt_le k; omega)
          go_wp2_with fail
          go_region_held3 (fun w' => w'.cell? ⟨B, k * 3 + 1, none⟩ = some (.int .i64 L)) (first | exact dl | exact (hb2.cell (p := ⟨B, k * 3 + 1, none⟩) hlx).trans dl) ((refine (wait_any k hk _).mono ?_; rintro e w2 ⟨rfl, hb2⟩))
          have hkx2 := Blk.below (w := wx.drew) hkx hb2 hlx
          have hRx2 := Lib.hid (hRx.out.trans (but_of B ((below_drewN (w := wx) 1).trans hb2)))
          clear dl hb2 hkx
          go_wp2_with fail
          all_goals
            go_roundw
            case rel =>
              first
              | (have hs := HST.out.trans (step1_yes HR.out HL.out (by omega))
                 exact ⟨k + 1, by omega, by go_num, by rw [hs], by rw [hs], by rw [hs]; exact hkx2, hRx2⟩)
              | (have hs := HST.out.trans (step1_no HR.out HL.out (by omega) (by omega))
                 exact ⟨k + 1, by omega, by go_num, by rw [hs], by rw [hs], by rw [hs]; exact hkx2, hRx2⟩)
            case measure => simp [intOf]; omega
        · rw [hh] at d3
          have HR := Lib.hid hr
          have hL0 := HA.out.1 k hk
          have hkx : Blk wr B (ecells (upd a.h k true) (upd a.l k (a.l k)) s.g) 30 := by rw [upd_same hh, upd_same rfl]; exact hkr
          have hRx := hR
          obtain ⟨L, hLd⟩ : ∃ L, L = a.l k := ⟨_, rfl⟩
          have HL : Hid (L = bif a.h k then a.l k else dr k % (win s.g k + 1)) := Lib.hid (by rw [hh, hLd]; rfl)
          rw [← hLd] at hkx hL0 d4
          clear hr hh d2 d5 hkr hR hLd
          have hlx : B < wr.heap.size := hkx.lt
          have dl : wr.cell? ⟨B, k * 3 + 1, none⟩ = some (.int .i64 L) := ((hkx.cell _).trans (e_l _ _ _ k hk)).trans (by rw [upd_at])
          have q7 : IntKind.i64.wrap (wt k + L) = wt k + L := IntWalk.i64_in _ (by have := wt_le k; omega)
          go_wp2_with fail
          go_region_held3 (fun w' => w'.cell? ⟨B, k * 3 + 1, none⟩ = some (.int .i64 L)) (first | exact dl | exact (hb2.cell (p := ⟨B, k * 3 + 1, none⟩) hlx).trans dl) ((refine (wait_any k hk _).mono ?_; rintro e w2 ⟨rfl, hb2⟩))
          have hkx2 := Blk.below (w := wr.drew) hkx hb2 hlx
          have hRx2 := Lib.hid (hRx.out.trans (but_of B ((below_drewN (w := wr) 1).trans hb2)))
          clear dl hb2 hkx
          go_wp2_with fail
          all_goals
            go_roundw
            case rel =>
              first
              | (have hs := HST.out.trans (step1_yes HR.out HL.out (by omega))
                 exact ⟨k + 1, by omega, by go_num, by rw [hs], by rw [hs], by rw [hs]; exact hkx2, hRx2⟩)
              | (have hs := HST.out.trans (step1_no HR.out HL.out (by omega) (by omega))
                 exact ⟨k + 1, by omega, by go_num, by rw [hs], by rw [hs], by rw [hs]; exact hkx2, hRx2⟩)
            case measure => simp [intOf]; omega
    · have hk' : k = 4 := by omega
      subst hk'
      have hmid : mid rd dr s = run1 rd dr s.g { h := s.h, l := s.l, w := -1, t := 0 } 4 := rfl
      have hS : conS rd dr s = bif decide ((mid rd dr s).w < 0) then { h := (mid rd dr s).h, l := (mid rd dr s).l, g := s.g } else run2 rd (mid rd dr s).w (mid rd dr s).t { h := (mid rd dr s).h, l := (mid rd dr s).l, g := s.g } 4 := rfl
      have hW : conW rd dr s = bif decide ((mid rd dr s).w < 0) then 0 else (mid rd dr s).w := rfl
      have hT : conT rd dr s = bif decide ((mid rd dr s).w < 0) then 0 else (mid rd dr s).t := rfl
      have hBB : conB rd dr s = !decide ((mid rd dr s).w < 0) := rfl
      rw [hmid] at hS hW hT hBB
      clear hmid
      generalize run1 rd dr s.g { h := s.h, l := s.l, w := -1, t := 0 } 4 = a at *
      obtain ⟨hal, haw0, haw1, hat0, hat1⟩ := HA.out
      have hal' := Lib.hid hal
      clear hal
      by_cases hw : a.w < 0
      · have hd' : decide (a.w < 0) = true := by simpa using hw
        rw [hd'] at hS hW hT hBB
        have HcS := Lib.hid hS
        have HcW := Lib.hid hW
        have HcT := Lib.hid hT
        have HcB := Lib.hid hBB
        clear hS hW hT hBB
        go_wp2_with fail
        go_ret3
        rw [HcS.out, HcW.out, HcT.out, HcB.out]
        exact ⟨rfl, hkr, HGW.out.trans hR.out⟩
      · have hd' : decide (a.w < 0) = false := by simpa using hw
        rw [hd'] at hS hW hT hBB
        simp only [cond_false, Bool.not_false] at hS hW hT hBB
        have HcS := Lib.hid hS
        have HcW := Lib.hid hW
        have HcT := Lib.hid hT
        have HcB := Lib.hid hBB
        clear hS hW hT hBB
        have hinv : Inv { h := a.h, l := a.l, g := s.g } := fun k hk => ⟨(hal'.out k hk).1, (hal'.out k hk).2, (HI.out k hk).2.2⟩
        have HINV := Lib.hid hinv
        clear hinv hd'
        go_wp2_with fail
        go_loopw [71] (fun i wr => ∃ k : Nat, k ≤ 4 ∧ i = .int .i64 k ∧
          Blk wr B (ecells (run2 rd a.w a.t { h := a.h, l := a.l, g := s.g } k).h (run2 rd a.w a.t { h := a.h, l := a.l, g := s.g } k).l (run2 rd a.w a.t { h := a.h, l := a.l, g := s.g } k).g) 30 ∧ Hid (W.grownBy wr (some B))) (fun i _ => 4 - (intOf i).toNat)
        case atStart => exact ⟨0, by omega, rfl, hkr, hR⟩
        case round =>
          obtain ⟨k, hk4, rfl, hkq, hQ⟩ := hrel
          have HINVk := Lib.hid (run2_inv (rd := rd) (w := a.w) (t := a.t) hat0 HINV.out k hk4)
          by_cases hk : k < 4
          · have hstep : run2 rd a.w a.t { h := a.h, l := a.l, g := s.g } (k + 1) = step2 rd a.w a.t k (run2 rd a.w a.t { h := a.h, l := a.l, g := s.g } k) := rfl
            have HST := Lib.hid hstep
            clear hstep
            generalize run2 rd a.w a.t { h := a.h, l := a.l, g := s.g } k = b at *
            obtain ⟨hbl0, hbl1, hbg0, hbg1⟩ := HINVk.out k hk
            have d1 : wr.cell? ⟨n1, k, none⟩ = some (.bool (rd k)) := ((HK1.out.grown hQ.out (by simp; omega)).cell k).trans (bv_at rd k hk)
            have d4 : wr.cell? ⟨B, k * 3 + 1, none⟩ = some (.int .i64 (b.l k)) := (hkq.cell _).trans (e_l _ _ _ k hk)
            have e1 : (k : Int) < 4 := by omega
            have e0 : (0 : Int) ≤ (k : Int) := by omega
            have hlB : B < wr.heap.size := hkq.lt
            have hwt := wt_le k
            cases hr : rd k
            · rw [hr] at d1
              have HR := Lib.hid hr
              clear hr
              go_wp2_with fail
              go_roundw
              case rel => exact ⟨k + 1, by omega, by go_num, by rw [HST.out, step2_skip HR.out]; exact hkq, hQ⟩
              case measure => simp [intOf]; omega
            · rw [hr] at d1
              have HR := Lib.hid hr
              clear hr
              have q7 : IntKind.i64.wrap (wt k + b.l k) = wt k + b.l k := IntWalk.i64_in _ (by omega)
              go_wp2_with fail
              go_region_held3 (fun w' => w'.cell? ⟨B, k * 3 + 1, none⟩ = some (.int .i64 (b.l k))) (first | exact d4 | exact (hb2.cell (p := ⟨B, k * 3 + 1, none⟩) hlB).trans d4) ((refine (wait_any k hk _).mono ?_; rintro e w2 ⟨rfl, hb2⟩))
              have hk2 := Blk.below (w := wr.drew) hkq hb2 hlB
              have hQ2 := Lib.hid (hQ.out.trans (but_of B ((below_drewN (w := wr) 1).trans hb2)))
              have hlB2 : B < w2.heap.size := hk2.lt
              have d42 : w2.cell? ⟨B, k * 3 + 1, none⟩ = some (.int .i64 (b.l k)) := (hk2.cell _).trans (e_l _ _ _ k hk)
              clear d4 hb2 hkq hQ d1
              by_cases hcmp : a.t < wt k + b.l k
              · have f2 := hk2.frozen (k * 3 + 1)
                have q8 : IntKind.i64.wrap (a.t - wt k) = a.t - wt k := IntWalk.i64_in _ (by omega)
                have q9 : IntKind.i64.wrap (b.l k - (a.t - wt k)) = b.l k - (a.t - wt k) := IntWalk.i64_in _ (by omega)
                have q10 : IntKind.i64.wrap (b.l k) = b.l k := IntWalk.i64_in _ (by omega)
                have c2 : ¬ b.l k < 0 := by omega
                have c3 : ¬ b.l k - (a.t - wt k) < 0 := by omega
                by_cases c1 : a.t - wt k < 0
                all_goals
                  go_wp2_with fail
                  go_region_with (go_at_call 16; refine (wait_any k hk _).mono ?_; rintro e w3 ⟨rfl, hb3⟩; have hk3 := Blk.below (w := w2.drew) hk2 hb3 hlB2; have d43 : w3.cell? ⟨B, k * 3 + 1, none⟩ = some (.int .i64 (b.l k)) := (hk3.cell _).trans (e_l _ _ _ k hk); have f3 := hk3.frozen (k * 3 + 1))
                  all_goals
                    have HS := Lib.hid (HST.out.trans (step2_wait HR.out hcmp))
                    have HQ3 := Lib.hid ((hQ2.out.trans (but_of B ((below_drewN (w := w2) 1).trans hb3))).trans (but_set w3 B (k * 3 + 1) (.int .i64 (max (b.l k - max (a.t - wt k) 0) 0))))
                    have HK3 := Lib.hid (hk3.set_ (k * 3 + 1) (.int .i64 (max (b.l k - max (a.t - wt k) 0) 0)))
                    go_wp2_with fail
                    go_roundw
                    case rel =>
                      have hQ4 := HQ3.out
                      have hK4 := HK3.out
                      rw [e_setl _ _ _ k hk] at hK4
                      first
                      | (have e : max (b.l k - max (a.t - wt k) 0) 0 = b.l k - (a.t - wt k) := by omega
                         rw [e] at hQ4 hK4
                         refine ⟨k + 1, by omega, by go_num, ?_, Lib.hid hQ4⟩
                         rw [HS.out, e]
                         exact hK4)
                      | (have e : max (b.l k - max (a.t - wt k) 0) 0 = b.l k := by omega
                         rw [e] at hQ4 hK4
                         refine ⟨k + 1, by omega, by go_num, ?_, Lib.hid hQ4⟩
                         rw [HS.out, e]
                         exact hK4)
                    case measure => simp [intOf]; omega
              · have g3 : w2.cell? ⟨B, k * 3, none⟩ = some (.bool (b.h k)) := (hk2.cell _).trans (e_h _ _ _ k hk)
                have f2 := hk2.frozen (k * 3)
                have f3 := hk2.frozen (k * 3 + 1)
                by_cases hkw : (k : Int) = a.w
                · have hs := HST.out.trans (step2_win HR.out (by omega) hkw)
                  have HS := Lib.hid hs
                  clear hs
                  go_wp2_with fail
                  go_roundw
                  case rel =>
                    refine ⟨k + 1, by omega, by go_num, ?_, Lib.hid ((hQ2.out.trans (but_set _ _ _ _)).trans (but_set _ _ _ _))⟩
                    rw [HS.out]
                    have := (hk2.set_ (k * 3) (.bool false)).set_ (k * 3 + 1) (.int .i64 0)
                    rw [e_seth _ _ _ k hk, e_setl _ _ _ k hk] at this
                    exact this
                  case measure => simp [intOf]; omega
                · have hs := HST.out.trans (step2_lose HR.out (by omega) hkw)
                  have HS := Lib.hid hs
                  have hg1' : b.g k ≤ 1020 := by have : fs k ≥ 3 ∧ ms k ≤ 1023 := (by rcases (show k = 0 ∨ k = 1 ∨ k = 2 ∨ k = 3 by omega) with rfl | rfl | rfl | rfl <;> decide); omega
                  clear hs
                  go_wp2_with fail
                  refine (grow_any B k hk b.h b.l b.g hbg0 hg1' _ hk2).mono ?_
                  rintro e w3 ⟨rfl, hk3, hg3⟩
                  have g33 : w3.cell? ⟨B, k * 3, none⟩ = some (.bool (b.h k)) := (hk3.cell _).trans (e_h _ _ _ k hk)
                  have g43 : w3.cell? ⟨B, k * 3 + 1, none⟩ = some (.int .i64 (b.l k)) := (hk3.cell _).trans (e_l _ _ _ k hk)
                  have f23 := hk3.frozen (k * 3)
                  have f33 := hk3.frozen (k * 3 + 1)
                  clear d42 g3 f2 f3
                  go_wp2_with fail
                  go_roundw
                  case rel =>
                    refine ⟨k + 1, by omega, by go_num, ?_, Lib.hid (((hQ2.out.trans hg3).trans (but_set _ _ _ _)).trans (but_set _ _ _ _))⟩
                    rw [HS.out]
                    have := (hk3.set_ (k * 3) (.bool false)).set_ (k * 3 + 1) (.int .i64 0)
                    rw [e_seth _ _ _ k hk, e_setl _ _ _ k hk] at this
                    exact this
                  case measure => simp [intOf]; omega
          · have hk' : k = 4 := by omega
            subst hk'
            go_wp2_with fail
            go_ret3
            rw [HcS.out, HcW.out, HcT.out, HcB.out]
            exact ⟨rfl, hkq, HGW.out.trans hQ.out⟩
end Go.Proofs.YtejlfifoehpljaaDoor
