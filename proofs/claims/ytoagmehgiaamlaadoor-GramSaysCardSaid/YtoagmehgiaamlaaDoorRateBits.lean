/-
  rate: part, carriers, Bits.
-/
import Derived.Test.YtoagmehgiaamlaaDoorRatePlain
import Derived.Deep.MidRow
namespace Go.Proofs.YtoagmehgiaamlaaDoor
open Go.ChangeShapes Go.WideShapes Go.ChangeAt Go.RowKit
set_option linter.unusedVariables false

def partC : Array Value := #[.int .i64 1, .int .i64 1, .int .i64 2, .int .i64 2, .int .i64 1, .int .i64 2, .int .i64 2, .int .i64 3, .int .i64 4, .int .i64 4, .int .i64 1, .int .i64 2, .int .i64 4, .int .i64 3, .int .i64 4, .int .i64 6, .int .i64 2, .int .i64 3, .int .i64 6, .int .i64 3, .int .i64 4, .int .i64 6, .int .i64 5, .int .i64 6, .int .i64 8, .int .i64 3, .int .i64 4, .int .i64 8, .int .i64 5, .int .i64 6, .int .i64 10, .int .i64 3, .int .i64 4, .int .i64 10, .int .i64 5, .int .i64 6]
theorem part_get (k : Nat) (hk : k < 12) (j : Nat) (v : Value) (h : [Value.int .i64 (ratePartP k).1, .int .i64 (ratePartP k).2.1, .int .i64 (ratePartP k).2.2][j]? = some v) : partC[k * 3 + j]? = some v := by
  rcases (show k = 0 ∨ k = 1 ∨ k = 2 ∨ k = 3 ∨ k = 4 ∨ k = 5 ∨ k = 6 ∨ k = 7 ∨ k = 8 ∨ k = 9 ∨ k = 10 ∨ k = 11 by omega) with rfl | rfl | rfl | rfl | rfl | rfl | rfl | rfl | rfl | rfl | rfl | rfl <;>
  (rcases j with _ | _ | _ | j <;> first | exact h | (simp at h))
theorem part_range (k : Nat) (hk : k < 12) (w : World) (t : TypeId) : (w.alloc (.cells partC t)).rangeAt w.heap.size (k * 3) [Value.int .i64 (ratePartP k).1, .int .i64 (ratePartP k).2.1, .int .i64 (ratePartP k).2.2] := by
  intro j v hv
  rw [(Blk.new w partC t).cell]
  exact part_get k hk j v hv

set_option maxHeartbeats 4000000 in
theorem part_any (k : Nat) (w : World) (hk : k < 12) : Calls Tryd.prog 78 #[.int .i64 (k : Int)] w fun e w' => e = .returned (.tuple #[.int .i64 (ratePartP k).1, .int .i64 (ratePartP k).2.1, .int .i64 (ratePartP k).2.2]) ∧ Below w.heap.size w w' := by
  have hr := Lib.hid (part_range k hk w 120)
  go_enter Tryd.func78, Tryd.ntmps78
  go_wp2_with (refine wpList_load_mid (by rfl) 120 (.tmp 20) rfl w.heap.size (k * 3) rfl _ _ hr.out Tryd.underlying120 rfl (by kernel_rfl) ?_)
  go_quiet (fail)
  go_wp2_with fail
  go_ret3
  exact ⟨rfl, (((Below.refl _ _).alloc (Nat.le_refl _) _).alloc (by simp) _).trans (below_drewN _)⟩

def wIdx (w : Int) : Nat := if w = 20 then 0 else if w = 40 then 1 else if w = 80 then 2 else 3
theorem widths_at {m w : Int} (h : w ∈ widthsP m) : (widthsP m)[wIdx w]? = some w ∧ ∀ j, j < wIdx w → (widthsP m)[j]? ≠ some w := by
  have key : ∀ l : List Int, l = [20] ∨ l = [20, 40] ∨ l = [20, 40, 80, 160] → w ∈ l → l[wIdx w]? = some w ∧ ∀ j, j < wIdx w → l[j]? ≠ some w := by
    intro l hl hw
    rcases hl with rfl | rfl | rfl <;> simp at hw
    · subst hw; exact ⟨rfl, fun j hj => by simp [wIdx] at hj⟩
    · rcases hw with rfl | rfl
      · exact ⟨rfl, fun j hj => by simp [wIdx] at hj⟩
      · exact ⟨rfl, fun j hj => by simp [wIdx] at hj; subst hj; simp⟩
    · rcases hw with rfl | rfl | rfl | rfl
      · exact ⟨rfl, fun j hj => by simp [wIdx] at hj⟩
      · exact ⟨rfl, fun j hj => by simp [wIdx] at hj; subst hj; simp⟩
      · exact ⟨rfl, fun j hj => by simp [wIdx] at hj; rcases (show j = 0 ∨ j = 1 by omega) with rfl | rfl <;> simp⟩
      · exact ⟨rfl, fun j hj => by simp [wIdx] at hj; rcases (show j = 0 ∨ j = 1 ∨ j = 2 by omega) with rfl | rfl | rfl <;> simp⟩
  by_cases h1 : m = 1
  · exact key _ (.inl (by simp [widthsP, h1])) h
  by_cases h2 : m = 2
  · exact key _ (.inr (.inl (by simp [widthsP, h2]))) h
  by_cases h3 : m = 3
  · exact key _ (.inr (.inr (by simp [widthsP, h3]))) h
  by_cases h4 : m = 4
  · exact key _ (.inr (.inr (by simp [widthsP, h4]))) h
  · simp [widthsP, h1, h2, h3, h4] at h
theorem widx_any (m w : Int) (a : Option Addr) (len cap : Nat) (W : World) (h : Row W 1 a len cap ((widthsP m).map (Value.int .i64))) (hw : w ∈ widthsP m) :
    Calls Tryd.prog 77 #[.slice a len cap, .int .i64 w] W fun e w' => e = .returned (.int .i64 (wIdx w : Int)) ∧ W = w' :=
  index_yes a len cap _ w W h (wIdx w) (widths_at hw).1 (widths_at hw).2

set_option maxHeartbeats 3200000 in
theorem carriers_any (r : RT) (hv : validP r = true) (w : World) : Calls Tryd.prog 79 #[.agg #[.int .i64 r.m, .int .i64 r.c, .int .i64 r.s, .int .i64 r.w, .int .i64 r.g]] w fun e w' => e = .returned (.int .i64 (carP r.m r.w)) ∧ Below w.heap.size w w' := by
  have HB := Lib.hid (Blk.new w #[.int .i64 r.m, .int .i64 r.c, .int .i64 r.s, .int .i64 r.w, .int .i64 r.g] 28)
  have B1 := Lib.hid (show Below w.heap.size w (w.alloc (.cells #[.int .i64 r.m, .int .i64 r.c, .int .i64 r.s, .int .i64 r.w, .int .i64 r.g] 28)) from (Below.refl _ _).alloc (Nat.le_refl _) _)
  have hw := (valid_parts hv).2.2.2.2.2.2
  have HW := Lib.hid (valid_w hv)
  have hc : carP r.m r.w = if r.m = 4 then (if r.w = 20 then 234 else if r.w = 40 then 468 else if r.w = 80 then 980 else 1960) else (if r.w = 20 then 52 else if r.w = 40 then 108 else if r.w = 80 then 234 else 468) := rfl
  have HC := Lib.hid hc
  clear hc hv
  go_enter Tryd.func79, Tryd.ntmps79
  go_wp2_with fail
  obtain ⟨W, hW⟩ : ∃ W, W = w.alloc (.cells #[.int .i64 r.m, .int .i64 r.c, .int .i64 r.s, .int .i64 r.w, .int .i64 r.g] 28) := ⟨_, rfl⟩
  rw [← hW] at HB B1 ⊢
  have hlt : w.heap.size < W.heap.size := by rw [hW]; simp
  clear hW
  have zB := B1.out.size
  have e0 : W.cell? ⟨w.heap.size, 0, none⟩ = some (.int .i64 r.m) := HB.out.cell 0
  have e3 : W.cell? ⟨w.heap.size, 3, none⟩ = some (.int .i64 r.w) := HB.out.cell 3
  go_region_held3 (fun y => y.cell? ⟨w.heap.size, 0, none⟩ = some (.int .i64 r.m) ∧ y.cell? ⟨w.heap.size, 3, none⟩ = some (.int .i64 r.w))
    (first | exact ⟨e0, e3⟩ | exact ⟨(bw.cell (p := ⟨w.heap.size, 0, none⟩) hlt).trans e0, (bw.cell (p := ⟨w.heap.size, 3, none⟩) hlt).trans e3⟩)
    (first
      | (go_at_call 70; refine (widths_any r.m W.drew).mono ?_; rintro e wa ⟨Aw, rfl, rw_, bw⟩)
      | (go_at_call 77; refine (widx_any r.m r.w Aw _ _ wa rw_ hw).mono ?_; rintro e wb ⟨rfl, rfl⟩))
  have f0 : wa.cell? ⟨w.heap.size, 0, none⟩ = some (.int .i64 r.m) := (bw.cell (p := ⟨w.heap.size, 0, none⟩) hlt).trans e0
  have BB := Lib.hid (B1.out.trans ((Below.drew (Below.refl _ W)).trans bw |>.mono zB))
  have zC := BB.out.size
  clear e0 e3 rw_ bw hw
  by_cases h4 : r.m = 4
  · rw [h4] at f0
    rcases HW.out with hh | hh | hh | hh
    all_goals
      have HH := Lib.hid hh
      rw [hh]
      clear hh
      simp only [wIdx]
      go_wp2_with fail
      go_ret
      exact ⟨ret_i64 (by rw [HH.out]; first | rfl | (rw [h4]; rfl)), BB.out.alloc zC _⟩
  · rcases HW.out with hh | hh | hh | hh
    all_goals
      have HH := Lib.hid hh
      rw [hh]
      clear hh
      simp only [wIdx]
      go_wp2_with fail
      go_ret
      exact ⟨ret_i64 (by rw [HC.out, if_neg h4, HH.out]; rfl), BB.out.alloc zC _⟩

def legC : Array Value := #[.int .i64 24, .int .i64 36, .int .i64 48, .int .i64 72, .int .i64 96, .int .i64 144, .int .i64 192, .int .i64 216]
theorem leg_get (k : Nat) (hk : k < 8) : legC[k]? = some (.int .i64 (legP k)) := by
  rcases (show k = 0 ∨ k = 1 ∨ k = 2 ∨ k = 3 ∨ k = 4 ∨ k = 5 ∨ k = 6 ∨ k = 7 by omega) with rfl | rfl | rfl | rfl | rfl | rfl | rfl | rfl <;> rfl

theorem mul_bd {a b A B : Int} (h0 : 0 ≤ a) (hA : a ≤ A) (k0 : 0 ≤ b) (kB : b ≤ B) : 0 ≤ a * b ∧ a * b ≤ A * B :=
  ⟨Int.mul_nonneg h0 k0, Int.mul_le_mul hA kB k0 (by omega)⟩

set_option maxHeartbeats 3200000 in
theorem bits_any (r : RT) (w : World) : Calls Tryd.prog 71 #[.agg #[.int .i64 r.m, .int .i64 r.c, .int .i64 r.s, .int .i64 r.w, .int .i64 r.g]] w fun e w' => e = .returned (.int .i64 (bitsP r)) ∧ Below w.heap.size w w' := by
  have HB := Lib.hid (Blk.new w #[.int .i64 r.m, .int .i64 r.c, .int .i64 r.s, .int .i64 r.w, .int .i64 r.g] 28)
  have B1 := Lib.hid (show Below w.heap.size w (w.alloc (.cells #[.int .i64 r.m, .int .i64 r.c, .int .i64 r.s, .int .i64 r.w, .int .i64 r.g] 28)) from (Below.refl _ _).alloc (Nat.le_refl _) _)
  have hlt1 : w.heap.size < (w.alloc (.cells #[.int .i64 r.m, .int .i64 r.c, .int .i64 r.s, .int .i64 r.w, .int .i64 r.g] 28)).heap.size := by simp
  have hs : bitsP r = if validP r = true then (if r.m = 1 then legP r.c else carP r.m r.w * (ratePartP r.c).1 * r.s * (ratePartP r.c).2.1 / (ratePartP r.c).2.2) else 0 := rfl
  have HS := Lib.hid hs
  clear hs
  go_enter Tryd.func71, Tryd.ntmps71
  go_wp2_with fail
  refine (valid_any r _).mono ?_
  rintro e w1 ⟨rfl, hb1⟩
  have HB1 := Lib.hid (HB.out.below hb1 hlt1)
  have B2 := Lib.hid (B1.out.trans (hb1.mono (by simp)))
  clear hb1 hlt1
  rcases hv : validP r
  · go_wp2_with fail
    go_ret
    exact ⟨ret_i64 (by rw [HS.out, hv]; rfl), B2.out⟩
  · have HV := Lib.hid hv
    obtain ⟨_, _, s0, s1, c0, c1, hm⟩ := valid_gi hv
    obtain ⟨k, hk⟩ : ∃ k : Nat, r.c = (k : Int) := ⟨r.c.toNat, by omega⟩
    have e0 : w1.cell? ⟨w.heap.size, 0, none⟩ = some (.int .i64 r.m) := HB1.out.cell 0
    have e1 : w1.cell? ⟨w.heap.size, 1, none⟩ = some (.int .i64 r.c) := HB1.out.cell 1
    rw [hk] at e1
    have HK := Lib.hid hk
    have zB := B2.out.size
    have hltw := HB1.out.lt
    clear hm
    by_cases h1 : r.m = 1
    · have hl := valid_leg hv h1
      have hk8 : k < 8 := by omega
      have hc : (w1.alloc (.cells legC 3)).cell? ⟨w1.heap.size, k, none⟩ = some (.int .i64 (legP k)) := by
        rw [(Blk.new w1 legC 3).cell]; exact leg_get k hk8
      have hc' := hc
      unfold legC at hc'
      clear hc hl hv hk
      go_wp2_with fail
      go_ret
      exact ⟨ret_i64 (by rw [HS.out, HV.out, if_pos rfl, if_pos h1, HK.out]), B2.out.alloc zB _⟩
    · have hk12 : k < 12 := by omega
      have e2 : w1.cell? ⟨w.heap.size, 2, none⟩ = some (.int .i64 r.s) := HB1.out.cell 2
      clear hv hk
      go_wp2_with fail
      refine (part_any k _ hk12).mono ?_
      rintro e w2 ⟨rfl, hb2⟩
      have HB2 := Lib.hid (HB1.out.below hb2 hltw)
      have B3 := Lib.hid (B2.out.trans (hb2.mono zB))
      have zC := B3.out.size
      clear hb2 e0 e1 e2
      obtain ⟨p1, p2, p3, p4, p5, p6, p7⟩ := part_bounds c0 c1
      obtain ⟨q1, q2⟩ := car_bounds r.m r.w
      rw [HK.out] at p1 p2 p3 p4 p5 p6
      have hs : bitsP r = carP r.m r.w * (ratePartP k).1 * r.s * (ratePartP k).2.1 / (ratePartP k).2.2 := by rw [HS.out, HV.out, if_pos rfl, if_neg h1, HK.out]
      have HT := Lib.hid hs
      clear hs p7 HS
      generalize (ratePartP k).1 = b at *
      generalize (ratePartP k).2.1 = o at *
      generalize (ratePartP k).2.2 = u at *
      go_wp2_with fail
      have hcar := Lib.hid (fun w => carriers_any r HV.out w)
      generalize carP r.m r.w = K at *
      obtain ⟨m1, m2⟩ := mul_bd (by omega : 0 ≤ K) q2 (by omega : 0 ≤ b) p2
      obtain ⟨m3, m4⟩ := mul_bd m1 m2 (by omega : 0 ≤ r.s) s1
      obtain ⟨m5, m6⟩ := mul_bd m3 m4 (by omega : 0 ≤ o) p4
      have x1 : IntKind.i64.wrap (K * b) = K * b := IntWalk.i64_in _ (by omega)
      have x2 : IntKind.i64.wrap (K * b * r.s) = K * b * r.s := IntWalk.i64_in _ (by omega)
      have x3 : IntKind.i64.wrap (K * b * r.s * o) = K * b * r.s * o := IntWalk.i64_in _ (by omega)
      have d1 : (K * b * r.s * o).tdiv u = K * b * r.s * o / u := Int.tdiv_eq_ediv_of_nonneg m5
      have hu : ¬ u = 0 := by omega
      have hu' : (u == 0) = false := by simp; omega
      have d2 : 0 ≤ K * b * r.s * o / u ∧ K * b * r.s * o / u ≤ 784000 := ⟨Int.ediv_nonneg m5 (by omega), Int.le_trans (Int.ediv_le_self _ m5) (by omega)⟩
      have x4 : IntKind.i64.wrap (K * b * r.s * o / u) = K * b * r.s * o / u := IntWalk.i64_in _ (by omega)
      obtain ⟨f0, f1, f2, f3, f4⟩ : w2.cell? ⟨w.heap.size, 0, none⟩ = some (.int .i64 r.m) ∧ w2.cell? ⟨w.heap.size, 1, none⟩ = some (.int .i64 r.c) ∧ w2.cell? ⟨w.heap.size, 2, none⟩ = some (.int .i64 r.s) ∧ w2.cell? ⟨w.heap.size, 3, none⟩ = some (.int .i64 r.w) ∧ w2.cell? ⟨w.heap.size, 4, none⟩ = some (.int .i64 r.g) :=
        ⟨HB2.out.cell 0, HB2.out.cell 1, HB2.out.cell 2, HB2.out.cell 3, HB2.out.cell 4⟩
      have hlt2 := HB2.out.lt
      clear p1 p2 p3 p4 p5 p6 q1 q2 m1 m2 m3 m4 m5 m6 c0 c1
      go_region_held3 (fun y => y.cell? ⟨w.heap.size, 0, none⟩ = some (.int .i64 r.m) ∧ y.cell? ⟨w.heap.size, 1, none⟩ = some (.int .i64 r.c) ∧ y.cell? ⟨w.heap.size, 2, none⟩ = some (.int .i64 r.s) ∧ y.cell? ⟨w.heap.size, 3, none⟩ = some (.int .i64 r.w) ∧ y.cell? ⟨w.heap.size, 4, none⟩ = some (.int .i64 r.g))
        (first | exact ⟨f0, f1, f2, f3, f4⟩ | exact ⟨(bw.cell (p := ⟨w.heap.size, 0, none⟩) hlt2).trans f0, (bw.cell (p := ⟨w.heap.size, 1, none⟩) hlt2).trans f1, (bw.cell (p := ⟨w.heap.size, 2, none⟩) hlt2).trans f2, (bw.cell (p := ⟨w.heap.size, 3, none⟩) hlt2).trans f3, (bw.cell (p := ⟨w.heap.size, 4, none⟩) hlt2).trans f4⟩)
        ((go_at_call 79; refine (hcar.out w2.drew).mono ?_; rintro e wa ⟨rfl, bw⟩))
      go_wp2_with fail
      go_ret
      exact ⟨ret_i64 HT.out.symm, B3.out.trans ((Below.drew (Below.refl _ w2)).trans bw |>.mono zC)⟩
end Go.Proofs.YtoagmehgiaamlaaDoor
