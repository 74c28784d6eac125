/-
  The document's rates: Bits, Symbol, Preamble.
-/
import Derived.Test.YtoagmehgiaamlaaDoorRefRate
import Derived.Test.YtoagmehgiaamlaaDoorRateBits
namespace Go.Proofs.YtoagmehgiaamlaaDoor
open Go.ChangeShapes Go.WideShapes Go.ChangeAt Go.RowKit
set_option linter.unusedVariables false

theorem cell_new (w : World) (cs : Array Value) (t : TypeId) (k n : Nat) (v : Value) (hn : n = w.heap.size) (h : cs[k]? = some v) : (w.alloc (.cells cs t)).cell? ⟨n, k, none⟩ = some v := by
  subst hn; rw [(Blk.new w cs t).cell]; exact h
theorem wI_nat {r : RT} (h : validP r = true) : ∃ j : Nat, j < 4 ∧ wI r.w = (j : Int) ∧
    (#[Value.int .i64 52, .int .i64 108, .int .i64 234, .int .i64 468] : Array Value)[j]? = some (.int .i64 (carP 1 r.w)) ∧
    (#[Value.int .i64 234, .int .i64 468, .int .i64 980, .int .i64 1960] : Array Value)[j]? = some (.int .i64 (carP 4 r.w)) := by
  rcases valid_w h with hw | hw | hw | hw <;> rw [hw]
  · exact ⟨0, by omega, rfl, rfl, rfl⟩
  · exact ⟨1, by omega, rfl, rfl, rfl⟩
  · exact ⟨2, by omega, rfl, rfl, rfl⟩
  · exact ⟨3, by omega, rfl, rfl, rfl⟩
theorem car_not4 {m : Int} (w : Int) (h : m ≠ 4) : carP m w = carP 1 w := by unfold carP; rw [if_neg h, if_neg (show ¬ (1 : Int) = 4 by omega)]
theorem lists12 (k : Nat) (hk : k < 12) :
    (#[Value.int .i64 1, .int .i64 2, .int .i64 2, .int .i64 4, .int .i64 4, .int .i64 6, .int .i64 6, .int .i64 6, .int .i64 8, .int .i64 8, .int .i64 10, .int .i64 10] : Array Value)[k]? = some (.int .i64 (ratePartP k).1) ∧
    (#[Value.int .i64 1, .int .i64 1, .int .i64 3, .int .i64 1, .int .i64 3, .int .i64 2, .int .i64 3, .int .i64 5, .int .i64 3, .int .i64 5, .int .i64 3, .int .i64 5] : Array Value)[k]? = some (.int .i64 (ratePartP k).2.1) ∧
    (#[Value.int .i64 2, .int .i64 2, .int .i64 4, .int .i64 2, .int .i64 4, .int .i64 3, .int .i64 4, .int .i64 6, .int .i64 4, .int .i64 6, .int .i64 4, .int .i64 6] : Array Value)[k]? = some (.int .i64 (ratePartP k).2.2) := by
  rcases (show k = 0 ∨ k = 1 ∨ k = 2 ∨ k = 3 ∨ k = 4 ∨ k = 5 ∨ k = 6 ∨ k = 7 ∨ k = 8 ∨ k = 9 ∨ k = 10 ∨ k = 11 by omega) with rfl | rfl | rfl | rfl | rfl | rfl | rfl | rfl | rfl | rfl | rfl | rfl <;> exact ⟨rfl, rfl, rfl⟩

set_option maxHeartbeats 3200000 in
theorem rbits_any (r : RT) (w : World) (i0 : -9223372036854775808 ≤ r.s) (i1 : r.s ≤ 9223372036854775807) : Calls Tryd.prog 59 #[.agg #[.int .i64 r.m, .int .i64 r.c, .int .i64 r.s, .int .i64 r.w, .int .i64 r.g]] w fun e w' => e = .returned (.int .i64 (bitsP r)) ∧ Below w.heap.size w w' := by
  have HB := Lib.hid (Blk.new w #[.int .i64 r.m, .int .i64 r.c, .int .i64 r.s, .int .i64 r.w, .int .i64 r.g] 28)
  have B1 := Lib.hid (show Below w.heap.size w (w.alloc (.cells #[.int .i64 r.m, .int .i64 r.c, .int .i64 r.s, .int .i64 r.w, .int .i64 r.g] 28)) from (Below.refl _ _).alloc (Nat.le_refl _) _)
  have hlt1 : w.heap.size < (w.alloc (.cells #[.int .i64 r.m, .int .i64 r.c, .int .i64 r.s, .int .i64 r.w, .int .i64 r.g] 28)).heap.size := by simp
  have hs : bitsP r = if validP r = true then (if r.m = 1 then legP r.c else carP r.m r.w * (ratePartP r.c).1 * r.s * (ratePartP r.c).2.1 / (ratePartP r.c).2.2) else 0 := rfl
  have HS := Lib.hid hs
  clear hs
  go_enter Tryd.func59, Tryd.ntmps59
  go_wp2_with fail
  refine (rvalid_any r _ i0 i1).mono ?_
  rintro e w1 ⟨rfl, hb1⟩
  have HB1 := Lib.hid (HB.out.below hb1 hlt1)
  have B2 := Lib.hid (B1.out.trans (hb1.mono (by simp)))
  clear hb1 hlt1
  rcases hv : validP r
  · go_wp2_with fail
    go_ret
    exact ⟨ret_i64 (by rw [HS.out, hv]; rfl), B2.out⟩
  · have HV := Lib.hid hv
    obtain ⟨_, _, s0, s1, c0, c1, hm⟩ := valid_gi hv
    obtain ⟨k, hk⟩ : ∃ k : Nat, r.c = (k : Int) := ⟨r.c.toNat, by omega⟩
    have e0 : w1.cell? ⟨w.heap.size, 0, none⟩ = some (.int .i64 r.m) := HB1.out.cell 0
    have e1 : w1.cell? ⟨w.heap.size, 1, none⟩ = some (.int .i64 r.c) := HB1.out.cell 1
    rw [hk] at e1
    have HK := Lib.hid hk
    have zB := B2.out.size
    have hltw := HB1.out.lt
    clear hm i0 i1
    by_cases h1 : r.m = 1
    · have hl := valid_leg hv h1
      have hk8 : k < 8 := by omega
      have hc : (w1.alloc (.cells legC 3)).cell? ⟨w1.heap.size, k, none⟩ = some (.int .i64 (legP k)) := by
        rw [(Blk.new w1 legC 3).cell]; exact leg_get k hk8
      have hc' := hc
      unfold legC at hc'
      clear hc hl hv hk
      go_wp2_with fail
      go_ret
      exact ⟨ret_i64 (by rw [HS.out, HV.out, if_pos rfl, if_pos h1, HK.out]), B2.out.alloc zB _⟩
    · have hk12 : k < 12 := by omega
      have e2 : w1.cell? ⟨w.heap.size, 2, none⟩ = some (.int .i64 r.s) := HB1.out.cell 2
      have e3 : w1.cell? ⟨w.heap.size, 3, none⟩ = some (.int .i64 r.w) := HB1.out.cell 3
      obtain ⟨j, hj, hwj, l1, l4⟩ := wI_nat hv
      obtain ⟨g1, g2, g3⟩ := lists12 k hk12
      clear hk
      obtain ⟨p1, p2, p3, p4, p5, p6, p7⟩ := part_bounds c0 c1
      obtain ⟨q1, q2⟩ := car_bounds r.m r.w
      rw [HK.out] at p1 p2 p3 p4 p5 p6
      have hs : bitsP r = carP r.m r.w * (ratePartP k).1 * r.s * (ratePartP k).2.1 / (ratePartP k).2.2 := by rw [HS.out, HV.out, if_pos rfl, if_neg h1, HK.out]
      have HT := Lib.hid hs
      clear hs p7 HS c0 c1 hv
      generalize (ratePartP k).1 = b at *
      generalize (ratePartP k).2.1 = o at *
      generalize (ratePartP k).2.2 = u at *
      by_cases h4 : r.m = 4
      · rw [h4] at e0 q1 q2 HT
        generalize carP 4 r.w = K at *
        generalize carP 1 r.w = K1 at *
        obtain ⟨m1, m2⟩ := mul_bd (by omega : 0 ≤ K) q2 (by omega : 0 ≤ b) p2
        obtain ⟨m3, m4⟩ := mul_bd m1 m2 (by omega : 0 ≤ r.s) s1
        obtain ⟨m5, m6⟩ := mul_bd m3 m4 (by omega : 0 ≤ o) p4
        have x1 : IntKind.i64.wrap (K * b) = K * b := IntWalk.i64_in _ (by omega)
        have x2 : IntKind.i64.wrap (K * b * r.s) = K * b * r.s := IntWalk.i64_in _ (by omega)
        have x3 : IntKind.i64.wrap (K * b * r.s * o) = K * b * r.s * o := IntWalk.i64_in _ (by omega)
        have d1 : (K * b * r.s * o).tdiv u = K * b * r.s * o / u := Int.tdiv_eq_ediv_of_nonneg m5
        have hu : ¬ u = 0 := by omega
        have hu' : (u == 0) = false := by simp; omega
        have d2 : 0 ≤ K * b * r.s * o / u ∧ K * b * r.s * o / u ≤ 784000 := ⟨Int.ediv_nonneg m5 (by omega), Int.le_trans (Int.ediv_le_self _ m5) (by omega)⟩
        have x4 : IntKind.i64.wrap (K * b * r.s * o / u) = K * b * r.s * o / u := IntWalk.i64_in _ (by omega)
        clear h4 h1 p1 p2 p3 p4 p5 p6 q1 q2
        have a1 : (w1.alloc (.cells #[.int .i64 52, .int .i64 108, .int .i64 234, .int .i64 468] 3)).cell? ⟨w1.heap.size, j, none⟩ = some (.int .i64 K1) := cell_new _ _ _ _ _ _ rfl l1
        have a2 : ((w1.alloc (.cells #[.int .i64 52, .int .i64 108, .int .i64 234, .int .i64 468] 3)).alloc (.cells #[.int .i64 234, .int .i64 468, .int .i64 980, .int .i64 1960] 3)).cell? ⟨w1.heap.size + 1, j, none⟩ = some (.int .i64 K) := cell_new _ _ _ _ _ _ (by simp) l4
        have a3 : (((w1.alloc (.cells #[.int .i64 52, .int .i64 108, .int .i64 234, .int .i64 468] 3)).alloc (.cells #[.int .i64 234, .int .i64 468, .int .i64 980, .int .i64 1960] 3)).alloc (.cells #[Value.int .i64 1, .int .i64 2, .int .i64 2, .int .i64 4, .int .i64 4, .int .i64 6, .int .i64 6, .int .i64 6, .int .i64 8, .int .i64 8, .int .i64 10, .int .i64 10] 3)).cell? ⟨w1.heap.size + 1 + 1, k, none⟩ = some (.int .i64 b) := cell_new _ _ _ _ _ _ (by simp) g1
        have a4 : ((((w1.alloc (.cells #[.int .i64 52, .int .i64 108, .int .i64 234, .int .i64 468] 3)).alloc (.cells #[.int .i64 234, .int .i64 468, .int .i64 980, .int .i64 1960] 3)).alloc (.cells #[Value.int .i64 1, .int .i64 2, .int .i64 2, .int .i64 4, .int .i64 4, .int .i64 6, .int .i64 6, .int .i64 6, .int .i64 8, .int .i64 8, .int .i64 10, .int .i64 10] 3)).alloc (.cells #[Value.int .i64 1, .int .i64 1, .int .i64 3, .int .i64 1, .int .i64 3, .int .i64 2, .int .i64 3, .int .i64 5, .int .i64 3, .int .i64 5, .int .i64 3, .int .i64 5] 3)).cell? ⟨w1.heap.size + 1 + 1 + 1, k, none⟩ = some (.int .i64 o) := cell_new _ _ _ _ _ _ (by simp) g2
        have a5 : (((((w1.alloc (.cells #[.int .i64 52, .int .i64 108, .int .i64 234, .int .i64 468] 3)).alloc (.cells #[.int .i64 234, .int .i64 468, .int .i64 980, .int .i64 1960] 3)).alloc (.cells #[Value.int .i64 1, .int .i64 2, .int .i64 2, .int .i64 4, .int .i64 4, .int .i64 6, .int .i64 6, .int .i64 6, .int .i64 8, .int .i64 8, .int .i64 10, .int .i64 10] 3)).alloc (.cells #[Value.int .i64 1, .int .i64 1, .int .i64 3, .int .i64 1, .int .i64 3, .int .i64 2, .int .i64 3, .int .i64 5, .int .i64 3, .int .i64 5, .int .i64 3, .int .i64 5] 3)).alloc (.cells #[Value.int .i64 2, .int .i64 2, .int .i64 4, .int .i64 2, .int .i64 4, .int .i64 3, .int .i64 4, .int .i64 6, .int .i64 4, .int .i64 6, .int .i64 4, .int .i64 6] 3)).cell? ⟨w1.heap.size + 1 + 1 + 1 + 1, k, none⟩ = some (.int .i64 u) := cell_new _ _ _ _ _ _ (by simp) g3
        clear l1 l4 g1 g2 g3
        have n0 : ¬ w.heap.size = w1.heap.size := by omega
        have n1 : ¬ w.heap.size = w1.heap.size + 1 := by omega
        have n2 : ¬ w.heap.size = w1.heap.size + 1 + 1 := by omega
        have n3 : ¬ w.heap.size = w1.heap.size + 1 + 1 + 1 := by omega
        have n4 : ¬ w.heap.size = w1.heap.size + 1 + 1 + 1 + 1 := by omega
        have o1 : w.heap.size < w1.heap.size + 1 := by omega
        have o2 : w.heap.size < w1.heap.size + 1 + 1 := by omega
        have o3 : w.heap.size < w1.heap.size + 1 + 1 + 1 := by omega
        have o4 : w.heap.size < w1.heap.size + 1 + 1 + 1 + 1 := by omega
        have o5 : w.heap.size < w1.heap.size + 1 + 1 + 1 + 1 + 1 := by omega
        go_wp2_with (go_at_call 62; refine (width_any r.w _).mono ?_; rintro e w' ⟨rfl, rfl⟩)
        go_ret
        exact ⟨ret_i64 HT.out.symm, (((((B2.out.alloc zB _).alloc (by simp; omega) _).alloc (by simp; omega) _).alloc (by simp; omega) _).alloc (by simp; omega) _)⟩
      · rw [car_not4 r.w h4] at q1 q2 HT
        generalize carP 1 r.w = K at *
        obtain ⟨m1, m2⟩ := mul_bd (by omega : 0 ≤ K) q2 (by omega : 0 ≤ b) p2
        obtain ⟨m3, m4⟩ := mul_bd m1 m2 (by omega : 0 ≤ r.s) s1
        obtain ⟨m5, m6⟩ := mul_bd m3 m4 (by omega : 0 ≤ o) p4
        have x1 : IntKind.i64.wrap (K * b) = K * b := IntWalk.i64_in _ (by omega)
        have x2 : IntKind.i64.wrap (K * b * r.s) = K * b * r.s := IntWalk.i64_in _ (by omega)
        have x3 : IntKind.i64.wrap (K * b * r.s * o) = K * b * r.s * o := IntWalk.i64_in _ (by omega)
        have d1 : (K * b * r.s * o).tdiv u = K * b * r.s * o / u := Int.tdiv_eq_ediv_of_nonneg m5
        have hu : ¬ u = 0 := by omega
        have hu' : (u == 0) = false := by simp; omega
        have d2 : 0 ≤ K * b * r.s * o / u ∧ K * b * r.s * o / u ≤ 784000 := ⟨Int.ediv_nonneg m5 (by omega), Int.le_trans (Int.ediv_le_self _ m5) (by omega)⟩
        have x4 : IntKind.i64.wrap (K * b * r.s * o / u) = K * b * r.s * o / u := IntWalk.i64_in _ (by omega)
        clear p1 p2 p3 p4 p5 p6 q1 q2
        have a1 : (w1.alloc (.cells #[.int .i64 52, .int .i64 108, .int .i64 234, .int .i64 468] 3)).cell? ⟨w1.heap.size, j, none⟩ = some (.int .i64 K) := cell_new _ _ _ _ _ _ rfl l1
        have a3 : ((w1.alloc (.cells #[.int .i64 52, .int .i64 108, .int .i64 234, .int .i64 468] 3)).alloc (.cells #[Value.int .i64 1, .int .i64 2, .int .i64 2, .int .i64 4, .int .i64 4, .int .i64 6, .int .i64 6, .int .i64 6, .int .i64 8, .int .i64 8, .int .i64 10, .int .i64 10] 3)).cell? ⟨w1.heap.size + 1, k, none⟩ = some (.int .i64 b) := cell_new _ _ _ _ _ _ (by simp) g1
        have a4 : (((w1.alloc (.cells #[.int .i64 52, .int .i64 108, .int .i64 234, .int .i64 468] 3)).alloc (.cells #[Value.int .i64 1, .int .i64 2, .int .i64 2, .int .i64 4, .int .i64 4, .int .i64 6, .int .i64 6, .int .i64 6, .int .i64 8, .int .i64 8, .int .i64 10, .int .i64 10] 3)).alloc (.cells #[Value.int .i64 1, .int .i64 1, .int .i64 3, .int .i64 1, .int .i64 3, .int .i64 2, .int .i64 3, .int .i64 5, .int .i64 3, .int .i64 5, .int .i64 3, .int .i64 5] 3)).cell? ⟨w1.heap.size + 1 + 1, k, none⟩ = some (.int .i64 o) := cell_new _ _ _ _ _ _ (by simp) g2
        have a5 : ((((w1.alloc (.cells #[.int .i64 52, .int .i64 108, .int .i64 234, .int .i64 468] 3)).alloc (.cells #[Value.int .i64 1, .int .i64 2, .int .i64 2, .int .i64 4, .int .i64 4, .int .i64 6, .int .i64 6, .int .i64 6, .int .i64 8, .int .i64 8, .int .i64 10, .int .i64 10] 3)).alloc (.cells #[Value.int .i64 1, .int .i64 1, .int .i64 3, .int .i64 1, .int .i64 3, .int .i64 2, .int .i64 3, .int .i64 5, .int .i64 3, .int .i64 5, .int .i64 3, .int .i64 5] 3)).alloc (.cells #[Value.int .i64 2, .int .i64 2, .int .i64 4, .int .i64 2, .int .i64 4, .int .i64 3, .int .i64 4, .int .i64 6, .int .i64 4, .int .i64 6, .int .i64 4, .int .i64 6] 3)).cell? ⟨w1.heap.size + 1 + 1 + 1, k, none⟩ = some (.int .i64 u) := cell_new _ _ _ _ _ _ (by simp) g3
        clear l1 l4 g1 g2 g3
        have n0 : ¬ w.heap.size = w1.heap.size := by omega
        have n1 : ¬ w.heap.size = w1.heap.size + 1 := by omega
        have n2 : ¬ w.heap.size = w1.heap.size + 1 + 1 := by omega
        have n3 : ¬ w.heap.size = w1.heap.size + 1 + 1 + 1 := by omega
        have n4 : ¬ w.heap.size = w1.heap.size + 1 + 1 + 1 + 1 := by omega
        have o1 : w.heap.size < w1.heap.size + 1 := by omega
        have o2 : w.heap.size < w1.heap.size + 1 + 1 := by omega
        have o3 : w.heap.size < w1.heap.size + 1 + 1 + 1 := by omega
        have o4 : w.heap.size < w1.heap.size + 1 + 1 + 1 + 1 := by omega
        have o5 : w.heap.size < w1.heap.size + 1 + 1 + 1 + 1 + 1 := by omega
        go_wp2_with (go_at_call 62; refine (width_any r.w _).mono ?_; rintro e w' ⟨rfl, rfl⟩)
        go_ret
        exact ⟨ret_i64 HT.out.symm, ((((B2.out.alloc zB _).alloc (by simp; omega) _).alloc (by simp; omega) _).alloc (by simp; omega) _)⟩
end Go.Proofs.YtoagmehgiaamlaaDoor
