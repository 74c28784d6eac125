/-
  rate: Symbol, Preamble.
-/
import Derived.Test.YtoagmehgiaamlaaDoorRate
namespace Go.Proofs.YtoagmehgiaamlaaDoor
open Go.ChangeShapes Go.WideShapes Go.ChangeAt Go.RowKit
set_option linter.unusedVariables false

theorem valid_gi {r : RT} (h : validP r = true) : 0 ≤ r.g ∧ r.g ≤ 2 ∧ 1 ≤ r.s ∧ r.s ≤ 8 ∧ 0 ≤ r.c ∧ r.c ≤ 11 ∧ (r.m = 1 ∨ r.m = 2 ∨ r.m = 3 ∨ r.m = 4) := by
  simp only [validP, Bool.and_eq_true, decide_eq_true_eq] at h
  obtain ⟨⟨⟨⟨⟨⟨h1, h2⟩, h3⟩, h4⟩, h5⟩, h6⟩, h7⟩ := h
  by_cases m1 : r.m = 1
  · simp [topsP, m1] at h2 h4 h6; omega
  by_cases m2 : r.m = 2
  · simp [topsP, m2] at h2 h4 h6; omega
  by_cases m3 : r.m = 3
  · simp [topsP, m3] at h2 h4 h6; omega
  by_cases m4 : r.m = 4
  · simp [topsP, m4] at h2 h4 h6; omega
  · simp [topsP, m1, m2, m3, m4] at h2; omega

def symP (r : RT) : Int := if validP r = true then (if r.m = 4 then (if r.g = 0 then 160 else if r.g = 1 then 144 else 136) else if r.g = 1 then 36 else 40) else 0

set_option maxHeartbeats 1600000 in
theorem symbol_any (r : RT) (w : World) : Calls Tryd.prog 73 #[.agg #[.int .i64 r.m, .int .i64 r.c, .int .i64 r.s, .int .i64 r.w, .int .i64 r.g]] w fun e w' => e = .returned (.int .i64 (symP r)) ∧ Below w.heap.size w w' := by
  have HB := Lib.hid (Blk.new w #[.int .i64 r.m, .int .i64 r.c, .int .i64 r.s, .int .i64 r.w, .int .i64 r.g] 28)
  have B1 := Lib.hid (show Below w.heap.size w (w.alloc (.cells #[.int .i64 r.m, .int .i64 r.c, .int .i64 r.s, .int .i64 r.w, .int .i64 r.g] 28)) from (Below.refl _ _).alloc (Nat.le_refl _) _)
  have hlt1 : w.heap.size < (w.alloc (.cells #[.int .i64 r.m, .int .i64 r.c, .int .i64 r.s, .int .i64 r.w, .int .i64 r.g] 28)).heap.size := by simp
  have HS := Lib.hid (show symP r = if validP r = true then (if r.m = 4 then (if r.g = 0 then 160 else if r.g = 1 then 144 else 136) else if r.g = 1 then 36 else 40) else 0 from rfl)
  go_enter Tryd.func73, Tryd.ntmps73
  go_wp2_with fail
  refine (valid_any r _).mono ?_
  rintro e w1 ⟨rfl, hb1⟩
  have HB1 := Lib.hid (HB.out.below hb1 hlt1)
  have B2 := Lib.hid (B1.out.trans (hb1.mono (by simp)))
  clear hb1 hlt1
  rcases hv : validP r
  · go_wp2_with fail
    go_ret
    exact ⟨ret_i64 (by rw [HS.out, hv]; rfl), B2.out⟩
  · obtain ⟨g0, g1, _, _, _, _, hm⟩ := valid_gi hv
    have e0 : w1.cell? ⟨w.heap.size, 0, none⟩ = some (.int .i64 r.m) := HB1.out.cell 0
    have e4 : w1.cell? ⟨w.heap.size, 4, none⟩ = some (.int .i64 r.g) := HB1.out.cell 4
    have zB := B2.out.size
    have hltw := HB1.out.lt
    by_cases h4 : r.m = 4
    · rw [h4] at e0
      rcases (show r.g = 0 ∨ r.g = 1 ∨ r.g = 2 by omega) with hg | hg | hg
      all_goals
        rw [hg] at e4
        clear hm g0 g1
        go_wp2_with fail
        go_ret
        exact ⟨ret_i64 (by rw [HS.out, hv, if_pos rfl, if_pos h4, hg]; rfl), B2.out.alloc zB _⟩
    · clear hm
      by_cases hg : r.g = 1
      · rw [hg] at e4
        go_wp2_with fail
        go_ret
        exact ⟨ret_i64 (by rw [HS.out, hv, if_pos rfl, if_neg h4, if_pos hg]), B2.out⟩
      · go_wp2_with fail
        go_ret
        exact ⟨ret_i64 (by rw [HS.out, hv, if_pos rfl, if_neg h4, if_neg hg]), B2.out⟩

def preP (r : RT) : Int := if validP r = true then (if r.m = 1 then 200 else if r.m = 2 then 320 + 40 * (r.s + r.s % 2 * min (r.s - 1) 1) else if r.m = 3 then 360 + 40 * (r.s + r.s % 2 * min (r.s - 1) 1) else 360 + 80 * (r.s + r.s % 2 * min (r.s - 1) 1)) else 0

set_option maxHeartbeats 4000000 in
theorem preamble_any (r : RT) (w : World) : Calls Tryd.prog 72 #[.agg #[.int .i64 r.m, .int .i64 r.c, .int .i64 r.s, .int .i64 r.w, .int .i64 r.g]] w fun e w' => e = .returned (.int .i64 (preP r)) ∧ Below w.heap.size w w' := by
  have HB := Lib.hid (Blk.new w #[.int .i64 r.m, .int .i64 r.c, .int .i64 r.s, .int .i64 r.w, .int .i64 r.g] 28)
  have B1 := Lib.hid (show Below w.heap.size w (w.alloc (.cells #[.int .i64 r.m, .int .i64 r.c, .int .i64 r.s, .int .i64 r.w, .int .i64 r.g] 28)) from (Below.refl _ _).alloc (Nat.le_refl _) _)
  have hlt1 : w.heap.size < (w.alloc (.cells #[.int .i64 r.m, .int .i64 r.c, .int .i64 r.s, .int .i64 r.w, .int .i64 r.g] 28)).heap.size := by simp
  have HS := Lib.hid (show preP r = if validP r = true then (if r.m = 1 then 200 else if r.m = 2 then 320 + 40 * (r.s + r.s % 2 * min (r.s - 1) 1) else if r.m = 3 then 360 + 40 * (r.s + r.s % 2 * min (r.s - 1) 1) else 360 + 80 * (r.s + r.s % 2 * min (r.s - 1) 1)) else 0 from rfl)
  go_enter Tryd.func72, Tryd.ntmps72
  go_wp2_with fail
  refine (valid_any r _).mono ?_
  rintro e w1 ⟨rfl, hb1⟩
  have HB1 := Lib.hid (HB.out.below hb1 hlt1)
  have B2 := Lib.hid (B1.out.trans (hb1.mono (by simp)))
  clear hb1 hlt1
  rcases hv : validP r
  · go_wp2_with fail
    go_ret
    exact ⟨ret_i64 (by rw [HS.out, hv]; rfl), B2.out⟩
  · obtain ⟨_, _, s0, s1, _, _, hm⟩ := valid_gi hv
    have e0 : w1.cell? ⟨w.heap.size, 0, none⟩ = some (.int .i64 r.m) := HB1.out.cell 0
    have e2 : w1.cell? ⟨w.heap.size, 2, none⟩ = some (.int .i64 r.s) := HB1.out.cell 2
    rcases (show r.s = 1 ∨ r.s = 2 ∨ r.s = 3 ∨ r.s = 4 ∨ r.s = 5 ∨ r.s = 6 ∨ r.s = 7 ∨ r.s = 8 by omega) with hs | hs | hs | hs | hs | hs | hs | hs
    all_goals
      rw [hs] at e2
      clear s0 s1
      rcases hm with h | h | h | h
      all_goals
        rw [h] at e0
        have HV := Lib.hid (show preP r = _ by rw [HS.out, hv, if_pos rfl, hs, h])
        clear hv hs h
        go_wp2_with fail
        go_ret
        exact ⟨ret_i64 (by rw [HV.out]; rfl), B2.out⟩
end Go.Proofs.YtoagmehgiaamlaaDoor
