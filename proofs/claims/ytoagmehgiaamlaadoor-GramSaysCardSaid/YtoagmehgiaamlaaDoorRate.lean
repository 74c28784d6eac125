/-
  rate: tops, widths, slices.Contains, Valid.
-/
import Derived.Test.YtoagmehgiaamlaaDoorMf
import Derived.Deep.RegionWith
namespace Go.Proofs.YtoagmehgiaamlaaDoor
open Go.ChangeShapes Go.WideShapes Go.ChangeAt Go.RowKit
set_option linter.unusedVariables false

structure RT where
  m : Int
  c : Int
  s : Int
  w : Int
  g : Int
def rtC (r : RT) : Array Value := #[.int .i64 r.m, .int .i64 r.c, .int .i64 r.s, .int .i64 r.w, .int .i64 r.g]
/-- greatest MCS, streams, guard of a mode -/
def topsP (m : Int) : Int × Int × Int := if m = 1 then (7, 1, 0) else if m = 2 then (7, 4, 1) else if m = 3 then (9, 8, 1) else if m = 4 then (11, 8, 2) else (-1, 0, -1)
def widthsP (m : Int) : List Int := if m = 1 then [20] else if m = 2 then [20, 40] else if m = 3 then [20, 40, 80, 160] else if m = 4 then [20, 40, 80, 160] else []
def validP (r : RT) : Bool := decide (0 ≤ r.c) && decide (r.c ≤ (topsP r.m).1) && decide (1 ≤ r.s) && decide (r.s ≤ (topsP r.m).2.1) && decide (0 ≤ r.g) && decide (r.g ≤ (topsP r.m).2.2) && decide (r.w ∈ widthsP r.m)

set_option maxHeartbeats 800000 in
theorem tops_any (m : Int) (w : World) : Calls Tryd.prog 68 #[.int .i64 m] w fun e w' => e = .returned (.tuple #[.int .i64 (topsP m).1, .int .i64 (topsP m).2.1, .int .i64 (topsP m).2.2]) ∧ w = w' := by
  by_cases h1 : m = 1
  · subst h1
    go_enter Tryd.func68, Tryd.ntmps68
    go_wp2_with fail
    go_ret3
    exact ⟨rfl, rfl⟩
  by_cases h2 : m = 2
  · subst h2
    go_enter Tryd.func68, Tryd.ntmps68
    go_wp2_with fail
    go_ret3
    exact ⟨rfl, rfl⟩
  by_cases h3 : m = 3
  · subst h3
    go_enter Tryd.func68, Tryd.ntmps68
    go_wp2_with fail
    go_ret3
    exact ⟨rfl, rfl⟩
  by_cases h4 : m = 4
  · subst h4
    go_enter Tryd.func68, Tryd.ntmps68
    go_wp2_with fail
    go_ret3
    exact ⟨rfl, rfl⟩
  · have ht : topsP m = (-1, 0, -1) := by simp [topsP, h1, h2, h3, h4]
    rw [ht]
    clear ht
    go_enter Tryd.func68, Tryd.ntmps68
    go_wp2_with fail
    go_ret3
    exact ⟨rfl, rfl⟩

theorem row_lit (w : World) (zs : List Int) (t : TypeId) (h : zs.length ≤ 100) : Row (w.alloc (.cells (zs.map (Value.int .i64)).toArray t)) 1 (some ⟨w.heap.size, 0, none⟩) zs.length zs.length (zs.map (Value.int .i64)) := by
  rcases row_new w (zs.map (Value.int .i64)).toArray t with hh | hh
  · simpa using hh
  · simp [maxLen] at hh; omega

set_option maxHeartbeats 800000 in
theorem widths_any (m : Int) (w : World) : Calls Tryd.prog 70 #[.int .i64 m] w fun e w' => ∃ A, e = .returned (.slice A (widthsP m).length (widthsP m).length) ∧ Row w' 1 A (widthsP m).length (widthsP m).length ((widthsP m).map (Value.int .i64)) ∧ Below w.heap.size w w' := by
  by_cases h1 : m = 1
  · subst h1
    go_enter Tryd.func70, Tryd.ntmps70
    go_wp2_with fail
    go_ret
    exact ⟨_, rfl, row_lit w [20] _ (by decide), (Below.refl _ _).alloc (Nat.le_refl _) _⟩
  by_cases h2 : m = 2
  · subst h2
    go_enter Tryd.func70, Tryd.ntmps70
    go_wp2_with fail
    go_ret
    exact ⟨_, rfl, row_lit w [20, 40] _ (by decide), (Below.refl _ _).alloc (Nat.le_refl _) _⟩
  by_cases h3 : m = 3
  · subst h3
    go_enter Tryd.func70, Tryd.ntmps70
    go_wp2_with fail
    go_ret
    exact ⟨_, rfl, row_lit w [20, 40, 80, 160] _ (by decide), (Below.refl _ _).alloc (Nat.le_refl _) _⟩
  by_cases h4 : m = 4
  · subst h4
    go_enter Tryd.func70, Tryd.ntmps70
    go_wp2_with fail
    go_ret
    exact ⟨_, rfl, row_lit w [20, 40, 80, 160] _ (by decide), (Below.refl _ _).alloc (Nat.le_refl _) _⟩
  · have ht : widthsP m = [] := by simp [widthsP, h1, h2, h3, h4]
    rw [ht]
    clear ht
    go_enter Tryd.func70, Tryd.ntmps70
    go_wp2_with fail
    go_ret
    exact ⟨_, rfl, row_nil _ _, Below.refl _ _⟩

set_option maxHeartbeats 800000 in
theorem contains_any (a : Option Addr) (len cap : Nat) (xs : List Int) (s : Int) (w : World) (h : Row w 1 a len cap (xs.map (Value.int .i64))) :
    Calls Tryd.prog 69 #[.slice a len cap, .int .i64 s] w fun e w' => e = .returned (.bool (decide (s ∈ xs))) ∧ w = w' := by
  by_cases hs : s ∈ xs
  · obtain ⟨i, hi, hf⟩ : ∃ i, xs[i]? = some s ∧ ∀ j, j < i → xs[j]? ≠ some s := by
      have hlt := List.idxOf_lt_length_iff.2 hs
      refine ⟨xs.idxOf s, by rw [List.getElem?_eq_getElem hlt, List.getElem_idxOf], fun j hj e => ?_⟩
      obtain ⟨hjl, he⟩ := List.getElem?_eq_some_iff.1 e
      have hq := List.not_of_lt_findIdx (xs := xs) (p := (· == s)) hj
      simp [he] at hq
    have HD := Lib.hid (show decide (s ∈ xs) = true from decide_eq_true hs)
    clear hs
    go_enter Tryd.func69, Tryd.ntmps69
    go_wp2_with fail
    refine (index_yes a len cap xs s w h i hi hf).mono ?_
    rintro e w1 ⟨rfl, rfl⟩
    clear hi hf
    go_wp2_with fail
    go_ret
    exact ⟨ret_bool HD.out.symm, rfl⟩
  · have HD := Lib.hid (show decide (s ∈ xs) = false from decide_eq_false hs)
    go_enter Tryd.func69, Tryd.ntmps69
    go_wp2_with fail
    refine (index_no a len cap xs s w h hs).mono ?_
    rintro e w1 ⟨rfl, rfl⟩
    go_wp2_with fail
    go_ret
    exact ⟨ret_bool HD.out.symm, rfl⟩

theorem out_bool {a b : Bool} (h : a = b) : Ending.returned (.bool a) = .returned (.bool b) := by rw [h]
/-- the block of a rate -/
def rtS (w : World) (n : Nat) (r : RT) (x : World) : Prop := x.cell? ⟨n, 0, none⟩ = some (.int .i64 r.m) ∧ x.cell? ⟨n, 1, none⟩ = some (.int .i64 r.c) ∧ x.cell? ⟨n, 2, none⟩ = some (.int .i64 r.s) ∧ x.cell? ⟨n, 3, none⟩ = some (.int .i64 r.w) ∧ x.cell? ⟨n, 4, none⟩ = some (.int .i64 r.g)
theorem rt_keep {w x y : World} {n : Nat} {r : RT} (h : x.cell? ⟨n, 0, none⟩ = some (.int .i64 r.m) ∧ x.cell? ⟨n, 1, none⟩ = some (.int .i64 r.c) ∧ x.cell? ⟨n, 2, none⟩ = some (.int .i64 r.s) ∧ x.cell? ⟨n, 3, none⟩ = some (.int .i64 r.w) ∧ x.cell? ⟨n, 4, none⟩ = some (.int .i64 r.g)) {B : Nat} (hb : Below B x y) (hn : n < B) :
    y.cell? ⟨n, 0, none⟩ = some (.int .i64 r.m) ∧ y.cell? ⟨n, 1, none⟩ = some (.int .i64 r.c) ∧ y.cell? ⟨n, 2, none⟩ = some (.int .i64 r.s) ∧ y.cell? ⟨n, 3, none⟩ = some (.int .i64 r.w) ∧ y.cell? ⟨n, 4, none⟩ = some (.int .i64 r.g) :=
  ⟨(hb.cell (p := ⟨n, 0, none⟩) hn).trans h.1, (hb.cell (p := ⟨n, 1, none⟩) hn).trans h.2.1, (hb.cell (p := ⟨n, 2, none⟩) hn).trans h.2.2.1, (hb.cell (p := ⟨n, 3, none⟩) hn).trans h.2.2.2.1, (hb.cell (p := ⟨n, 4, none⟩) hn).trans h.2.2.2.2⟩

set_option maxHeartbeats 3200000 in
theorem valid_any (r : RT) (w : World) : Calls Tryd.prog 52 #[.agg #[.int .i64 r.m, .int .i64 r.c, .int .i64 r.s, .int .i64 r.w, .int .i64 r.g]] w fun e w' => e = .returned (.bool (validP r)) ∧ Below w.heap.size w w' := by
  have HV := Lib.hid (show validP r = (decide (0 ≤ r.c) && decide (r.c ≤ (topsP r.m).1) && decide (1 ≤ r.s) && decide (r.s ≤ (topsP r.m).2.1) && decide (0 ≤ r.g) && decide (r.g ≤ (topsP r.m).2.2) && decide (r.w ∈ widthsP r.m)) from rfl)
  have hS : (w.alloc (.cells #[.int .i64 r.m, .int .i64 r.c, .int .i64 r.s, .int .i64 r.w, .int .i64 r.g] 28)).cell? ⟨w.heap.size, 0, none⟩ = some (.int .i64 r.m) ∧ (w.alloc (.cells #[.int .i64 r.m, .int .i64 r.c, .int .i64 r.s, .int .i64 r.w, .int .i64 r.g] 28)).cell? ⟨w.heap.size, 1, none⟩ = some (.int .i64 r.c) ∧ (w.alloc (.cells #[.int .i64 r.m, .int .i64 r.c, .int .i64 r.s, .int .i64 r.w, .int .i64 r.g] 28)).cell? ⟨w.heap.size, 2, none⟩ = some (.int .i64 r.s) ∧ (w.alloc (.cells #[.int .i64 r.m, .int .i64 r.c, .int .i64 r.s, .int .i64 r.w, .int .i64 r.g] 28)).cell? ⟨w.heap.size, 3, none⟩ = some (.int .i64 r.w) ∧ (w.alloc (.cells #[.int .i64 r.m, .int .i64 r.c, .int .i64 r.s, .int .i64 r.w, .int .i64 r.g] 28)).cell? ⟨w.heap.size, 4, none⟩ = some (.int .i64 r.g) :=
    ⟨(Blk.new w #[.int .i64 r.m, .int .i64 r.c, .int .i64 r.s, .int .i64 r.w, .int .i64 r.g] 28).cell 0, (Blk.new w #[.int .i64 r.m, .int .i64 r.c, .int .i64 r.s, .int .i64 r.w, .int .i64 r.g] 28).cell 1, (Blk.new w #[.int .i64 r.m, .int .i64 r.c, .int .i64 r.s, .int .i64 r.w, .int .i64 r.g] 28).cell 2, (Blk.new w #[.int .i64 r.m, .int .i64 r.c, .int .i64 r.s, .int .i64 r.w, .int .i64 r.g] 28).cell 3, (Blk.new w #[.int .i64 r.m, .int .i64 r.c, .int .i64 r.s, .int .i64 r.w, .int .i64 r.g] 28).cell 4⟩
  have HS := Lib.hid hS
  have b1 : Below w.heap.size w (w.alloc (.cells #[.int .i64 r.m, .int .i64 r.c, .int .i64 r.s, .int .i64 r.w, .int .i64 r.g] 28)) := (Below.refl _ _).alloc (Nat.le_refl _) _
  have B1 := Lib.hid b1
  clear hS b1
  go_enter Tryd.func52, Tryd.ntmps52
  go_wp2_with fail
  refine (tops_any r.m _).mono ?_
  rintro e w1 ⟨rfl, rfl⟩
  go_wp2_with fail
  obtain ⟨W, hW⟩ : ∃ W, W = w.alloc (.cells #[.int .i64 r.m, .int .i64 r.c, .int .i64 r.s, .int .i64 r.w, .int .i64 r.g] 28) := ⟨_, rfl⟩
  rw [← hW] at HS B1 ⊢
  have hlt : w.heap.size < W.heap.size := by rw [hW]; simp
  clear hW
  have zB := B1.out.size
  generalize (topsP r.m).1 = M at *
  generalize (topsP r.m).2.1 = T at *
  generalize (topsP r.m).2.2 = G at *
  obtain ⟨e0, e1, e2, e3, e4⟩ := HS.out
  by_cases p0 : 0 ≤ r.c
  case neg =>
    have d0 : decide (0 ≤ r.c) = false := decide_eq_false p0
    go_quiet (fail)
    go_wp2_with fail
    go_ret
    exact ⟨out_bool (by rw [HV.out]; simp only [d0, Bool.false_and, Bool.true_and]), B1.out.trans (below_drewN _)⟩
  case pos =>
  have d0 : decide (0 ≤ r.c) = true := decide_eq_true p0
  by_cases p1 : r.c ≤ M
  case neg =>
    have d1 : decide (r.c ≤ M) = false := decide_eq_false p1
    go_quiet (fail)
    go_wp2_with fail
    go_ret
    exact ⟨out_bool (by rw [HV.out]; simp only [d0, d1, Bool.false_and, Bool.true_and]), B1.out.trans (below_drewN _)⟩
  case pos =>
  have d1 : decide (r.c ≤ M) = true := decide_eq_true p1
  by_cases p2 : 1 ≤ r.s
  case neg =>
    have d2 : decide (1 ≤ r.s) = false := decide_eq_false p2
    go_quiet (fail)
    go_wp2_with fail
    go_ret
    exact ⟨out_bool (by rw [HV.out]; simp only [d0, d1, d2, Bool.false_and, Bool.true_and]), B1.out.trans (below_drewN _)⟩
  case pos =>
  have d2 : decide (1 ≤ r.s) = true := decide_eq_true p2
  by_cases p3 : r.s ≤ T
  case neg =>
    have d3 : decide (r.s ≤ T) = false := decide_eq_false p3
    go_quiet (fail)
    go_wp2_with fail
    go_ret
    exact ⟨out_bool (by rw [HV.out]; simp only [d0, d1, d2, d3, Bool.false_and, Bool.true_and]), B1.out.trans (below_drewN _)⟩
  case pos =>
  have d3 : decide (r.s ≤ T) = true := decide_eq_true p3
  by_cases p4 : 0 ≤ r.g
  case neg =>
    have d4 : decide (0 ≤ r.g) = false := decide_eq_false p4
    go_quiet (fail)
    go_wp2_with fail
    go_ret
    exact ⟨out_bool (by rw [HV.out]; simp only [d0, d1, d2, d3, d4, Bool.false_and, Bool.true_and]), B1.out.trans (below_drewN _)⟩
  case pos =>
  have d4 : decide (0 ≤ r.g) = true := decide_eq_true p4
  by_cases p5 : r.g ≤ G
  case neg =>
    have d5 : decide (r.g ≤ G) = false := decide_eq_false p5
    go_quiet (fail)
    go_wp2_with fail
    go_ret
    exact ⟨out_bool (by rw [HV.out]; simp only [d0, d1, d2, d3, d4, d5, Bool.false_and, Bool.true_and]), B1.out.trans (below_drewN _)⟩
  case pos =>
  have d5 : decide (r.g ≤ G) = true := decide_eq_true p5
  go_region_held3 (fun y => y.cell? ⟨w.heap.size, 0, none⟩ = some (.int .i64 r.m) ∧ y.cell? ⟨w.heap.size, 1, none⟩ = some (.int .i64 r.c) ∧ y.cell? ⟨w.heap.size, 2, none⟩ = some (.int .i64 r.s) ∧ y.cell? ⟨w.heap.size, 3, none⟩ = some (.int .i64 r.w) ∧ y.cell? ⟨w.heap.size, 4, none⟩ = some (.int .i64 r.g))
    (first | exact ⟨e0, e1, e2, e3, e4⟩ | exact ⟨(bw.cell (p := ⟨w.heap.size, 0, none⟩) hlt).trans e0, (bw.cell (p := ⟨w.heap.size, 1, none⟩) hlt).trans e1, (bw.cell (p := ⟨w.heap.size, 2, none⟩) hlt).trans e2, (bw.cell (p := ⟨w.heap.size, 3, none⟩) hlt).trans e3, (bw.cell (p := ⟨w.heap.size, 4, none⟩) hlt).trans e4⟩)
    (first
      | (go_at_call 70; refine (widths_any r.m W.drew).mono ?_; rintro e wa ⟨Aw, rfl, rw_, bw⟩)
      | (go_at_call 69; refine (contains_any Aw _ _ _ r.w wa rw_).mono ?_; rintro e wb ⟨rfl, rfl⟩))
  go_wp2_with fail
  go_ret
  exact ⟨out_bool (by rw [HV.out]; simp only [d0, d1, d2, d3, d4, d5, Bool.true_and]), B1.out.trans ((Below.drew (Below.refl _ W)).trans bw |>.mono zB)⟩
end Go.Proofs.YtoagmehgiaamlaaDoor
