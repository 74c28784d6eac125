/-
  AirSays: the walk.
-/
import Derived.Test.YticgdoeamabklaaAirFirst
import Derived.Test.YticgdoeamabklaaRefAirMore
namespace Go.Proofs.Yticgdoeamabklaa
open Go.ChangeShapes Go.WideShapes Go.ChangeAt Go.RowKit
set_option linter.unusedVariables false

set_option maxHeartbeats 4000000 in
theorem airSays_walk (w : World) (r : RT) (hs : (Lit.int .i64 r.s).wf = true) (n : Int) (hn : (Lit.int .i64 n).wf = true) (t : Int) (ht : (Lit.int .i64 t).wf = true) :
    Calls Try.prog 4 #[.agg #[.int .i64 r.m, .int .i64 r.c, .int .i64 r.s, .int .i64 r.w, .int .i64 r.g], .int .i64 n, .int .i64 t] w fun e w' => e = .returned (.bool true) ∧ Below w.heap.size w w' := by
  obtain ⟨s0, s1⟩ := bounds_i64 hs
  obtain ⟨n0, n1⟩ := bounds_i64 hn
  obtain ⟨t0, t1⟩ := bounds_i64 ht
  clear hs hn ht
  have HB := Lib.hid (RtB.new w r)
  have B1 := Lib.hid (show Below w.heap.size w (w.alloc (.cells #[.int .i64 r.m, .int .i64 r.c, .int .i64 r.s, .int .i64 r.w, .int .i64 r.g] 26)) from (Below.refl _ _).alloc (Nat.le_refl _) _)
  have C1 := Lib.hid (fun w => ppdu_any r n w n0 n1)
  have C2 := Lib.hid (fun w => rppdu_any r n w s0 s1 n0 n1)
  have C3 := Lib.hid (fun w => answer_any w)
  have C4 := Lib.hid (fun w => ranswer_any w)
  have C5 := Lib.hid (fun w => total_any r n w n0 n1)
  have C6 := Lib.hid (fun w => rtotal_any r n w s0 s1 n0 n1)
  have C7 := Lib.hid (fun w => most_any r t w t0 t1)
  have C8 := Lib.hid (fun w => rmost_any r t w s0 s1 t0 t1)
  clear s0 s1 n0 n1 t0 t1
  go_enter Try.func4, Try.ntmps4
  go_wp2_with fail
  refine (afirst_any _).mono ?_
  rintro e w1 ⟨rfl, hb1⟩
  have HB1 := Lib.hid (HB.out.below hb1 (Nat.le_refl _))
  have B2 := Lib.hid (B1.out.trans (hb1.mono B1.out.size))
  clear hb1 HB B1
  go_wp2_with fail
  generalize ppP r n = X1 at *
  generalize totP r n = X2 at *
  generalize mostP r t = X3 at *
  have d1 : (X1 == X1) = true := by simp
  have d2 : (X2 == X2) = true := by simp
  have d3 : (X3 == X3) = true := by simp
  obtain ⟨e0, e1, e2, e3, e4⟩ := HB1.out.cells
  have za := HB1.out.lt
  have c0 : w1.drew.cell? ⟨w.heap.size, 0, none⟩ = some (.int .i64 r.m) ∧ w1.drew.cell? ⟨w.heap.size, 1, none⟩ = some (.int .i64 r.c) ∧ w1.drew.cell? ⟨w.heap.size, 2, none⟩ = some (.int .i64 r.s) ∧ w1.drew.cell? ⟨w.heap.size, 3, none⟩ = some (.int .i64 r.w) ∧ w1.drew.cell? ⟨w.heap.size, 4, none⟩ = some (.int .i64 r.g) := ⟨e0, e1, e2, e3, e4⟩
  have L0 : w.heap.size < w1.drew.heap.size := za
  have H0 := Lib.hid (show Below w.heap.size w w1.drew from B2.out.trans (Below.drew (Below.refl _ _)))
  go_region_held3 (fun y => y.cell? ⟨w.heap.size, 0, none⟩ = some (.int .i64 r.m) ∧ y.cell? ⟨w.heap.size, 1, none⟩ = some (.int .i64 r.c) ∧ y.cell? ⟨w.heap.size, 2, none⟩ = some (.int .i64 r.s) ∧ y.cell? ⟨w.heap.size, 3, none⟩ = some (.int .i64 r.w) ∧ y.cell? ⟨w.heap.size, 4, none⟩ = some (.int .i64 r.g))
    (first | exact c0 | exact c1 | exact c2 | exact c3 | exact c4 | exact c5 | exact c6 | exact c7 | exact c8)
    (first
      | (go_at_call 10; (with_reducible refine (C1.out _).mono ?_); rintro e x1 ⟨rfl, b1⟩; have c1 := rk (r := r) c0 b1 L0; have L1 := Nat.lt_of_lt_of_le L0 b1.size; have H1 := Lib.hid (H0.out.trans (b1.mono H0.out.size)); clear b1)
      | (go_at_call 12; (with_reducible refine (C2.out _).mono ?_); rintro e x2 ⟨rfl, b2⟩; have c2 := rk (r := r) c1 b2 L1; have L2 := Nat.lt_of_lt_of_le L1 b2.size; have H2 := Lib.hid (H1.out.trans (b2.mono H1.out.size)); clear b2)
      | (go_at_call 13; (with_reducible refine (C3.out _).mono ?_); rintro e x3 ⟨rfl, b3⟩; have c3 := rk (r := r) c2 b3 L2; have L3 := Nat.lt_of_lt_of_le L2 b3.size; have H3 := Lib.hid (H2.out.trans (b3.mono H2.out.size)); clear b3)
      | (go_at_call 14; (with_reducible refine (C4.out _).mono ?_); rintro e x4 ⟨rfl, b4⟩; have c4 := rk (r := r) c3 b4 L3; have L4 := Nat.lt_of_lt_of_le L3 b4.size; have H4 := Lib.hid (H3.out.trans (b4.mono H3.out.size)); clear b4)
      | (go_at_call 15; (with_reducible refine (C5.out _).mono ?_); rintro e x5 ⟨rfl, b5⟩; have c5 := rk (r := r) c4 b5 L4; have L5 := Nat.lt_of_lt_of_le L4 b5.size; have H5 := Lib.hid (H4.out.trans (b5.mono H4.out.size)); clear b5)
      | (go_at_call 16; (with_reducible refine (C6.out _).mono ?_); rintro e x6 ⟨rfl, b6⟩; have c6 := rk (r := r) c5 b6 L5; have L6 := Nat.lt_of_lt_of_le L5 b6.size; have H6 := Lib.hid (H5.out.trans (b6.mono H5.out.size)); clear b6)
      | (go_at_call 11; (with_reducible refine (C7.out _).mono ?_); rintro e x7 ⟨rfl, b7⟩; have c7 := rk (r := r) c6 b7 L6; have L7 := Nat.lt_of_lt_of_le L6 b7.size; have H7 := Lib.hid (H6.out.trans (b7.mono H6.out.size)); clear b7)
      | (go_at_call 17; (with_reducible refine (C8.out _).mono ?_); rintro e x8 ⟨rfl, b8⟩; have c8 := rk (r := r) c7 b8 L7; have L8 := Nat.lt_of_lt_of_le L7 b8.size; have H8 := Lib.hid (H7.out.trans (b8.mono H7.out.size)); clear b8))
  go_wp2_with fail
  go_ret
  exact ⟨rfl, H8.out⟩
end Go.Proofs.Yticgdoeamabklaa
