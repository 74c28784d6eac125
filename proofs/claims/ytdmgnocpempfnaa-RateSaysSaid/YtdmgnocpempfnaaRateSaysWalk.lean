/-
  RateSays: the walk.
-/
import Derived.Test.YtdmgnocpempfnaaSameRates
import Derived.Test.YtdmgnocpempfnaaRefRateMore
import Derived.Test.YtdmgnocpempfnaaRefRateSym
namespace Go.Proofs.Ytdmgnocpempfnaa
open Go.ChangeShapes Go.WideShapes Go.ChangeAt Go.RowKit
set_option linter.unusedVariables false

theorem rk {x y : World} {n B : Nat} {r : RT} (h : x.cell? ⟨n, 0, none⟩ = some (.int .i64 r.m) ∧ x.cell? ⟨n, 1, none⟩ = some (.int .i64 r.c) ∧ x.cell? ⟨n, 2, none⟩ = some (.int .i64 r.s) ∧ x.cell? ⟨n, 3, none⟩ = some (.int .i64 r.w) ∧ x.cell? ⟨n, 4, none⟩ = some (.int .i64 r.g)) (hb : Below B x y) (hn : n < B) :
    y.cell? ⟨n, 0, none⟩ = some (.int .i64 r.m) ∧ y.cell? ⟨n, 1, none⟩ = some (.int .i64 r.c) ∧ y.cell? ⟨n, 2, none⟩ = some (.int .i64 r.s) ∧ y.cell? ⟨n, 3, none⟩ = some (.int .i64 r.w) ∧ y.cell? ⟨n, 4, none⟩ = some (.int .i64 r.g) := rt_keep (w := x) h hb hn

set_option maxHeartbeats 4000000 in
theorem rateSays_walk (w : World) (r : RT) (hs : (Lit.int .i64 r.s).wf = true) (mode : Int) (hmode : (Lit.int .i64 mode).wf = true) :
    Calls Try.prog 5 #[.agg #[.int .i64 r.m, .int .i64 r.c, .int .i64 r.s, .int .i64 r.w, .int .i64 r.g], .int .i64 mode] w fun e w' => e = .returned (.bool true) ∧ Below w.heap.size w w' := by
  obtain ⟨s0, s1⟩ := bounds_i64 hs
  have HB := Lib.hid (Blk.new w #[.int .i64 r.m, .int .i64 r.c, .int .i64 r.s, .int .i64 r.w, .int .i64 r.g] 27)
  have B1 := Lib.hid (show Below w.heap.size w (w.alloc (.cells #[.int .i64 r.m, .int .i64 r.c, .int .i64 r.s, .int .i64 r.w, .int .i64 r.g] 27)) from (Below.refl _ _).alloc (Nat.le_refl _) _)
  have hlt1 : w.heap.size < (w.alloc (.cells #[.int .i64 r.m, .int .i64 r.c, .int .i64 r.s, .int .i64 r.w, .int .i64 r.g] 27)).heap.size := by simp
  clear hs hmode
  have C1 := Lib.hid (fun w => valid_any r w)
  have C2 := Lib.hid (fun w => rvalid_any r w s0 s1)
  have C3 := Lib.hid (fun w => bits_any r w)
  have C4 := Lib.hid (fun w => rbits_any r w s0 s1)
  have C5 := Lib.hid (fun w => symbol_any r w)
  have C6 := Lib.hid (fun w => rsymbol_any r w s0 s1)
  have C7 := Lib.hid (fun w => preamble_any r w)
  have C8 := Lib.hid (fun w => rpreamble_any r w s0 s1)
  clear s0 s1
  go_enter Try.func5, Try.ntmps5
  go_wp2_with fail
  refine (rfirst_any _).mono ?_
  rintro e w1 ⟨rfl, hb1⟩
  have HB1 := Lib.hid (HB.out.below hb1 hlt1)
  have B2 := Lib.hid (B1.out.trans (hb1.mono (Nat.le_of_lt hlt1)))
  clear hb1 hlt1 HB B1
  go_wp2_with fail
  generalize validP r = b at *
  generalize bitsP r = n1 at *
  generalize symP r = n2 at *
  generalize preP r = n3 at *
  have zB := B2.out.size
  have hltw := HB1.out.lt
  obtain ⟨e0, e1, e2, e3, e4⟩ : w1.cell? ⟨w.heap.size, 0, none⟩ = some (.int .i64 r.m) ∧ w1.cell? ⟨w.heap.size, 1, none⟩ = some (.int .i64 r.c) ∧ w1.cell? ⟨w.heap.size, 2, none⟩ = some (.int .i64 r.s) ∧ w1.cell? ⟨w.heap.size, 3, none⟩ = some (.int .i64 r.w) ∧ w1.cell? ⟨w.heap.size, 4, none⟩ = some (.int .i64 r.g) :=
    ⟨HB1.out.cell 0, HB1.out.cell 1, HB1.out.cell 2, HB1.out.cell 3, HB1.out.cell 4⟩
  have d0 : (b == b) = true := by simp
  have d1 : (n1 == n1) = true := by simp
  have d2 : (n2 == n2) = true := by simp
  have d3 : (n3 == n3) = true := by simp
  have c0 : w1.drew.cell? ⟨w.heap.size, 0, none⟩ = some (.int .i64 r.m) ∧ w1.drew.cell? ⟨w.heap.size, 1, none⟩ = some (.int .i64 r.c) ∧ w1.drew.cell? ⟨w.heap.size, 2, none⟩ = some (.int .i64 r.s) ∧ w1.drew.cell? ⟨w.heap.size, 3, none⟩ = some (.int .i64 r.w) ∧ w1.drew.cell? ⟨w.heap.size, 4, none⟩ = some (.int .i64 r.g) := ⟨e0, e1, e2, e3, e4⟩
  have H0 := Lib.hid (show Below w.heap.size w w1.drew from B2.out.trans (Below.drew (Below.refl _ _)))
  have L0 : w.heap.size < w1.drew.heap.size := hltw
  clear B2 HB1
  go_region_held3 (fun y => y.cell? ⟨w.heap.size, 0, none⟩ = some (.int .i64 r.m) ∧ y.cell? ⟨w.heap.size, 1, none⟩ = some (.int .i64 r.c) ∧ y.cell? ⟨w.heap.size, 2, none⟩ = some (.int .i64 r.s) ∧ y.cell? ⟨w.heap.size, 3, none⟩ = some (.int .i64 r.w) ∧ y.cell? ⟨w.heap.size, 4, none⟩ = some (.int .i64 r.g))
    (first | exact ⟨e0, e1, e2, e3, e4⟩ | exact c0 | exact c1 | exact c2 | exact c3 | exact c4 | exact c5 | exact c6 | exact c7 | exact c8 | exact c9 | exact c10 | exact c11)
    (first
      | (go_at_call 9; refine (C1.out _).mono ?_; rintro e x1 ⟨rfl, b1⟩; have c1 := rk c0 b1 L0; have L1 := Nat.lt_of_lt_of_le L0 b1.size; have H1 := Lib.hid (H0.out.trans (b1.mono H0.out.size)); clear b1)
      | (go_at_call 15; refine (C2.out _).mono ?_; rintro e x2 ⟨rfl, b2⟩; have c2 := rk c1 b2 L1; have L2 := Nat.lt_of_lt_of_le L1 b2.size; have H2 := Lib.hid (H1.out.trans (b2.mono H1.out.size)); clear b2)
      | (go_at_call 13; refine (C3.out _).mono ?_; rintro e x3 ⟨rfl, b3⟩; have c3 := rk c2 b3 L2; have L3 := Nat.lt_of_lt_of_le L2 b3.size; have H3 := Lib.hid (H2.out.trans (b3.mono H2.out.size)); clear b3)
      | (go_at_call 16; refine (C4.out _).mono ?_; rintro e x4 ⟨rfl, b4⟩; have c4 := rk c3 b4 L3; have L4 := Nat.lt_of_lt_of_le L3 b4.size; have H4 := Lib.hid (H3.out.trans (b4.mono H3.out.size)); clear b4)
      | (go_at_call 12; refine (C5.out _).mono ?_; rintro e x5 ⟨rfl, b5⟩; have c5 := rk c4 b5 L4; have L5 := Nat.lt_of_lt_of_le L4 b5.size; have H5 := Lib.hid (H4.out.trans (b5.mono H4.out.size)); clear b5)
      | (go_at_call 17; refine (C6.out _).mono ?_; rintro e x6 ⟨rfl, b6⟩; have c6 := rk c5 b6 L5; have L6 := Nat.lt_of_lt_of_le L5 b6.size; have H6 := Lib.hid (H5.out.trans (b6.mono H5.out.size)); clear b6)
      | (go_at_call 14; refine (C7.out _).mono ?_; rintro e x7 ⟨rfl, b7⟩; have c7 := rk c6 b7 L6; have L7 := Nat.lt_of_lt_of_le L6 b7.size; have H7 := Lib.hid (H6.out.trans (b7.mono H6.out.size)); clear b7)
      | (go_at_call 18; refine (C8.out _).mono ?_; rintro e x8 ⟨rfl, b8⟩; have c8 := rk c7 b8 L7; have L8 := Nat.lt_of_lt_of_le L7 b8.size; have H8 := Lib.hid (H7.out.trans (b8.mono H7.out.size)); clear b8)
      | (go_at_call 8; refine (all_any mode _).mono ?_; rintro e x9 ⟨v9, rfl, o9, b9⟩; obtain ⟨A9, n9, C9, rfl, r9⟩ := o9.row; have c9 := rk c8 b9 L8; have L9 := Nat.lt_of_lt_of_le L8 b9.size; have H9 := Lib.hid (H8.out.trans (b9.mono H8.out.size)); have R9 := Lib.hid r9; clear b9 o9 r9)
      | (go_at_call 20; refine (rall_any mode _).mono ?_; rintro e x10 ⟨v10, rfl, o10, b10⟩; obtain ⟨A10, n10, C10, rfl, r10⟩ := o10.row; obtain rfl : n10 = n9 := r10.1.trans R9.out.1.symm; have c10 := rk c9 b10 L9; have L10 := Nat.lt_of_lt_of_le L9 b10.size; have H10 := Lib.hid (H9.out.trans (b10.mono H9.out.size)); have R10 := Lib.hid r10; have R11 := Lib.hid (R9.out.below b10 (Nat.le_refl _)); clear b10 o10 r10)
      | (go_at_call 19; refine (sameRates_yes _ _ _ _ _ _ _ R11.out R10.out).mono ?_; rintro e x11 ⟨rfl, b11⟩; have c11 := rk c10 b11 L10; have H11 := Lib.hid (H10.out.trans (b11.mono H10.out.size)); clear b11))
  go_wp2_with fail
  go_ret
  exact ⟨rfl, H11.out⟩
end Go.Proofs.Ytdmgnocpempfnaa
