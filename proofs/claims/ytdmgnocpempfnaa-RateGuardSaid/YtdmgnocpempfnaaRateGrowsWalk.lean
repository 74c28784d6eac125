/-
  RateGrows: the walk.
-/
import Derived.Test.YtdmgnocpempfnaaSameRates
import Derived.Test.YtdmgnocpempfnaaNumber
namespace Go.Proofs.Ytdmgnocpempfnaa
open Go.ChangeShapes Go.WideShapes Go.ChangeAt Go.RowKit
set_option linter.unusedVariables false

/-- a block that holds a rate -/
def RtB (w : World) (n : Nat) (r : RT) : Prop := Blk w n #[.int .i64 r.m, .int .i64 r.c, .int .i64 r.s, .int .i64 r.w, .int .i64 r.g] 27
theorem RtB.cells {w : World} {n : Nat} {r : RT} (h : RtB w n r) : w.cell? ⟨n, 0, none⟩ = some (.int .i64 r.m) ∧ w.cell? ⟨n, 1, none⟩ = some (.int .i64 r.c) ∧ w.cell? ⟨n, 2, none⟩ = some (.int .i64 r.s) ∧ w.cell? ⟨n, 3, none⟩ = some (.int .i64 r.w) ∧ w.cell? ⟨n, 4, none⟩ = some (.int .i64 r.g) :=
  ⟨Blk.cell h 0, Blk.cell h 1, Blk.cell h 2, Blk.cell h 3, Blk.cell h 4⟩
theorem RtB.below {w w' : World} {n : Nat} {r : RT} (h : RtB w n r) {B : Nat} (hb : Below B w w') (hB : w.heap.size ≤ B) : RtB w' n r := Blk.below h hb (Nat.lt_of_lt_of_le (Blk.lt h) hB)

theorem rk2 {x y : World} {n k B : Nat} {a b : RT} (h : x.cell? ⟨n, 0, none⟩ = some (.int .i64 a.m) ∧ x.cell? ⟨n, 1, none⟩ = some (.int .i64 a.c) ∧ x.cell? ⟨n, 2, none⟩ = some (.int .i64 a.s) ∧ x.cell? ⟨n, 3, none⟩ = some (.int .i64 a.w) ∧ x.cell? ⟨n, 4, none⟩ = some (.int .i64 a.g) ∧ x.cell? ⟨k, 0, none⟩ = some (.int .i64 b.m) ∧ x.cell? ⟨k, 1, none⟩ = some (.int .i64 b.c) ∧ x.cell? ⟨k, 2, none⟩ = some (.int .i64 b.s) ∧ x.cell? ⟨k, 3, none⟩ = some (.int .i64 b.w) ∧ x.cell? ⟨k, 4, none⟩ = some (.int .i64 b.g)) (hb : Below B x y) (hn : n < B) (hk : k < B) :
    y.cell? ⟨n, 0, none⟩ = some (.int .i64 a.m) ∧ y.cell? ⟨n, 1, none⟩ = some (.int .i64 a.c) ∧ y.cell? ⟨n, 2, none⟩ = some (.int .i64 a.s) ∧ y.cell? ⟨n, 3, none⟩ = some (.int .i64 a.w) ∧ y.cell? ⟨n, 4, none⟩ = some (.int .i64 a.g) ∧ y.cell? ⟨k, 0, none⟩ = some (.int .i64 b.m) ∧ y.cell? ⟨k, 1, none⟩ = some (.int .i64 b.c) ∧ y.cell? ⟨k, 2, none⟩ = some (.int .i64 b.s) ∧ y.cell? ⟨k, 3, none⟩ = some (.int .i64 b.w) ∧ y.cell? ⟨k, 4, none⟩ = some (.int .i64 b.g) := by
  obtain ⟨e0, e1, e2, e3, e4, f0, f1, f2, f3, f4⟩ := h
  exact ⟨(hb.cell (p := ⟨n, 0, none⟩) hn).trans e0, (hb.cell (p := ⟨n, 1, none⟩) hn).trans e1, (hb.cell (p := ⟨n, 2, none⟩) hn).trans e2, (hb.cell (p := ⟨n, 3, none⟩) hn).trans e3, (hb.cell (p := ⟨n, 4, none⟩) hn).trans e4, (hb.cell (p := ⟨k, 0, none⟩) hk).trans f0, (hb.cell (p := ⟨k, 1, none⟩) hk).trans f1, (hb.cell (p := ⟨k, 2, none⟩) hk).trans f2, (hb.cell (p := ⟨k, 3, none⟩) hk).trans f3, (hb.cell (p := ⟨k, 4, none⟩) hk).trans f4⟩

set_option maxHeartbeats 4000000 in
theorem rateGrows_walk (w : World) (mode : Int) (hmode : (Lit.int .i64 mode).wf = true) (i : Int) (hi : (Lit.int .i64 i).wf = true) (k : Int) (hk : (Lit.int .i64 k).wf = true) :
    Calls Try.prog 6 #[.int .i64 mode, .int .i64 i, .int .i64 k] w fun e w' => e = .returned (.bool true) ∧ Below w.heap.size w w' := by
  obtain ⟨m0, m1⟩ := bounds_i64 hmode
  obtain ⟨i0, i1⟩ := bounds_i64 hi
  obtain ⟨k0, k1⟩ := bounds_i64 hk
  obtain ⟨M, hM, eM'⟩ := number_nat mode 4 (by omega)
  have eM : mode % 4 = (M : Int) := eM'
  clear hmode hi hk eM'
  go_enter Try.func6, Try.ntmps6
  go_wp2_with fail
  refine (rfirst_any _).mono ?_
  rintro e w1 ⟨rfl, hb1⟩
  have z1 := hb1.size
  have B1 := Lib.hid hb1
  clear hb1
  go_wp2_with fail
  refine (number_any mode 4 _ (by omega) (by omega) m0 m1).mono ?_
  rintro e w2 ⟨rfl, rfl⟩
  rw [eM]
  clear eM m0 m1
  go_wp2_with fail
  refine (all_any ((M : Int) + 1) _).mono ?_
  rintro e w2 ⟨v, rfl, ho, hb2⟩
  obtain ⟨A, n, C, rfl, hr⟩ := ho.row
  have HB2 := Lib.hid (B1.out.trans (hb2.mono z1))
  obtain ⟨hp1, hp2⟩ := all_pos (m := (M : Int) + 1) (by omega) (by omega)
  have hn8 : 8 ≤ n := by rw [hr.1]; exact hp1
  have hn9 : n ≤ 1152 := by rw [hr.1]; exact hp2
  have HR := Lib.hid hr
  clear hb2 ho hr hp1 hp2 B1 z1
  have z2 := HB2.out.size
  obtain ⟨x, hx, ex⟩ := number_nat i n (by omega)
  obtain ⟨y, hy, ey⟩ := number_nat k n (by omega)
  obtain ⟨a, ha⟩ : ∃ a, (allP ((M : Int) + 1))[x]? = some a := ⟨_, List.getElem?_eq_getElem (by rw [← HR.out.1]; exact hx)⟩
  obtain ⟨b, hb⟩ : ∃ b, (allP ((M : Int) + 1))[y]? = some b := ⟨_, List.getElem?_eq_getElem (by rw [← HR.out.1]; exact hy)⟩
  obtain ⟨am, av⟩ := all_mem (List.mem_of_getElem? ha)
  obtain ⟨bm, bv⟩ := all_mem (List.mem_of_getElem? hb)
  obtain ⟨b1, o1, rfl, l1, e0, e1, e2, e3, e4⟩ := HR.out.at_ ha
  obtain ⟨b2, o2, hbo, l2, f0, f1, f2, f3, f4⟩ := HR.out.at_ hb
  obtain ⟨rfl, rfl⟩ : b1 = b2 ∧ o1 = o2 := by injection hbo with h; injection h with h1 h2; exact ⟨h1, h2⟩
  have HAV := Lib.hid av
  have HBV := Lib.hid bv
  have HAM := Lib.hid (am.trans bm.symm)
  clear ha hb am bm av bv hbo l2
  go_wp2_with fail
  refine (number_any i n _ (by omega) (by omega) i0 i1).mono ?_
  rintro e w3 ⟨rfl, rfl⟩
  rw [ex]
  clear ex i0 i1
  go_wp2_with fail
  refine (number_any k n _ (by omega) (by omega) k0 k1).mono ?_
  rintro e w3 ⟨rfl, rfl⟩
  rw [ey]
  clear ey k0 k1
  have HA := Lib.hid (show RtB ((w2.alloc (.cells #[.int .i64 a.m, .int .i64 a.c, .int .i64 a.s, .int .i64 a.w, .int .i64 a.g] 27)).alloc (.cells #[.int .i64 b.m, .int .i64 b.c, .int .i64 b.s, .int .i64 b.w, .int .i64 b.g] 27)) w2.heap.size a from (Blk.new w2 _ _).alloc _)
  have HB := Lib.hid (show RtB ((w2.alloc (.cells #[.int .i64 a.m, .int .i64 a.c, .int .i64 a.s, .int .i64 a.w, .int .i64 a.g] 27)).alloc (.cells #[.int .i64 b.m, .int .i64 b.c, .int .i64 b.s, .int .i64 b.w, .int .i64 b.g] 27)) (w2.heap.size + 1) b from by have := Blk.new (w2.alloc (.cells #[.int .i64 a.m, .int .i64 a.c, .int .i64 a.s, .int .i64 a.w, .int .i64 a.g] 27)) #[.int .i64 b.m, .int .i64 b.c, .int .i64 b.s, .int .i64 b.w, .int .i64 b.g] 27; rw [show (w2.alloc (.cells #[.int .i64 a.m, .int .i64 a.c, .int .i64 a.s, .int .i64 a.w, .int .i64 a.g] 27)).heap.size = w2.heap.size + 1 by simp] at this; exact this)
  have BB := Lib.hid (show Below w.heap.size w ((w2.alloc (.cells #[.int .i64 a.m, .int .i64 a.c, .int .i64 a.s, .int .i64 a.w, .int .i64 a.g] 27)).alloc (.cells #[.int .i64 b.m, .int .i64 b.c, .int .i64 b.s, .int .i64 b.w, .int .i64 b.g] 27)) from (HB2.out.alloc z2 _).alloc (by simp; omega) _)
  clear HB2
  have CV := Lib.hid (fun w => valid_any a w)
  rw [HAV.out] at CV
  have G := Lib.hid (bits_bounds HAV.out)
  have G2 := Lib.hid (sym_bounds HAV.out)
  have G3 := Lib.hid (pre_bounds HAV.out)
  go_wp2_with fail
  clear e0 e1 e2 e3 e4 f0 f1 f2 f3 f4
  refine (CV.out _).mono ?_
  rintro e w5 ⟨rfl, bb⟩
  have HA0 := Lib.hid (HA.out.below bb (Nat.le_refl _))
  have HB0 := Lib.hid (HB.out.below bb (Nat.le_refl _))
  have BB0 := Lib.hid (BB.out.trans (bb.mono BB.out.size))
  clear bb HA HB BB
  obtain ⟨e0, e1, e2, e3, e4⟩ := HA0.out.cells
  go_wp2_with fail
  clear e0 e1 e2 e3 e4
  refine (bits_any a _).mono ?_
  rintro e w6 ⟨rfl, bb⟩
  have HA1 := Lib.hid (HA0.out.below bb (Nat.le_refl _))
  have HB1 := Lib.hid (HB0.out.below bb (Nat.le_refl _))
  have BB1 := Lib.hid (BB0.out.trans (bb.mono BB0.out.size))
  clear bb HA0 HB0 BB0
  obtain ⟨e0, e1, e2, e3, e4⟩ := HA1.out.cells
  obtain ⟨g0, g1⟩ := G.out
  go_wp2_with fail
  clear e0 e1 e2 e3 e4
  refine (symbol_any a _).mono ?_
  rintro e w7 ⟨rfl, bb⟩
  have HA2 := Lib.hid (HA1.out.below bb (Nat.le_refl _))
  have HB2 := Lib.hid (HB1.out.below bb (Nat.le_refl _))
  have BB2 := Lib.hid (BB1.out.trans (bb.mono BB1.out.size))
  clear bb HA1 HB1 BB1
  obtain ⟨e0, e1, e2, e3, e4⟩ := HA2.out.cells
  obtain ⟨g2, g3⟩ := G2.out
  go_wp2_with fail
  clear e0 e1 e2 e3 e4
  refine (preamble_any a _).mono ?_
  rintro e w8 ⟨rfl, bb⟩
  have HA3 := Lib.hid (HA2.out.below bb (Nat.le_refl _))
  have HB3 := Lib.hid (HB2.out.below bb (Nat.le_refl _))
  have BB3 := Lib.hid (BB2.out.trans (bb.mono BB2.out.size))
  clear bb HA2 HB2 BB2
  obtain ⟨e0, e1, e2, e3, e4⟩ := HA3.out.cells
  obtain ⟨g4, g5⟩ := G3.out
  obtain ⟨f0, f1, f2, f3, f4⟩ := HB3.out.cells
  have la := HA3.out
  have lb := HB3.out
  have za := Blk.lt la
  have zb := Blk.lt lb
  clear la lb
  by_cases c1 : a.c ≤ b.c
  case neg =>
    go_wp2_with fail
    go_ret
    exact ⟨rfl, BB3.out⟩
  case pos =>
  by_cases c2 : a.s ≤ b.s
  case neg =>
    have d2 : decide (a.s ≤ b.s) = false := decide_eq_false c2
    go_wp2_with fail
    go_ret
    exact ⟨rfl, BB3.out⟩
  case pos =>
  by_cases c3 : a.w ≤ b.w
  case neg =>
    have d3 : decide (a.w ≤ b.w) = false := decide_eq_false c3
    go_wp2_with fail
    go_ret
    exact ⟨rfl, BB3.out⟩
  case pos =>
  have hbm := bits_mono HAV.out HBV.out HAM.out c1 c2 c3
  have hpm := pre_mono HAV.out HBV.out HAM.out c2
  have CA := Lib.hid (fun w => bits_any a w)
  have CB := Lib.hid (fun w => bits_any b w)
  have CP := Lib.hid (fun w => preamble_any a w)
  have CQ := Lib.hid (fun w => preamble_any b w)
  generalize bitsP a = n1 at *
  generalize bitsP b = n2 at *
  generalize preP a = n3 at *
  generalize preP b = n4 at *
  go_wp2_with fail
  have d1 : decide (n1 ≤ n2) = true := decide_eq_true hbm
  have d2 : decide (b.s < a.s) = false := decide_eq_false (by omega)
  have d3 : decide (n3 ≤ n4) = true := decide_eq_true hpm
  clear c1 c2 c3 g0 g1 g4 g5 hbm hpm
  have c0 : w8.drew.cell? ⟨w2.heap.size, 0, none⟩ = some (.int .i64 a.m) ∧ w8.drew.cell? ⟨w2.heap.size, 1, none⟩ = some (.int .i64 a.c) ∧ w8.drew.cell? ⟨w2.heap.size, 2, none⟩ = some (.int .i64 a.s) ∧ w8.drew.cell? ⟨w2.heap.size, 3, none⟩ = some (.int .i64 a.w) ∧ w8.drew.cell? ⟨w2.heap.size, 4, none⟩ = some (.int .i64 a.g) ∧ w8.drew.cell? ⟨w2.heap.size + 1, 0, none⟩ = some (.int .i64 b.m) ∧ w8.drew.cell? ⟨w2.heap.size + 1, 1, none⟩ = some (.int .i64 b.c) ∧ w8.drew.cell? ⟨w2.heap.size + 1, 2, none⟩ = some (.int .i64 b.s) ∧ w8.drew.cell? ⟨w2.heap.size + 1, 3, none⟩ = some (.int .i64 b.w) ∧ w8.drew.cell? ⟨w2.heap.size + 1, 4, none⟩ = some (.int .i64 b.g) := ⟨e0, e1, e2, e3, e4, f0, f1, f2, f3, f4⟩
  have H0 := Lib.hid (show Below w.heap.size w w8.drew from BB3.out.trans (Below.drew (Below.refl _ _)))
  have L0 : w2.heap.size < w8.drew.heap.size := za
  have M0 : w2.heap.size + 1 < w8.drew.heap.size := zb
  clear BB3 HA3 HB3
  go_region_held3 (fun y => y.cell? ⟨w2.heap.size, 0, none⟩ = some (.int .i64 a.m) ∧ y.cell? ⟨w2.heap.size, 1, none⟩ = some (.int .i64 a.c) ∧ y.cell? ⟨w2.heap.size, 2, none⟩ = some (.int .i64 a.s) ∧ y.cell? ⟨w2.heap.size, 3, none⟩ = some (.int .i64 a.w) ∧ y.cell? ⟨w2.heap.size, 4, none⟩ = some (.int .i64 a.g) ∧ y.cell? ⟨w2.heap.size + 1, 0, none⟩ = some (.int .i64 b.m) ∧ y.cell? ⟨w2.heap.size + 1, 1, none⟩ = some (.int .i64 b.c) ∧ y.cell? ⟨w2.heap.size + 1, 2, none⟩ = some (.int .i64 b.s) ∧ y.cell? ⟨w2.heap.size + 1, 3, none⟩ = some (.int .i64 b.w) ∧ y.cell? ⟨w2.heap.size + 1, 4, none⟩ = some (.int .i64 b.g))
    (first | exact ⟨e0, e1, e2, e3, e4, f0, f1, f2, f3, f4⟩ | exact c0 | exact c1 | exact c2 | exact c3 | exact c4)
    (first
      | (go_at_call 13; (with_reducible refine (CB.out _).mono ?_); rintro e x2 ⟨rfl, b2⟩; have c2 := rk2 c1 b2 L1 M1; have L2 := Nat.lt_of_lt_of_le L1 b2.size; have M2 := Nat.lt_of_lt_of_le M1 b2.size; have H2 := Lib.hid (H1.out.trans (b2.mono H1.out.size)); clear b2)
      | (go_at_call 13; (with_reducible refine (CA.out _).mono ?_); rintro e x1 ⟨rfl, b1⟩; have c1 := rk2 c0 b1 L0 M0; have L1 := Nat.lt_of_lt_of_le L0 b1.size; have M1 := Nat.lt_of_lt_of_le M0 b1.size; have H1 := Lib.hid (H0.out.trans (b1.mono H0.out.size)); clear b1)
      | (go_at_call 14; (with_reducible refine (CQ.out _).mono ?_); rintro e x4 ⟨rfl, b4⟩; have c4 := rk2 c3 b4 L3 M3; have L4 := Nat.lt_of_lt_of_le L3 b4.size; have M4 := Nat.lt_of_lt_of_le M3 b4.size; have H4 := Lib.hid (H3.out.trans (b4.mono H3.out.size)); clear b4)
      | (go_at_call 14; (with_reducible refine (CP.out _).mono ?_); rintro e x3 ⟨rfl, b3⟩; have c3 := rk2 c2 b3 L2 M2; have L3 := Nat.lt_of_lt_of_le L2 b3.size; have M3 := Nat.lt_of_lt_of_le M2 b3.size; have H3 := Lib.hid (H2.out.trans (b3.mono H2.out.size)); clear b3))
  go_wp2_with fail
  go_ret
  exact ⟨rfl, H4.out⟩
end Go.Proofs.Ytdmgnocpempfnaa
