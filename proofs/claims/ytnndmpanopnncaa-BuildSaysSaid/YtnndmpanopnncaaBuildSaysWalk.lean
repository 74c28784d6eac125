/-
  BuildSays: the walk.
-/
import Derived.Test.YtnndmpanopnncaaBuildFirst
import Derived.Test.YtnndmpanopnncaaRefChoose
namespace Go.Proofs.Ytnndmpanopnncaa
open Go.ChangeShapes Go.WideShapes Go.ChangeAt Go.RowKit
set_option linter.unusedVariables false

set_option maxHeartbeats 8000000 in
theorem buildSays_walk (w : World) (r : RT) (hs : (Lit.int .i64 r.s).wf = true) (C B T : Int) (hC : (Lit.int .i64 C).wf = true) (hB : (Lit.int .i64 B).wf = true) (hT : (Lit.int .i64 T).wf = true) (A : Option Addr) (n Cp : Nat) (L : List Int) (hrow : Row w 1 A n Cp (L.map (Value.int .i64))) (hwf : ∀ z ∈ L, (Lit.int .i64 z).wf = true) :
    Calls Try.prog 3 #[.agg #[.int .i64 r.m, .int .i64 r.c, .int .i64 r.s, .int .i64 r.w, .int .i64 r.g], .agg #[.int .i64 C, .int .i64 B, .int .i64 T], .slice A n Cp] w fun e w' => e = .returned (.bool true) ∧ Below w.heap.size w w' := by
  obtain ⟨s0, s1⟩ := bounds_i64 hs
  obtain ⟨C0, C1⟩ := bounds_i64 hC
  obtain ⟨B0, B1⟩ := bounds_i64 hB
  obtain ⟨T0, T1⟩ := bounds_i64 hT
  have hN : n = L.length := by have := hrow.1; simpa using this.symm
  have hcap := hrow.len_cap
  have HN := Lib.hid hN
  have HA := Lib.hid ((RtB.new w r).alloc (.cells #[.int .i64 C, .int .i64 B, .int .i64 T] 25))
  have HB := Lib.hid (LmB.new' w C B T (.cells #[.int .i64 r.m, .int .i64 r.c, .int .i64 r.s, .int .i64 r.w, .int .i64 r.g] 23))
  have HR := Lib.hid (((show RowN w A n Cp L from ⟨hN, hrow⟩).alloc (.cells #[.int .i64 r.m, .int .i64 r.c, .int .i64 r.s, .int .i64 r.w, .int .i64 r.g] 23)).alloc (.cells #[.int .i64 C, .int .i64 B, .int .i64 T] 25))
  have BB := Lib.hid (show Below w.heap.size w ((w.alloc (.cells #[.int .i64 r.m, .int .i64 r.c, .int .i64 r.s, .int .i64 r.w, .int .i64 r.g] 23)).alloc (.cells #[.int .i64 C, .int .i64 B, .int .i64 T] 25)) from ((Below.refl _ _).alloc (Nat.le_refl _) _).alloc (by simp) _)
  clear hs hC hB hT hrow hwf hN

  have D1 := Lib.hid (fun (w : World) (h : RowN w A n Cp L) (hn : n ≤ 1000) => choose_any r C B T A n Cp L w h hn)
  have D2 := Lib.hid (fun (w : World) (h : RowN w A n Cp L) (hn : n ≤ 1000) => rchoose_any r C B T A n Cp L w h hn s0 s1)
  have D3 := Lib.hid (fun (w : World) (h : RowN w A n Cp L) (hn : n ≤ 1000) => fits_any r C B T A n Cp L w h hn)
  have D4 := Lib.hid (fun (w : World) (h : RowN w A n Cp L) (hn : n ≤ 1000) => rfits_any r C B T A n Cp L w h hn s0 s1)
  have D5 := Lib.hid (fun w => other_any C B T w)
  clear s0 s1
  go_enter Try.func3, Try.ntmps3
  go_wp2_with fail
  refine (bfirst_any _).mono ?_
  rintro e w1 ⟨rfl, hb⟩
  have HA1 := Lib.hid (HA.out.below hb (Nat.le_refl _))
  have HB1 := Lib.hid (HB.out.below hb (Nat.le_refl _))
  have HR1 := Lib.hid (HR.out.below hb (Nat.le_refl _))
  have BB1 := Lib.hid (BB.out.trans (hb.mono BB.out.size))
  clear hb HA HB HR BB
  obtain ⟨e0, e1, e2, e3, e4⟩ := HA1.out.cells
  obtain ⟨f0, f1, f2⟩ := HB1.out.cells
  have za := HA1.out.lt
  have zb := HB1.out.lt
  by_cases hn : n ≤ 70
  case neg =>
    go_wp2_with fail
    go_ret
    exact ⟨rfl, BB1.out⟩
  case pos =>
  have HN1 := Lib.hid (show n ≤ 1000 by omega)
  generalize (chP r C B T L).1 = N at *
  generalize (chP r C B T L).2 = I at *
  generalize fitsP r C B T L = fb at *
  go_wp2_with fail
  refine (D1.out _ HR1.out HN1.out).mono ?_
  rintro e w2 ⟨rfl, hb⟩
  clear e0 e1 e2 e3 e4 f0 f1 f2 za zb
  have HA2 := Lib.hid (HA1.out.below hb (Nat.le_refl _))
  have HB2 := Lib.hid (HB1.out.below hb (Nat.le_refl _))
  have HR2 := Lib.hid (HR1.out.below hb (Nat.le_refl _))
  have BB2 := Lib.hid (BB1.out.trans (hb.mono BB1.out.size))
  clear hb HA1 HB1 HR1 BB1
  obtain ⟨e0, e1, e2, e3, e4⟩ := HA2.out.cells
  obtain ⟨f0, f1, f2⟩ := HB2.out.cells
  have za := HA2.out.lt
  have zb := HB2.out.lt
  go_wp2_with fail
  have c0 : w2.drew.cell? ⟨w.heap.size, 0, none⟩ = some (.int .i64 r.m) ∧ w2.drew.cell? ⟨w.heap.size, 1, none⟩ = some (.int .i64 r.c) ∧ w2.drew.cell? ⟨w.heap.size, 2, none⟩ = some (.int .i64 r.s) ∧ w2.drew.cell? ⟨w.heap.size, 3, none⟩ = some (.int .i64 r.w) ∧ w2.drew.cell? ⟨w.heap.size, 4, none⟩ = some (.int .i64 r.g) ∧ w2.drew.cell? ⟨w.heap.size + 1, 0, none⟩ = some (.int .i64 C) ∧ w2.drew.cell? ⟨w.heap.size + 1, 1, none⟩ = some (.int .i64 B) ∧ w2.drew.cell? ⟨w.heap.size + 1, 2, none⟩ = some (.int .i64 T) := ⟨e0, e1, e2, e3, e4, f0, f1, f2⟩
  have L0 : w.heap.size < w2.drew.heap.size := za
  have M0 : w.heap.size + 1 < w2.drew.heap.size := zb
  have A0 := Lib.hid (show RtB w2.drew w.heap.size r from HA2.out)
  have B0 := Lib.hid (show LmB w2.drew (w.heap.size + 1) C B T from HB2.out)
  have R0 := Lib.hid (show RowN w2.drew A n Cp L from HR2.out)
  have H0 := Lib.hid (show Below w.heap.size w w2.drew from BB2.out.trans (Below.drew (Below.refl _ _)))
  clear HA2 HB2 HR2 BB2 e0 e1 e2 e3 e4 f0 f1 f2 za zb
  go_region_held3 (fun y => y.cell? ⟨w.heap.size, 0, none⟩ = some (.int .i64 r.m) ∧ y.cell? ⟨w.heap.size, 1, none⟩ = some (.int .i64 r.c) ∧ y.cell? ⟨w.heap.size, 2, none⟩ = some (.int .i64 r.s) ∧ y.cell? ⟨w.heap.size, 3, none⟩ = some (.int .i64 r.w) ∧ y.cell? ⟨w.heap.size, 4, none⟩ = some (.int .i64 r.g) ∧ y.cell? ⟨w.heap.size + 1, 0, none⟩ = some (.int .i64 C) ∧ y.cell? ⟨w.heap.size + 1, 1, none⟩ = some (.int .i64 B) ∧ y.cell? ⟨w.heap.size + 1, 2, none⟩ = some (.int .i64 T))
    (first | exact c0 | exact c1 | exact c2)
    (first
      | (go_at_call 10; (with_reducible refine (D5.out _).mono ?_); rintro e x1 ⟨rfl, b1⟩; have c1 := rl (r := r) c0 b1 L0 M0; have L1 := Nat.lt_of_lt_of_le L0 b1.size; have M1 := Nat.lt_of_lt_of_le M0 b1.size; have A1 := Lib.hid (A0.out.below b1 (Nat.le_refl _)); have B1 := Lib.hid (B0.out.below b1 (Nat.le_refl _)); have R1 := Lib.hid (R0.out.below b1 (Nat.le_refl _)); have H1 := Lib.hid (H0.out.trans (b1.mono H0.out.size)); clear b1)
      | (go_at_call 9; (with_reducible refine (D2.out _ R1.out HN1.out).mono ?_); rintro e x2 ⟨rfl, b2⟩; have c2 := rl (r := r) c1 b2 L1 M1; have L2 := Nat.lt_of_lt_of_le L1 b2.size; have M2 := Nat.lt_of_lt_of_le M1 b2.size; have A2 := Lib.hid (A1.out.below b2 (Nat.le_refl _)); have B2 := Lib.hid (B1.out.below b2 (Nat.le_refl _)); have R2 := Lib.hid (R1.out.below b2 (Nat.le_refl _)); have H2 := Lib.hid (H1.out.trans (b2.mono H1.out.size)); clear b2))
  go_wp2_with fail
  have HAq := A2
  have HBq := B2
  have HRq := R2
  have BBq := H2
  obtain ⟨e0, e1, e2, e3, e4, f0, f1, f2⟩ := c2
  have za := L2
  have zb := M2
  clear c0 c1 L0 M0 A0 B0 R0 H0 L1 M1 A1 B1 R1 H1
  have qc0 : x2.drew.cell? ⟨w.heap.size, 0, none⟩ = some (.int .i64 r.m) ∧ x2.drew.cell? ⟨w.heap.size, 1, none⟩ = some (.int .i64 r.c) ∧ x2.drew.cell? ⟨w.heap.size, 2, none⟩ = some (.int .i64 r.s) ∧ x2.drew.cell? ⟨w.heap.size, 3, none⟩ = some (.int .i64 r.w) ∧ x2.drew.cell? ⟨w.heap.size, 4, none⟩ = some (.int .i64 r.g) ∧ x2.drew.cell? ⟨w.heap.size + 1, 0, none⟩ = some (.int .i64 C) ∧ x2.drew.cell? ⟨w.heap.size + 1, 1, none⟩ = some (.int .i64 B) ∧ x2.drew.cell? ⟨w.heap.size + 1, 2, none⟩ = some (.int .i64 T) := ⟨e0, e1, e2, e3, e4, f0, f1, f2⟩
  have qL0 : w.heap.size < x2.drew.heap.size := za
  have qM0 : w.heap.size + 1 < x2.drew.heap.size := zb
  have qA0 := Lib.hid (show RtB x2.drew w.heap.size r from HAq.out)
  have qB0 := Lib.hid (show LmB x2.drew (w.heap.size + 1) C B T from HBq.out)
  have qR0 := Lib.hid (show RowN x2.drew A n Cp L from HRq.out)
  have qH0 := Lib.hid (show Below w.heap.size w x2.drew from BBq.out.trans (Below.drew (Below.refl _ _)))
  clear HAq HBq HRq BBq e0 e1 e2 e3 e4 f0 f1 f2 za zb
  have d1 : (N == N) = true := by simp
  have d2 : (I == I) = true := by simp
  have d3 : (fb == fb) = true := by simp
  go_region_held3 (fun y => y.cell? ⟨w.heap.size, 0, none⟩ = some (.int .i64 r.m) ∧ y.cell? ⟨w.heap.size, 1, none⟩ = some (.int .i64 r.c) ∧ y.cell? ⟨w.heap.size, 2, none⟩ = some (.int .i64 r.s) ∧ y.cell? ⟨w.heap.size, 3, none⟩ = some (.int .i64 r.w) ∧ y.cell? ⟨w.heap.size, 4, none⟩ = some (.int .i64 r.g) ∧ y.cell? ⟨w.heap.size + 1, 0, none⟩ = some (.int .i64 C) ∧ y.cell? ⟨w.heap.size + 1, 1, none⟩ = some (.int .i64 B) ∧ y.cell? ⟨w.heap.size + 1, 2, none⟩ = some (.int .i64 T))
    (first | exact qc0 | exact qc1 | exact qc2 | exact qc3)
    (first
      | (go_at_call 11; (with_reducible refine (D3.out _ qR0.out HN1.out).mono ?_); rintro e qx1 ⟨rfl, b1⟩; have qc1 := rl (r := r) qc0 b1 qL0 qM0; have qL1 := Nat.lt_of_lt_of_le qL0 b1.size; have qM1 := Nat.lt_of_lt_of_le qM0 b1.size; have qA1 := Lib.hid (qA0.out.below b1 (Nat.le_refl _)); have qB1 := Lib.hid (qB0.out.below b1 (Nat.le_refl _)); have qR1 := Lib.hid (qR0.out.below b1 (Nat.le_refl _)); have qH1 := Lib.hid (qH0.out.trans (b1.mono qH0.out.size)); clear b1)
      | (go_at_call 10; (with_reducible refine (D5.out _).mono ?_); rintro e qx2 ⟨rfl, b2⟩; have qc2 := rl (r := r) qc1 b2 qL1 qM1; have qL2 := Nat.lt_of_lt_of_le qL1 b2.size; have qM2 := Nat.lt_of_lt_of_le qM1 b2.size; have qA2 := Lib.hid (qA1.out.below b2 (Nat.le_refl _)); have qB2 := Lib.hid (qB1.out.below b2 (Nat.le_refl _)); have qR2 := Lib.hid (qR1.out.below b2 (Nat.le_refl _)); have qH2 := Lib.hid (qH1.out.trans (b2.mono qH1.out.size)); clear b2)
      | (go_at_call 12; (with_reducible refine (D4.out _ qR2.out HN1.out).mono ?_); rintro e qx3 ⟨rfl, b3⟩; have qc3 := rl (r := r) qc2 b3 qL2 qM2; have qL3 := Nat.lt_of_lt_of_le qL2 b3.size; have qM3 := Nat.lt_of_lt_of_le qM2 b3.size; have qA3 := Lib.hid (qA2.out.below b3 (Nat.le_refl _)); have qB3 := Lib.hid (qB2.out.below b3 (Nat.le_refl _)); have qR3 := Lib.hid (qR2.out.below b3 (Nat.le_refl _)); have qH3 := Lib.hid (qH2.out.trans (b3.mono qH2.out.size)); clear b3))
  go_wp2_with fail
  go_ret
  exact ⟨rfl, qH3.out⟩

end Go.Proofs.Ytnndmpanopnncaa
