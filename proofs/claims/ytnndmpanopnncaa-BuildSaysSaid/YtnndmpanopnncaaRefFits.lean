/-
  The document's Fits.
-/
import Derived.Test.YtnndmpanopnncaaBuildLen
import Derived.Test.YtnndmpanopnncaaRefAir
namespace Go.Proofs.Ytnndmpanopnncaa
open Go.ChangeShapes Go.WideShapes Go.ChangeAt Go.RowKit
set_option linter.unusedVariables false

def RmB (w : World) (n : Nat) (C B T : Int) : Prop := Blk w n #[.int .i64 C, .int .i64 B, .int .i64 T] 31
theorem RmB.cells {w : World} {n : Nat} {C B T : Int} (h : RmB w n C B T) : w.cell? ⟨n, 0, none⟩ = some (.int .i64 C) ∧ w.cell? ⟨n, 1, none⟩ = some (.int .i64 B) ∧ w.cell? ⟨n, 2, none⟩ = some (.int .i64 T) := ⟨Blk.cell h 0, Blk.cell h 1, Blk.cell h 2⟩
theorem RmB.below {w w' : World} {n : Nat} {C B T : Int} (h : RmB w n C B T) {D : Nat} (hb : Below D w w') (hD : w.heap.size ≤ D) : RmB w' n C B T := Blk.below h hb (Nat.lt_of_lt_of_le (Blk.lt h) hD)
theorem RmB.lt {w : World} {n : Nat} {C B T : Int} (h : RmB w n C B T) : n < w.heap.size := Blk.lt h
theorem RmB.new (w : World) (C B T : Int) : RmB (w.alloc (.cells #[.int .i64 C, .int .i64 B, .int .i64 T] 31)) w.heap.size C B T := Blk.new w _ _
theorem RmB.new' (w : World) (C B T : Int) (o : Obj) : RmB ((w.alloc o).alloc (.cells #[.int .i64 C, .int .i64 B, .int .i64 T] 31)) (w.heap.size + 1) C B T := by
  have := RmB.new (w.alloc o) C B T
  rwa [show (w.alloc o).heap.size = w.heap.size + 1 by simp] at this

set_option maxHeartbeats 4000000 in
theorem rfits_any (r : RT) (C B T : Int) (A : Option Addr) (n Cp : Nat) (L : List Int) (w : World) (h : RowN w A n Cp L) (hn : n ≤ 1000) (s0 : -9223372036854775808 ≤ r.s) (s1 : r.s ≤ 9223372036854775807) :
    Calls Try.prog 12 #[.agg #[.int .i64 r.m, .int .i64 r.c, .int .i64 r.s, .int .i64 r.w, .int .i64 r.g], .agg #[.int .i64 C, .int .i64 B, .int .i64 T], .slice A n Cp] w fun e w' => e = .returned (.bool (fitsP r C B T L)) ∧ Below w.heap.size w w' := by
  have HA := Lib.hid ((RtB.new w r).alloc (.cells #[.int .i64 C, .int .i64 B, .int .i64 T] 31))
  have HB := Lib.hid (RmB.new' w C B T (.cells #[.int .i64 r.m, .int .i64 r.c, .int .i64 r.s, .int .i64 r.w, .int .i64 r.g] 23))
  have BB := Lib.hid (show Below w.heap.size w ((w.alloc (.cells #[.int .i64 r.m, .int .i64 r.c, .int .i64 r.s, .int .i64 r.w, .int .i64 r.g] 23)).alloc (.cells #[.int .i64 C, .int .i64 B, .int .i64 T] 31)) from ((Below.refl _ _).alloc (Nat.le_refl _) _).alloc (by simp) _)
  have HN := Lib.hid h.1
  have HR := Lib.hid ((h.below ((Below.refl w.heap.size w).alloc (Nat.le_refl _) (.cells #[.int .i64 r.m, .int .i64 r.c, .int .i64 r.s, .int .i64 r.w, .int .i64 r.g] 23)) (Nat.le_refl _)).below ((Below.refl _ _).alloc (Nat.le_refl _) (.cells #[.int .i64 C, .int .i64 B, .int .i64 T] 31)) (Nat.le_refl _))
  clear h
  have HF := Lib.hid (show fitsP r C B T L = (validP r && (decide (L ≠ []) && (!(L.any wrongB) && (decide ((L.length : Int) ≤ min C 64) && (decide (aggP L ≤ min B 65535) && decide (ppP r (aggP L) ≤ min T 54840)))))) from rfl)
  have CV := Lib.hid (fun w => rvalid_any r w s0 s1)
  have CQ := Lib.hid (fun n w => rppdu_any r n w s0 s1)
  clear s0 s1
  go_enter Try.func12, Try.ntmps12
  go_wp2_with fail
  refine (CV.out _).mono ?_
  rintro e w1 ⟨rfl, hb⟩
  have HA1 := Lib.hid (HA.out.below hb (Nat.le_refl _))
  have HB1 := Lib.hid (HB.out.below hb (Nat.le_refl _))
  have HR1 := Lib.hid (HR.out.below hb (Nat.le_refl _))
  have BB1 := Lib.hid (BB.out.trans (hb.mono BB.out.size))
  clear hb HA HB BB HR CV
  obtain ⟨e0, e1, e2, e3, e4⟩ := HA1.out.cells
  obtain ⟨f0, f1, f2⟩ := HB1.out.cells
  have za := HA1.out.lt
  have zb := HB1.out.lt
  rcases hv : validP r
  case false =>
    go_wp2_with fail
    go_ret
    exact ⟨ret_bool (by rw [HF.out, hv]; rfl), BB1.out⟩
  case true =>
  have HV := Lib.hid hv
  clear hv
  by_cases hn0 : n = 0
  case pos =>
    subst hn0
    have hL := List.eq_nil_of_length_eq_zero HN.out.symm
    go_wp2_with fail
    go_ret
    exact ⟨ret_bool (by rw [HF.out, HV.out, hL]; rfl), BB1.out⟩
  case neg =>
  have hne : L ≠ [] := by intro e; have := HN.out; rw [e] at this; simp at this; omega
  have HNE := Lib.hid (show decide (L ≠ []) = true from decide_eq_true hne)
  clear hne
  have hn1 : ((n : Int) == 0) = false := by simp; omega
  by_cases hc : (L.length : Int) ≤ min C 64
  case neg =>
    have HC := Lib.hid (show decide ((L.length : Int) ≤ min C 64) = false from decide_eq_false hc)
    rw [← HN.out] at hc
    by_cases hC : C < (n : Int)
    case pos =>
      have hd : decide (C < (n : Int)) = true := decide_eq_true hC
      clear hc
      go_wp2_with fail
      go_ret
      exact ⟨ret_bool (by rw [HF.out, HV.out, HNE.out, HC.out]; simp), BB1.out⟩
    case neg =>
      have hd : decide (C < (n : Int)) = false := decide_eq_false hC
      have hd2 : decide ((64 : Int) < (n : Int)) = true := decide_eq_true (by omega)
      clear hc
      go_wp2_with fail
      go_ret
      exact ⟨ret_bool (by rw [HF.out, HV.out, HNE.out, HC.out]; simp), BB1.out⟩
  case pos =>
  have HC := Lib.hid (show decide ((L.length : Int) ≤ min C 64) = true from decide_eq_true hc)
  rw [← HN.out] at hc
  have hcn : (n : Int) ≤ C ∧ (n : Int) ≤ 64 := by omega
  have hd1 : decide (C < (n : Int)) = false := decide_eq_false (by omega)
  have hd2 : decide ((64 : Int) < (n : Int)) = false := decide_eq_false (by omega)
  have HG := Lib.hid (fun h : L.any wrongB = false => show fitsP r C B T L = (decide (aggP L ≤ min B 65535) && decide (ppP r (aggP L) ≤ min T 54840)) by rw [HF.out, HV.out, HNE.out, h, HC.out]; rfl)
  have HG2 := Lib.hid (fun h : L.any wrongB = true => show fitsP r C B T L = false by rw [HF.out, HV.out, HNE.out, h]; rfl)
  clear hc HF
  go_wp2_with fail
  clear hd1 hd2 hn1
  go_loopw [7] (fun i wr => ∃ k : Nat, k ≤ n ∧ i = .int .i64 k ∧ (L.take k).any wrongB = false ∧ wr = w1) (fun i _ => n - (intOf i).toNat)
  case atStart => exact ⟨0, Nat.zero_le _, rfl, rfl, rfl⟩
  case round =>
    obtain ⟨k, hk, rfl, hno, rfl⟩ := hrel
    have HNO := Lib.hid hno
    clear hno
    by_cases hlt : k < n
    case pos =>
      obtain ⟨b, off, z, rfl, hbz, hz, hcz⟩ := HR1.out.at_ hlt
      rcases hw : wrongB z
      case true =>
        have HK := Lib.hid (show L.any wrongB = true from List.any_eq_true.2 ⟨z, List.mem_of_getElem? hz, hw⟩)
        by_cases hz1 : z < 1
        case pos =>
          clear hw hz
          go_wp2_with fail
          go_ret
          exact ⟨ret_bool (HG2.out HK.out).symm, BB1.out⟩
        case neg =>
          have hz2 : decide (4095 < z) = true := by simp only [wrongB, decide_eq_false hz1, Bool.false_or] at hw; exact hw
          have hz3 : decide (z < 1) = false := decide_eq_false hz1
          clear hw hz
          go_wp2_with fail
          go_ret
          exact ⟨ret_bool (HG2.out HK.out).symm, BB1.out⟩
      case false =>
        have HK := Lib.hid (show (L.take (k + 1)).any wrongB = false by rw [take_at hz, List.any_append, HNO.out]; simp [hw])
        obtain ⟨z1, z2⟩ := wrong_no hw
        have z3 : decide (z < 1) = false := decide_eq_false (by omega)
        have z4 : decide (4095 < z) = false := decide_eq_false (by omega)
        clear hw hz
        go_wp2_with fail
        go_roundw
        case rel => exact ⟨k + 1, by omega, by go_num, HK.out, by trivial⟩
        case measure => simp [intOf]; omega
    case neg =>
      obtain rfl : k = n := by omega
      have hall : L.any wrongB = false := by
        have := HNO.out
        rwa [List.take_of_length_le (by rw [HN.out]; exact Nat.le_refl _)] at this
      have hL := Lib.hid (fun z hz => any_le hall z hz)
      have ha0 := agg_nonneg L
      have ha1 := agg_top L (fun z hz => (hL.out z hz).2)
      rw [← HN.out] at ha1
      have CL := Lib.hid (aggLen_any A k Cp L wr HR1.out hn (fun z hz => by have := hL.out z hz; omega))
      have HG3 := Lib.hid (HG.out hall)
      have CP := Lib.hid (fun w => CQ.out (aggP L) w (by omega) (by omega))
      clear hL hall HG HG2 CQ
      generalize aggP L = g at *
      obtain ⟨X, hX⟩ : ∃ X, ppP r g = X := ⟨_, rfl⟩
      rw [hX] at CP HG3
      clear hX
      go_wp2_with fail
      refine CL.out.mono ?_
      rintro e w2 ⟨rfl, rfl⟩
      go_wp2_with fail
      refine (CP.out _).mono ?_
      rintro e w2 ⟨rfl, hb⟩
      have HB2 := Lib.hid (HB1.out.below hb (Nat.le_refl _))
      have BB2 := Lib.hid (BB1.out.trans (hb.mono BB1.out.size))
      clear hb e0 e1 e2 e3 e4 f0 f1 f2
      obtain ⟨f0, f1, f2⟩ := HB2.out.cells
      have zb2 := HB2.out.lt
      by_cases q1 : g ≤ B
      case neg =>
        have d1 : decide (g ≤ B) = false := decide_eq_false q1
        have hm := Lib.hid (show decide (g ≤ min B 65535) = false from decide_eq_false (by omega))
        clear q1
        go_wp2_with fail
        go_ret
        exact ⟨ret_bool (by rw [HG3.out, hm.out]; rfl), BB2.out⟩
      case pos =>
      by_cases q2 : g ≤ 65535
      case neg =>
        have d1 : decide (g ≤ B) = true := decide_eq_true q1
        have d2 : decide (g ≤ 65535) = false := decide_eq_false q2
        have hm := Lib.hid (show decide (g ≤ min B 65535) = false from decide_eq_false (by omega))
        clear q1 q2
        go_wp2_with fail
        go_ret
        exact ⟨ret_bool (by rw [HG3.out, hm.out]; rfl), BB2.out⟩
      case pos =>
      have d1 : decide (g ≤ B) = true := decide_eq_true q1
      have d2 : decide (g ≤ 65535) = true := decide_eq_true q2
      have hm := Lib.hid (show decide (g ≤ min B 65535) = true from decide_eq_true (by omega))
      clear q1 q2
      by_cases q3 : X ≤ T
      case neg =>
        have d3 : decide (X ≤ T) = false := decide_eq_false q3
        have hm2 := Lib.hid (show decide (X ≤ min T 54840) = false from decide_eq_false (by omega))
        clear q3
        go_wp2_with fail
        go_ret
        exact ⟨ret_bool (by rw [HG3.out, hm.out, hm2.out]; rfl), BB2.out⟩
      case pos =>
      by_cases q4 : X ≤ 54840
      case neg =>
        have d3 : decide (X ≤ T) = true := decide_eq_true q3
        have d4 : decide (X ≤ 54840) = false := decide_eq_false q4
        have hm2 := Lib.hid (show decide (X ≤ min T 54840) = false from decide_eq_false (by omega))
        clear q3 q4
        go_wp2_with fail
        go_ret
        exact ⟨ret_bool (by rw [HG3.out, hm.out, hm2.out]; rfl), BB2.out⟩
      case pos =>
        have d3 : decide (X ≤ T) = true := decide_eq_true q3
        have d4 : decide (X ≤ 54840) = true := decide_eq_true q4
        have hm2 := Lib.hid (show decide (X ≤ min T 54840) = true from decide_eq_true (by omega))
        clear q3 q4
        go_wp2_with fail
        go_ret
        exact ⟨ret_bool (by rw [HG3.out, hm.out, hm2.out]; rfl), BB2.out⟩

end Go.Proofs.Ytnndmpanopnncaa
