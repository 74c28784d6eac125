/-
  build.Choose.
-/
import Derived.Test.YtnndmpanopnncaaBuild
namespace Go.Proofs.Ytnndmpanopnncaa
open Go.ChangeShapes Go.WideShapes Go.ChangeAt Go.RowKit
set_option linter.unusedVariables false

theorem chP_some {r : RT} {C B T : Int} {L : List Int} {k : Nat} (h : chN r C B T L = k + 1) : chP r C B T L = ((k : Int) + 1, true) := by
  rw [chP, if_neg (by omega), h]; rfl
theorem chP_none {r : RT} {C B T : Int} {L : List Int} (h : chN r C B T L = 0) : chP r C B T L = if headOk r L = true then (1, false) else (0, false) := by
  rw [chP, if_pos h]

set_option maxHeartbeats 4000000 in
theorem choose_any (r : RT) (C B T : Int) (A : Option Addr) (n Cp : Nat) (L : List Int) (w : World) (h : RowN w A n Cp L) (hn : n ≤ 1000) :
    Calls Try.prog 8 #[.agg #[.int .i64 r.m, .int .i64 r.c, .int .i64 r.s, .int .i64 r.w, .int .i64 r.g], .agg #[.int .i64 C, .int .i64 B, .int .i64 T], .slice A n Cp] w fun e w' => e = .returned (.tuple #[.int .i64 (chP r C B T L).1, .bool (chP r C B T L).2]) ∧ Below w.heap.size w w' := by
  have HA := Lib.hid ((RtB.new w r).alloc (.cells #[.int .i64 C, .int .i64 B, .int .i64 T] 25))
  have HB := Lib.hid (LmB.new' w C B T (.cells #[.int .i64 r.m, .int .i64 r.c, .int .i64 r.s, .int .i64 r.w, .int .i64 r.g] 23))
  have BB := Lib.hid (show Below w.heap.size w ((w.alloc (.cells #[.int .i64 r.m, .int .i64 r.c, .int .i64 r.s, .int .i64 r.w, .int .i64 r.g] 23)).alloc (.cells #[.int .i64 C, .int .i64 B, .int .i64 T] 25)) from ((Below.refl _ _).alloc (Nat.le_refl _) _).alloc (by simp) _)
  have HN := Lib.hid h.1
  have HR := Lib.hid ((h.below ((Below.refl w.heap.size w).alloc (Nat.le_refl _) (.cells #[.int .i64 r.m, .int .i64 r.c, .int .i64 r.s, .int .i64 r.w, .int .i64 r.g] 23)) (Nat.le_refl _)).below ((Below.refl _ _).alloc (Nat.le_refl _) (.cells #[.int .i64 C, .int .i64 B, .int .i64 T] 25)) (Nat.le_refl _))
  have hcap := h.2.len_cap
  clear h
  obtain ⟨N, hNe⟩ : ∃ N, min n 64 = N := ⟨_, rfl⟩
  have HBEST := Lib.hid (show chN r C B T L = bestP (fitF r C B T L) N by rw [chN, ← HN.out, hNe])
  have hN1 : N ≤ n := by omega
  have hmin : (if (64 : Int) < (n : Int) then (64 : Int) else (n : Int)) = (N : Int) := by split <;> omega
  clear hNe
  go_enter Try.func8, Try.ntmps8
  go_wp2_with fail
  go_loopw [8] (fun i wr => ∃ k : Nat, k ≤ N ∧ i = .int .i64 k ∧ bestP (fitF r C B T L) N = bestP (fitF r C B T L) k ∧ RtB wr w.heap.size r ∧ LmB wr (w.heap.size + 1) C B T ∧ RowN wr A n Cp L ∧ Below w.heap.size w wr) (fun i _ => (intOf i).toNat)
  case atStart => exact ⟨N, Nat.le_refl _, rfl, rfl, HA.out, HB.out, HR.out, BB.out⟩
  case round =>
    obtain ⟨k, hk, rfl, hbest, hA, hB, hR, hb⟩ := hrel
    have HA1 := Lib.hid hA
    have HB1 := Lib.hid hB
    have HR1 := Lib.hid hR
    have BB1 := Lib.hid hb
    have HBE := Lib.hid hbest
    clear hA hB hR hb hbest HA HB HR BB hmin
    obtain ⟨e0, e1, e2, e3, e4⟩ := HA1.out.cells
    obtain ⟨f0, f1, f2⟩ := HB1.out.cells
    have za := HA1.out.lt
    have zb := HB1.out.lt
    rcases k with _ | j
    case zero =>
      have hch : chN r C B T L = 0 := HBEST.out.trans HBE.out
      have HP := Lib.hid (chP_none hch)
      clear hch
      rw [show (((0 : Nat)) : Int) = 0 from rfl]
      by_cases hn0 : n = 0
      case pos =>
        subst hn0
        have hL := List.eq_nil_of_length_eq_zero HN.out.symm
        have HV := Lib.hid (show chP r C B T L = (0, false) by rw [HP.out, hL]; rfl)
        clear hL
        rw [show (((0 : Nat)) : Int) = 0 from rfl]
        go_wp2_with fail
        go_ret2
        exact ⟨by rw [HV.out]; rfl, BB1.out⟩
      case neg =>
        obtain ⟨b, off, z, rfl, hbz, hz, hc⟩ := HR1.out.at_ (k := 0) (by omega)
        have hhead : headOk r L = (validP r && !(wrongB z)) := by
          rcases L with _ | ⟨y, L⟩
          · simp at hz
          · simp at hz; subst hz; rfl
        have HH := Lib.hid hhead
        clear hhead hz
        have hpos : decide ((0 : Int) < (n : Int)) = true := decide_eq_true (by omega)
        have hpn : (0 : Int) < (n : Int) := by omega
        have CV := Lib.hid (fun w => valid_any r w)
        rw [Nat.add_zero] at hc
        go_wp2_with fail
        refine (CV.out _).mono ?_
        rintro e x1 ⟨rfl, hb⟩
        have BB2 := Lib.hid (BB1.out.trans (hb.mono BB1.out.size))
        have hc2 : x1.cell? ⟨b, off, none⟩ = some (.int .i64 z) := (hb.cell (p := ⟨b, off, none⟩) hbz).trans hc
        clear hb hc e0 e1 e2 e3 e4 f0 f1 f2
        rcases hv : validP r
        case false =>
          have HV := Lib.hid (show chP r C B T L = (0, false) by rw [HP.out, HH.out, hv]; rfl)
          clear hv
          go_wp2_with fail
          go_ret2
          exact ⟨by rw [HV.out]; rfl, BB2.out⟩
        case true =>
          have HVV := Lib.hid hv
          clear hv
          go_wp2_with fail
          refine (wrong_any z _).mono ?_
          rintro e x2 ⟨rfl, rfl⟩
          rcases hw : wrongB z
          case true =>
            have HV := Lib.hid (show chP r C B T L = (0, false) by rw [HP.out, HH.out, HVV.out, hw]; rfl)
            clear hw
            go_wp2_with fail
            go_ret2
            exact ⟨by rw [HV.out]; rfl, BB2.out⟩
          case false =>
            have HV := Lib.hid (show chP r C B T L = (1, false) by rw [HP.out, HH.out, HVV.out, hw]; rfl)
            clear hw
            go_wp2_with fail
            go_ret2
            exact ⟨by rw [HV.out]; rfl, BB2.out⟩
    case succ =>
      have CF := Lib.hid (fun (w : World) (h : RowN w A n Cp L) => fits_any r C B T A (j + 1) Cp (L.take (j + 1)) w (h.take (show j + 1 ≤ n by omega)) (by omega))
      have HF := Lib.hid (show fitsP r C B T (L.take (j + 1)) = fitF r C B T L (j + 1) from rfl)
      rw [HF.out] at CF
      have s1 : (0 : Int) ≤ (j : Int) + 1 := by omega
      have s2 : (j : Int) + 1 ≤ (Cp : Int) := by omega
      have s3 : ((j : Int) + 1).toNat = j + 1 := by omega
      have s4 : (0 : Int) < (j : Int) + 1 := by omega
      rw [show (((j + 1 : Nat)) : Int) = (j : Int) + 1 from rfl]
      go_wp2_with fail
      have c0 : wr.drew.cell? ⟨w.heap.size, 0, none⟩ = some (.int .i64 r.m) ∧ wr.drew.cell? ⟨w.heap.size, 1, none⟩ = some (.int .i64 r.c) ∧ wr.drew.cell? ⟨w.heap.size, 2, none⟩ = some (.int .i64 r.s) ∧ wr.drew.cell? ⟨w.heap.size, 3, none⟩ = some (.int .i64 r.w) ∧ wr.drew.cell? ⟨w.heap.size, 4, none⟩ = some (.int .i64 r.g) ∧ wr.drew.cell? ⟨w.heap.size + 1, 0, none⟩ = some (.int .i64 C) ∧ wr.drew.cell? ⟨w.heap.size + 1, 1, none⟩ = some (.int .i64 B) ∧ wr.drew.cell? ⟨w.heap.size + 1, 2, none⟩ = some (.int .i64 T) := ⟨e0, e1, e2, e3, e4, f0, f1, f2⟩
      have L0 : w.heap.size < wr.drew.heap.size := za
      have M0 : w.heap.size + 1 < wr.drew.heap.size := zb
      have A0 := Lib.hid (show RtB wr.drew w.heap.size r from HA1.out)
      have B0 := Lib.hid (show LmB wr.drew (w.heap.size + 1) C B T from HB1.out)
      have R0 := Lib.hid (show RowN wr.drew A n Cp L from HR1.out)
      have H0 := Lib.hid (show Below w.heap.size w wr.drew from BB1.out.trans (Below.drew (Below.refl _ _)))
      go_region_held3 (fun y => y.cell? ⟨w.heap.size, 0, none⟩ = some (.int .i64 r.m) ∧ y.cell? ⟨w.heap.size, 1, none⟩ = some (.int .i64 r.c) ∧ y.cell? ⟨w.heap.size, 2, none⟩ = some (.int .i64 r.s) ∧ y.cell? ⟨w.heap.size, 3, none⟩ = some (.int .i64 r.w) ∧ y.cell? ⟨w.heap.size, 4, none⟩ = some (.int .i64 r.g) ∧ y.cell? ⟨w.heap.size + 1, 0, none⟩ = some (.int .i64 C) ∧ y.cell? ⟨w.heap.size + 1, 1, none⟩ = some (.int .i64 B) ∧ y.cell? ⟨w.heap.size + 1, 2, none⟩ = some (.int .i64 T))
        (first | exact c0 | exact c1)
        ((go_at_call 11; (with_reducible refine (CF.out _ R0.out).mono ?_); rintro e x1 ⟨rfl, b1⟩; have c1 := rl (r := r) c0 b1 L0 M0; have H1 := Lib.hid (H0.out.trans (b1.mono H0.out.size)); have A1 := Lib.hid (A0.out.below b1 (Nat.le_refl _)); have B1 := Lib.hid (B0.out.below b1 (Nat.le_refl _)); have R1 := Lib.hid (R0.out.below b1 (Nat.le_refl _)); clear b1))
      clear c0 c1 e0 e1 e2 e3 e4 f0 f1 f2
      rcases hf : fitF r C B T L (j + 1)
      case true =>
        have HP := Lib.hid (chP_some (HBEST.out.trans (HBE.out.trans (best_top hf))))
        clear hf
        go_wp2_with fail
        go_ret2
        exact ⟨by rw [HP.out]; rfl, H1.out⟩
      case false =>
        have HP := Lib.hid (HBE.out.trans (best_step hf))
        clear hf
        go_wp2_with fail
        go_roundw
        case rel => exact ⟨j, by omega, by go_num, HP.out, A1.out, B1.out, R1.out, H1.out⟩
        case measure => simp [intOf]

end Go.Proofs.Ytnndmpanopnncaa
