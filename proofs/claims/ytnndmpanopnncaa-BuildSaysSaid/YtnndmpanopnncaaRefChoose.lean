/-
  The document's Choose.
-/
import Derived.Test.YtnndmpanopnncaaRefFits
import Derived.Test.YtnndmpanopnncaaChoose
namespace Go.Proofs.Ytnndmpanopnncaa
open Go.ChangeShapes Go.WideShapes Go.ChangeAt Go.RowKit
set_option linter.unusedVariables false

set_option maxHeartbeats 4000000 in
theorem rchoose_any (r : RT) (C B T : Int) (A : Option Addr) (n Cp : Nat) (L : List Int) (w : World) (h : RowN w A n Cp L) (hn : n ≤ 1000) (s0 : -9223372036854775808 ≤ r.s) (s1 : r.s ≤ 9223372036854775807) :
    Calls Try.prog 9 #[.agg #[.int .i64 r.m, .int .i64 r.c, .int .i64 r.s, .int .i64 r.w, .int .i64 r.g], .agg #[.int .i64 C, .int .i64 B, .int .i64 T], .slice A n Cp] w fun e w' => e = .returned (.tuple #[.int .i64 (chP r C B T L).1, .bool (chP r C B T L).2]) ∧ Below w.heap.size w w' := by
  have HA := Lib.hid ((RtB.new w r).alloc (.cells #[.int .i64 C, .int .i64 B, .int .i64 T] 31))
  have HB := Lib.hid (RmB.new' w C B T (.cells #[.int .i64 r.m, .int .i64 r.c, .int .i64 r.s, .int .i64 r.w, .int .i64 r.g] 23))
  have BB := Lib.hid (show Below w.heap.size w ((w.alloc (.cells #[.int .i64 r.m, .int .i64 r.c, .int .i64 r.s, .int .i64 r.w, .int .i64 r.g] 23)).alloc (.cells #[.int .i64 C, .int .i64 B, .int .i64 T] 31)) from ((Below.refl _ _).alloc (Nat.le_refl _) _).alloc (by simp) _)
  have HN := Lib.hid h.1
  have HR := Lib.hid ((h.below ((Below.refl w.heap.size w).alloc (Nat.le_refl _) (.cells #[.int .i64 r.m, .int .i64 r.c, .int .i64 r.s, .int .i64 r.w, .int .i64 r.g] 23)) (Nat.le_refl _)).below ((Below.refl _ _).alloc (Nat.le_refl _) (.cells #[.int .i64 C, .int .i64 B, .int .i64 T] 31)) (Nat.le_refl _))
  have hcap := h.2.len_cap
  clear h
  have CV := Lib.hid (fun w => rvalid_any r w s0 s1)
  have CF0 := Lib.hid (fun (k : Nat) (w : World) (h : RowN w A n Cp L) (hk : k + 1 ≤ n) => rfits_any r C B T A (k + 1) Cp (L.take (k + 1)) w (h.take hk) (by omega) s0 s1)
  clear s0 s1
  go_enter Try.func9, Try.ntmps9
  go_wp2_with fail
  go_loopw [8] (fun i wr => ∃ k : Nat, k ≤ n ∧ i = .int .i64 k ∧ (k = 0 ∨ fitF r C B T L k = true) ∧ RtB wr w.heap.size r ∧ RmB wr (w.heap.size + 1) C B T ∧ RowN wr A n Cp L ∧ Below w.heap.size w wr) (fun i _ => n - (intOf i).toNat)
  case atStart => exact ⟨0, Nat.zero_le _, rfl, .inl rfl, HA.out, HB.out, HR.out, BB.out⟩
  case round =>
    obtain ⟨k, hk, rfl, hkf, hA, hB, hR, hb⟩ := hrel
    have HA1 := Lib.hid hA
    have HB1 := Lib.hid hB
    have HR1 := Lib.hid hR
    have BB1 := Lib.hid hb
    have HKF := Lib.hid hkf
    clear hA hB hR hb hkf HA HB HR BB
    obtain ⟨e0, e1, e2, e3, e4⟩ := HA1.out.cells
    obtain ⟨f0, f1, f2⟩ := HB1.out.cells
    have za := HA1.out.lt
    have zb := HB1.out.lt
    have c0 : wr.drew.cell? ⟨w.heap.size, 0, none⟩ = some (.int .i64 r.m) ∧ wr.drew.cell? ⟨w.heap.size, 1, none⟩ = some (.int .i64 r.c) ∧ wr.drew.cell? ⟨w.heap.size, 2, none⟩ = some (.int .i64 r.s) ∧ wr.drew.cell? ⟨w.heap.size, 3, none⟩ = some (.int .i64 r.w) ∧ wr.drew.cell? ⟨w.heap.size, 4, none⟩ = some (.int .i64 r.g) ∧ wr.drew.cell? ⟨w.heap.size + 1, 0, none⟩ = some (.int .i64 C) ∧ wr.drew.cell? ⟨w.heap.size + 1, 1, none⟩ = some (.int .i64 B) ∧ wr.drew.cell? ⟨w.heap.size + 1, 2, none⟩ = some (.int .i64 T) := ⟨e0, e1, e2, e3, e4, f0, f1, f2⟩
    have L0 : w.heap.size < wr.drew.heap.size := za
    have M0 : w.heap.size + 1 < wr.drew.heap.size := zb
    have A0 := Lib.hid (show RtB wr.drew w.heap.size r from HA1.out)
    have B0 := Lib.hid (show RmB wr.drew (w.heap.size + 1) C B T from HB1.out)
    have R0 := Lib.hid (show RowN wr.drew A n Cp L from HR1.out)
    have H0 := Lib.hid (show Below w.heap.size w wr.drew from BB1.out.trans (Below.drew (Below.refl _ _)))
    by_cases hlt : k < n
    case neg =>
      have HCH := Lib.hid (ch_up (k := k) (by have := HN.out; omega) HKF.out (.inl (by have := HN.out; omega)))
      have d1 : decide ((k : Int) < (n : Int)) = false := decide_eq_false (by omega)
      go_wp2_with fail
      refine wp_region_held_drew (S := (fun y => y.cell? ⟨w.heap.size, 0, none⟩ = some (.int .i64 r.m) ∧ y.cell? ⟨w.heap.size, 1, none⟩ = some (.int .i64 r.c) ∧ y.cell? ⟨w.heap.size, 2, none⟩ = some (.int .i64 r.s) ∧ y.cell? ⟨w.heap.size, 3, none⟩ = some (.int .i64 r.w) ∧ y.cell? ⟨w.heap.size, 4, none⟩ = some (.int .i64 r.g) ∧ y.cell? ⟨w.heap.size + 1, 0, none⟩ = some (.int .i64 C) ∧ y.cell? ⟨w.heap.size + 1, 1, none⟩ = some (.int .i64 B) ∧ y.cell? ⟨w.heap.size + 1, 2, none⟩ = some (.int .i64 T))) (by kernel_rfl) ?_ (fun hHeld => ?_)
      · (try dsimp only); exact c0
      refine wpAnyH_take (i := 0) (oi := { dst := some 9, op := Op.move (Operand.tmp 8), type := 3, pos := "own.go:324", after := #[], guard := none }) (v := ?hv1) rfl (by kernel_rfl) (by kernel_rfl) (by kernel_rfl) (fun _ _ _ h => h) (Or.inl ⟨by rfl, ?hy1⟩) (by assumption) ?_
      case hy1 => ((intro w hSw); (try dsimp only at hSw); go_simp; (try with_reducible rfl))
      try simp only [Act.put, List.setIfInBounds_toArray, List.set_cons_zero, List.set_cons_succ]
      refine wpAnyH_take (i := 1) (oi := { dst := some 10, op := Op.move (Operand.tmp 2), type := 26, pos := "own.go:324", after := #[], guard := none }) (v := ?hv2) rfl (by kernel_rfl) (by kernel_rfl) (by kernel_rfl) (fun _ _ _ h => h) (Or.inl ⟨by rfl, ?hy2⟩) (by assumption) ?_
      case hy2 => ((intro w hSw); (try dsimp only at hSw); go_simp; (try with_reducible rfl))
      try simp only [Act.put, List.setIfInBounds_toArray, List.set_cons_zero, List.set_cons_succ]
      refine wpAnyH_take (i := 2) (oi := { dst := some 11, op := Op.call { callee := Callee.builtin Builtin.len, args := #[Operand.tmp 10], argTypes := #[26] }, type := 3, pos := "own.go:324", after := #[{ on := 1, ground := Ground.data }], guard := none }) (v := ?hv3) rfl (by kernel_rfl) (by kernel_rfl) (by kernel_rfl) (fun _ _ _ h => h) (Or.inl ⟨by rfl, ?hy3⟩) (by assumption) ?_
      case hy3 => ((intro w hSw); (try dsimp only at hSw); go_simp; (try with_reducible rfl))
      try simp only [Act.put, List.setIfInBounds_toArray, List.set_cons_zero, List.set_cons_succ]
      refine wpAnyH_take (i := 3) (oi := { dst := some 12, op := Op.binOp BinOp.lss 3 (Operand.tmp 9) (Operand.tmp 11) 3, type := 4, pos := "own.go:324", after := #[{ on := 0, ground := Ground.data }, { on := 2, ground := Ground.data }], guard := none }) (v := ?hv4) rfl (by kernel_rfl) (by kernel_rfl) (by kernel_rfl) (fun _ _ _ h => h) (Or.inl ⟨by rfl, ?hy4⟩) (by assumption) ?_
      case hy4 => ((intro w hSw); (try dsimp only at hSw); go_simp; (try with_reducible rfl))
      try simp only [Act.put, List.setIfInBounds_toArray, List.set_cons_zero, List.set_cons_succ]
      refine wpAnyH_take (i := 4) (oi := { dst := some 13, op := Op.move (Operand.tmp 12), type := 4, pos := "own.go:324", after := #[{ on := 3, ground := Ground.data }], guard := none }) (v := ?hv5) rfl (by kernel_rfl) (by kernel_rfl) (by kernel_rfl) (fun _ _ _ h => h) (Or.inl ⟨by rfl, ?hy5⟩) (by assumption) ?_
      case hy5 => ((intro w hSw); (try dsimp only at hSw); go_simp; (try with_reducible rfl))
      try simp only [Act.put, List.setIfInBounds_toArray, List.set_cons_zero, List.set_cons_succ]
      refine wpAnyH_take (i := 5) (oi := { dst := some 14, op := Op.load 23 (Operand.tmp 3), type := 23, pos := "own.go:324", after := #[{ on := 4, ground := Ground.guard }], guard := some (4, true) }) (v := undef) rfl (by kernel_rfl) (by kernel_rfl) (by kernel_rfl) (fun _ _ _ h => h) (Or.inr ⟨by rfl, rfl⟩) (by assumption) ?_
      try simp only [Act.put, List.setIfInBounds_toArray, List.set_cons_zero, List.set_cons_succ]
      refine wpAnyH_take (i := 6) (oi := { dst := some 15, op := Op.load 31 (Operand.tmp 4), type := 31, pos := "own.go:324", after := #[{ on := 4, ground := Ground.guard }], guard := some (4, true) }) (v := undef) rfl (by kernel_rfl) (by kernel_rfl) (by kernel_rfl) (fun _ _ _ h => h) (Or.inr ⟨by rfl, rfl⟩) (by assumption) ?_
      try simp only [Act.put, List.setIfInBounds_toArray, List.set_cons_zero, List.set_cons_succ]
      refine wpAnyH_take (i := 7) (oi := { dst := some 16, op := Op.move (Operand.tmp 2), type := 26, pos := "own.go:324", after := #[{ on := 4, ground := Ground.guard }], guard := some (4, true) }) (v := undef) rfl (by kernel_rfl) (by kernel_rfl) (by kernel_rfl) (fun _ _ _ h => h) (Or.inr ⟨by rfl, rfl⟩) (by assumption) ?_
      try simp only [Act.put, List.setIfInBounds_toArray, List.set_cons_zero, List.set_cons_succ]
      refine wpAnyH_take (i := 8) (oi := { dst := some 17, op := Op.move (Operand.tmp 8), type := 3, pos := "own.go:324", after := #[{ on := 4, ground := Ground.guard }], guard := some (4, true) }) (v := undef) rfl (by kernel_rfl) (by kernel_rfl) (by kernel_rfl) (fun _ _ _ h => h) (Or.inr ⟨by rfl, rfl⟩) (by assumption) ?_
      try simp only [Act.put, List.setIfInBounds_toArray, List.set_cons_zero, List.set_cons_succ]
      refine wpAnyH_take (i := 9) (oi := { dst := some 18, op := Op.binOp BinOp.add 3 (Operand.tmp 17) (Operand.const (Value.int IntKind.i64 1)) 3, type := 3, pos := "own.go:324", after := #[{ on := 8, ground := Ground.data }, { on := 4, ground := Ground.guard }], guard := some (4, true) }) (v := undef) rfl (by kernel_rfl) (by kernel_rfl) (by kernel_rfl) (fun _ _ _ h => h) (Or.inr ⟨by rfl, rfl⟩) (by assumption) ?_
      try simp only [Act.put, List.setIfInBounds_toArray, List.set_cons_zero, List.set_cons_succ]
      refine wpAnyH_take (i := 10) (oi := { dst := some 19, op := Op.slice 26 (Operand.tmp 16) none (some (Operand.tmp 18)) none, type := 26, pos := "own.go:324", after := #[{ on := 7, ground := Ground.data }, { on := 9, ground := Ground.data }, { on := 4, ground := Ground.guard }], guard := some (4, true) }) (v := undef) rfl (by kernel_rfl) (by kernel_rfl) (by kernel_rfl) (fun _ _ _ h => h) (Or.inr ⟨by rfl, rfl⟩) (by assumption) ?_
      try simp only [Act.put, List.setIfInBounds_toArray, List.set_cons_zero, List.set_cons_succ]
      refine wpAnyH_take (i := 11) (oi := { dst := some 20, op := Op.call { callee := Callee.value (Operand.func 12), args := #[Operand.tmp 14, Operand.tmp 15, Operand.tmp 19], argTypes := #[23, 31, 26] }, type := 4, pos := "own.go:324", after := #[{ on := 5, ground := Ground.data }, { on := 6, ground := Ground.data }, { on := 10, ground := Ground.data }, { on := 4, ground := Ground.chain }, { on := 4, ground := Ground.guard }], guard := some (4, true) }) (v := undef) rfl (by kernel_rfl) (by kernel_rfl) (by kernel_rfl) (fun _ _ _ h => h) (Or.inr ⟨by rfl, rfl⟩) (by assumption) ?_
      try simp only [Act.put, List.setIfInBounds_toArray, List.set_cons_zero, List.set_cons_succ]
      refine wpAnyH_take (i := 12) (oi := { dst := some 21, op := Op.pick (Operand.tmp 13) (Operand.tmp 20) (Operand.const (Value.bool false)), type := 4, pos := "own.go:324", after := #[{ on := 4, ground := Ground.data }, { on := 11, ground := Ground.data }], guard := none }) (v := ?hv6) rfl (by kernel_rfl) (by kernel_rfl) (by kernel_rfl) (fun _ _ _ h => h) (Or.inl ⟨by rfl, ?hy6⟩) (by assumption) ?_
      case hy6 => ((intro w hSw); (try dsimp only at hSw); go_simp; (try with_reducible rfl))
      try simp only [Act.put, List.setIfInBounds_toArray, List.set_cons_zero, List.set_cons_succ]
      refine wpAnyH_done (by kernel_rfl) ?_ _
      clear c0 e0 e1 e2 e3 e4 f0 f1 f2
      have HRR := R0
      have HAA := A0
      rcases k with _ | j
      case zero =>
        have HP := Lib.hid (chP_none HCH.out)
        rw [show (((0 : Nat)) : Int) = 0 from rfl]
        by_cases hn0 : n = 0
        case pos =>
          subst hn0
          have hL := List.eq_nil_of_length_eq_zero HN.out.symm
          have HV := Lib.hid (show chP r C B T L = (0, false) by rw [HP.out, hL]; rfl)
          clear hL
          rw [show (((0 : Nat)) : Int) = 0 from rfl]
          go_wp2_with fail
          go_ret2
          exact ⟨by rw [HV.out]; rfl, H0.out⟩
        case neg =>
          exfalso; omega
      case succ =>
        have HP := Lib.hid (chP_some HCH.out)
        have s9 : (0 : Int) < (j : Int) + 1 := by omega
        rw [show (((j + 1 : Nat)) : Int) = (j : Int) + 1 from rfl]
        go_wp2_with fail
        go_ret2
        exact ⟨by rw [HP.out]; rfl, H0.out⟩
    case pos =>
      have CF := Lib.hid (fun (w : World) (h : RowN w A n Cp L) => CF0.out k w h (by omega))
      have HF := Lib.hid (show fitsP r C B T (L.take (k + 1)) = fitF r C B T L (k + 1) from rfl)
      rw [HF.out] at CF
      have s1 : (0 : Int) ≤ (k : Int) + 1 := by omega
      have s2 : (k : Int) + 1 ≤ (Cp : Int) := by omega
      have s3 : ((k : Int) + 1).toNat = k + 1 := by omega
      have s4 : IntKind.i64.wrap ((k : Int) + 1) = (k : Int) + 1 := IntWalk.i64_in _ (by omega)
      have d1 : decide ((k : Int) < (n : Int)) = true := decide_eq_true (by omega)
      go_wp2_with fail
      go_region_held3 (fun y => y.cell? ⟨w.heap.size, 0, none⟩ = some (.int .i64 r.m) ∧ y.cell? ⟨w.heap.size, 1, none⟩ = some (.int .i64 r.c) ∧ y.cell? ⟨w.heap.size, 2, none⟩ = some (.int .i64 r.s) ∧ y.cell? ⟨w.heap.size, 3, none⟩ = some (.int .i64 r.w) ∧ y.cell? ⟨w.heap.size, 4, none⟩ = some (.int .i64 r.g) ∧ y.cell? ⟨w.heap.size + 1, 0, none⟩ = some (.int .i64 C) ∧ y.cell? ⟨w.heap.size + 1, 1, none⟩ = some (.int .i64 B) ∧ y.cell? ⟨w.heap.size + 1, 2, none⟩ = some (.int .i64 T))
        (first | exact c0 | exact c1)
        ((go_at_call 12; (with_reducible refine (CF.out _ R0.out).mono ?_); rintro e x1 ⟨rfl, b1⟩; have c1 := rl (r := r) c0 b1 L0 M0; have H1 := Lib.hid (H0.out.trans (b1.mono H0.out.size)); have A1 := Lib.hid (A0.out.below b1 (Nat.le_refl _)); have B1 := Lib.hid (B0.out.below b1 (Nat.le_refl _)); have R1 := Lib.hid (R0.out.below b1 (Nat.le_refl _)); clear b1))
      clear c0 c1 e0 e1 e2 e3 e4 f0 f1 f2 s4
      rcases hf : fitF r C B T L (k + 1)
      case true =>
        have HKF' := Lib.hid hf
        clear hf
        go_wp2_with fail
        go_roundw
        case rel => exact ⟨k + 1, by omega, by go_num, .inr HKF'.out, A1.out, B1.out, R1.out, H1.out⟩
        case measure => simp [intOf]; omega
      case false =>
        have HCH := Lib.hid (ch_up (by rw [← HN.out]; exact hk) HKF.out (.inr hf))
        have HRR := R1
        have HAA := A1
        clear hf s1 s2 s3
        rcases k with _ | j
        case zero =>
          have HP := Lib.hid (chP_none HCH.out)
          rw [show (((0 : Nat)) : Int) = 0 from rfl]
          by_cases hn0 : n = 0
          case pos =>
            subst hn0
            have hL := List.eq_nil_of_length_eq_zero HN.out.symm
            have HV := Lib.hid (show chP r C B T L = (0, false) by rw [HP.out, hL]; rfl)
            clear hL
            rw [show (((0 : Nat)) : Int) = 0 from rfl]
            go_wp2_with fail
            go_ret2
            exact ⟨by rw [HV.out]; rfl, H1.out⟩
          case neg =>
            obtain ⟨b, off, z, rfl, hbz, hz, hc⟩ := HRR.out.at_ (k := 0) (by omega)
            have hhead : headOk r L = (validP r && !(wrongB z)) := by
              rcases L with _ | ⟨y, L⟩
              · simp at hz
              · simp at hz; subst hz; rfl
            have HH := Lib.hid hhead
            clear hhead hz
            have hpos : decide ((0 : Int) < (n : Int)) = true := decide_eq_true (by omega)
            have hpn : (0 : Int) < (n : Int) := by omega
            rw [Nat.add_zero] at hc
            obtain ⟨e0, e1, e2, e3, e4⟩ := HAA.out.cells
            go_wp2_with fail
            refine (CV.out _).mono ?_
            rintro e y1 ⟨rfl, hb⟩
            have BB9 := Lib.hid (H1.out.trans (hb.mono H1.out.size))
            have hc2 : y1.cell? ⟨b, off, none⟩ = some (.int .i64 z) := (hb.cell (p := ⟨b, off, none⟩) hbz).trans hc
            clear hb hc e0 e1 e2 e3 e4
            rcases hv : validP r
            case false =>
              have HV := Lib.hid (show chP r C B T L = (0, false) by rw [HP.out, HH.out, hv]; rfl)
              clear hv
              go_wp2_with fail
              go_ret2
              exact ⟨by rw [HV.out]; rfl, BB9.out⟩
            case true =>
              have HVV := Lib.hid hv
              clear hv
              by_cases q1 : 1 ≤ z
              case neg =>
                have d1 : decide (1 ≤ z) = false := decide_eq_false q1
                have HV := Lib.hid (show chP r C B T L = (0, false) by rw [HP.out, HH.out, HVV.out, show wrongB z = true by simp [wrongB]; omega]; rfl)
                clear q1
                go_wp2_with fail
                go_ret2
                exact ⟨by rw [HV.out]; rfl, BB9.out⟩
              case pos =>
                have d1 : decide (1 ≤ z) = true := decide_eq_true q1
                by_cases q2 : z ≤ 4095
                case neg =>
                  have d2 : decide (z ≤ 4095) = false := decide_eq_false q2
                  have HV := Lib.hid (show chP r C B T L = (0, false) by rw [HP.out, HH.out, HVV.out, show wrongB z = true by simp [wrongB]; omega]; rfl)
                  clear q1 q2
                  go_wp2_with fail
                  go_ret2
                  exact ⟨by rw [HV.out]; rfl, BB9.out⟩
                case pos =>
                  have d2 : decide (z ≤ 4095) = true := decide_eq_true q2
                  have HV := Lib.hid (show chP r C B T L = (1, false) by rw [HP.out, HH.out, HVV.out, wrong_of q1 q2]; rfl)
                  clear q1 q2
                  go_wp2_with fail
                  go_ret2
                  exact ⟨by rw [HV.out]; rfl, BB9.out⟩
        case succ =>
          have HP := Lib.hid (chP_some HCH.out)
          have s9 : (0 : Int) < (j : Int) + 1 := by omega
          rw [show (((j + 1 : Nat)) : Int) = (j : Int) + 1 from rfl]
          go_wp2_with fail
          go_ret2
          exact ⟨by rw [HP.out]; rfl, H1.out⟩
end Go.Proofs.Ytnndmpanopnncaa
