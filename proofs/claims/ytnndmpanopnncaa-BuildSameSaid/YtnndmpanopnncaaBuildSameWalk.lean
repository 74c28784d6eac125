/-
  BuildSame: the walk.
-/
import Derived.Test.YtnndmpanopnncaaBuildFirst
import Derived.Test.YtnndmpanopnncaaNumber
import Derived.Test.YtnndmpanopnncaaRefAir
import Derived.Test.YtnndmpanopnncaaRefRateAll
import Derived.Test.YtnndmpanopnncaaSamePlain
namespace Go.Proofs.Ytnndmpanopnncaa
open Go.ChangeShapes Go.WideShapes Go.ChangeAt Go.RowKit
set_option linter.unusedVariables false

set_option maxRecDepth 100000 in
set_option maxHeartbeats 8000000 in
theorem buildSame_walk (w : World) (i : Int) (hi : (Lit.int .i64 i).wf = true) (z : Int) (hz : (Lit.int .i64 z).wf = true) (cc : Int) (hcc : (Lit.int .i64 cc).wf = true) (cb : Int) (hcb : (Lit.int .i64 cb).wf = true) (ct : Int) (hct : (Lit.int .i64 ct).wf = true) :
    Calls Try.prog 6 #[.int .i64 i, .int .i64 z, .int .i64 cc, .int .i64 cb, .int .i64 ct] w fun e w' => e = .returned (.bool true) ∧ Below w.heap.size w w' := by
  obtain ⟨i0, i1⟩ := bounds_i64 hi
  obtain ⟨z0, z1⟩ := bounds_i64 hz
  obtain ⟨cc0, cc1⟩ := bounds_i64 hcc
  obtain ⟨cb0, cb1⟩ := bounds_i64 hcb
  obtain ⟨ct0, ct1⟩ := bounds_i64 hct
  clear hi hz hcc hcb hct
  obtain ⟨p, hp, ep'⟩ := number_nat z 1500 (by omega)
  have ep : z % 1500 = (p : Int) := ep'
  obtain ⟨c1, hc1, ec1'⟩ := number_nat cc 70 (by omega)
  have ec1 : cc % 70 = (c1 : Int) := ec1'
  obtain ⟨c2, hc2, ec2'⟩ := number_nat cb 65536 (by omega)
  have ec2 : cb % 65536 = (c2 : Int) := ec2'
  obtain ⟨c3, hc3, ec3'⟩ := number_nat ct 54841 (by omega)
  have ec3 : ct % 54841 = (c3 : Int) := ec3'
  clear ep' ec1' ec2' ec3'
  go_enter Try.func6, Try.ntmps6
  go_wp2_with fail
  refine (bfirst_any _).mono ?_
  rintro e w1 ⟨rfl, hb1⟩
  have B1 := Lib.hid hb1
  clear hb1
  go_wp2_with fail
  refine (rall_any 3 _).mono ?_
  rintro e w2 ⟨v, rfl, ho, hb2⟩
  obtain ⟨A0, n, C0, rfl, hr⟩ := ho.row
  have HB2 := Lib.hid (B1.out.trans (hb2.mono B1.out.size))
  obtain rfl : n = 640 := hr.1.trans (all_len 3)
  have HR := Lib.hid hr
  clear hb2 ho hr B1
  have z2 := HB2.out.size
  obtain ⟨x, hx, ex⟩ := number_nat i 640 (by omega)
  have ex' : i % 640 = (x : Int) := ex
  clear ex
  obtain ⟨r, hr⟩ : ∃ r, (allP 3)[x]? = some r := ⟨_, List.getElem?_eq_getElem (by rw [← HR.out.1]; exact hx)⟩
  obtain ⟨-, rv⟩ := all_mem (List.mem_of_getElem? hr)
  obtain ⟨bk0, of0, rfl, bl0, e0, e1, e2, e3, e4⟩ := HR.out.at_ hr
  have HV := Lib.hid rv
  have rs := valid_gi rv
  have HSS := Lib.hid (show -9223372036854775808 ≤ r.s ∧ r.s ≤ 9223372036854775807 by omega)
  clear hr rv rs
  go_wp2_with fail
  refine (number_any i 640 _ (by omega) (by omega) i0 i1).mono ?_
  rintro e w3 ⟨rfl, rfl⟩
  rw [ex']
  clear ex' i0 i1
  go_wp2_with fail
  refine (number_any z 1500 _ (by omega) (by omega) z0 z1).mono ?_
  rintro e w3 ⟨rfl, rfl⟩
  rw [ep]
  clear ep z0 z1 e0 e1 e2 e3 e4
  go_wp2_with fail
  obtain ⟨s, hs⟩ : ∃ s, (p : Int) + 1 = s := ⟨_, rfl⟩
  rw [hs]
  have g1 : 1 ≤ s := by omega
  have g2 : s ≤ 1500 := by omega
  clear hs
  refine (number_any cc 70 _ (by omega) (by omega) cc0 cc1).mono ?_
  rintro e w3 ⟨rfl, rfl⟩
  rw [ec1]
  clear ec1 cc0 cc1
  go_wp2_with fail
  refine (number_any cb 65536 _ (by omega) (by omega) cb0 cb1).mono ?_
  rintro e w3 ⟨rfl, rfl⟩
  rw [ec2]
  clear ec2 cb0 cb1
  go_wp2_with fail
  refine (number_any ct 54841 _ (by omega) (by omega) ct0 ct1).mono ?_
  rintro e w3 ⟨rfl, rfl⟩
  rw [ec3]
  clear ec3 ct0 ct1
  have HA := Lib.hid ((RtB.new w2 r).alloc (.cells #[.int .i64 (c1 : Int), .int .i64 (c2 : Int), .int .i64 (c3 : Int)] 25))
  have HB := Lib.hid (LmB.new' w2 (c1 : Int) (c2 : Int) (c3 : Int) (.cells #[.int .i64 r.m, .int .i64 r.c, .int .i64 r.s, .int .i64 r.w, .int .i64 r.g] 23))
  have BB := Lib.hid (show Below w.heap.size w ((w2.alloc (.cells #[.int .i64 r.m, .int .i64 r.c, .int .i64 r.s, .int .i64 r.w, .int .i64 r.g] 23)).alloc (.cells #[.int .i64 (c1 : Int), .int .i64 (c2 : Int), .int .i64 (c3 : Int)] 25)) from (HB2.out.alloc z2 _).alloc (by simp; omega) _)
  clear HB2
  have HLAW := Lib.hid (same_law HV.out g1 (show s ≤ 4095 by omega) (show (c1 : Int) ≤ 69 by omega) (show (c2 : Int) ≤ 65535 by omega) (show (c3 : Int) ≤ 54840 by omega))
  go_wp2_with fail
  go_loopw [15, 16, 17] (fun l wn k wr => ∃ j : Nat, j ≤ 64 ∧ k = .int .i64 ((j : Int) + 1) ∧ wn = .int .i64 (wantP r c1 c2 c3 s j : Int) ∧ (∃ A C, l = .slice A j C ∧ OwnI wr w.heap.size A j C (List.replicate j s)) ∧ RtB wr w2.heap.size r ∧ LmB wr (w2.heap.size + 1) c1 c2 c3 ∧ Below w.heap.size w wr) (fun _ _ k _ => 65 - (intOf k).toNat)
  case atStart => exact ⟨0, Nat.zero_le _, by go_num, rfl, ⟨none, 0, rfl, ownI_nil _ _⟩, HA.out, HB.out, BB.out⟩
  case round =>
    obtain ⟨j, hj, rfl, rfl, ⟨A, Cp, rfl, hown⟩, hA, hB, hb⟩ := hrel
    have HO1 := Lib.hid hown
    have HA1 := Lib.hid hA
    have HB1 := Lib.hid hB
    have BB1 := Lib.hid hb
    clear hown hA hB hb HA HB BB
    by_cases hlt : j < 64
    case neg =>
      obtain rfl : j = 64 := by omega
      obtain ⟨e0, e1, e2, e3, e4⟩ := HA1.out.cells
      obtain ⟨f0, f1, f2⟩ := HB1.out.cells
      have za := HA1.out.lt
      have zb := HB1.out.lt
      have hrow : RowN wr A 64 Cp (List.replicate 64 s) := ⟨by simp, HO1.out.row⟩
      have hcap := hrow.2.len_cap
      have HRR := Lib.hid hrow
      clear hrow
      have K1 := Lib.hid (fun (w : World) (h : RowN w A 64 Cp (List.replicate 64 s)) => choose_any r c1 c2 c3 A 64 Cp (List.replicate 64 s) w h (by omega))
      rw [HLAW.out] at K1
      simp only at K1
      have K2 := Lib.hid (fun (w : World) (h : RowN w A 64 Cp (List.replicate 64 s)) => aggLen_any A 1 Cp [s] w (show RowN w A 1 Cp [s] from h.take (k := 1) (by omega)) (by omega) (fun y hy => by simp at hy; omega))
      rw [show aggP [s] = 4 + s from agg_rep s g1 0 |>.trans (by simp)] at K2
      have hwl := want_le r c1 c2 c3 s 64
      generalize wantP r c1 c2 c3 s 64 = W at *
      go_wp2_with fail
      refine (K1.out _ HRR.out).mono ?_
      rintro e y1 ⟨rfl, hb⟩
      have HRR1 := Lib.hid (HRR.out.below hb (Nat.le_refl _))
      have BB2 := Lib.hid (BB1.out.trans (hb.mono BB1.out.size))
      clear hb e0 e1 e2 e3 e4 f0 f1 f2
      rcases Nat.eq_zero_or_pos W with hW | hW
      · subst hW
        rw [show max (((0 : Nat)) : Int) 1 = 1 by decide, show decide ((0 : Int) < ((0 : Nat) : Int)) = false by decide]
        rw [show (((0 : Nat)) : Int) = 0 from rfl]
        go_wp2_with fail
        refine (K2.out _ HRR1.out).mono ?_
        rintro e y2 ⟨rfl, rfl⟩
        go_wp2_with fail
        go_ret
        exact ⟨rfl, BB2.out⟩
      · have hm1 : max ((W : Nat) : Int) 1 = (W : Int) := by omega
        have hm2 : decide ((0 : Int) < (W : Int)) = true := decide_eq_true (by omega)
        have hm3 : (if (W : Int) < 1 then (1 : Int) else (W : Int)) = (W : Int) := if_neg (by omega)
        have hm4 : (if (1 : Int) < (W : Int) then (W : Int) else (1 : Int)) = (W : Int) := by split <;> omega
        rw [hm1, hm2]
        go_wp2_with fail
        refine (K2.out _ HRR1.out).mono ?_
        rintro e y2 ⟨rfl, rfl⟩
        go_wp2_with fail
        go_ret
        exact ⟨rfl, BB2.out⟩
    case pos =>
      have zB := BB1.out.size
      obtain ⟨u0, u1⟩ : 0 ≤ (j : Int) * ((4 + s + 3) / 4 * 4) ∧ (j : Int) * ((4 + s + 3) / 4 * 4) ≤ 63 * 1508 := mul_nn (by omega) (by omega) (by omega) (by omega)
      have x1 : IntKind.i64.wrap ((j : Int) * ((4 + s + 3) / 4 * 4)) = (j : Int) * ((4 + s + 3) / 4 * 4) := IntWalk.i64_in _ (by omega)
      have x2 : wrap64 ((j : Int) * ((4 + s + 3) / 4 * 4)) = (j : Int) * ((4 + s + 3) / 4 * 4) := IntWalk.wrap64_in _ (by omega)
      have HTI := Lib.hid (show tight r c1 c2 c3 s j = (decide ((j : Int) + 1 ≤ c1) && (decide ((j : Int) * ((4 + s + 3) / 4 * 4) + 4 + s ≤ c2) && decide (ppP r ((j : Int) * ((4 + s + 3) / 4 * 4) + 4 + s) ≤ c3))) from rfl)
      have HWS := Lib.hid (show wantP r c1 c2 c3 s (j + 1) = if tight r c1 c2 c3 s j = true ∧ wantP r c1 c2 c3 s j = j then j + 1 else wantP r c1 c2 c3 s j from rfl)
      have hwl := want_le r c1 c2 c3 s j
      have KP := Lib.hid (fun w => rppdu_any r ((j : Int) * ((4 + s + 3) / 4 * 4) + 4 + s) w HSS.out.1 HSS.out.2 (by omega) (by omega))
      generalize ppP r ((j : Int) * ((4 + s + 3) / 4 * 4) + 4 + s) = X at *
      generalize wantP r c1 c2 c3 s j = W at *
      obtain ⟨N, hN⟩ : ∃ N, (j : Int) * ((4 + s + 3) / 4 * 4) + 4 + s = N := ⟨_, rfl⟩
      have HN := Lib.hid hN
      clear hN
      go_wp2_with (at_builtin; refine append_int _ rfl (.tmp 46) (.tmp 48) rfl w.heap.size A j Cp (List.replicate j s) rfl (HO1.out.alloc _) (some ⟨wr.heap.size, 0, none⟩) 1 1 [s] rfl (row_int1 wr s _) (by omega) (by simp; omega) ?_; intro A2 C2 w9 hown2 hg2 hat2; have HO2 := Lib.hid hown2; have HG2 := Lib.hid hg2; clear hown2 hg2 hat2)
      rw [HN.out] at HTI KP ⊢
      have hAr := HA1.out.alloc (.cells #[.int .i64 s] 3)
      have hBr := Blk.alloc HB1.out (.cells #[.int .i64 s] 3)
      have HA9 := Lib.hid (show RtB w9 w2.heap.size r from Blk.grown hAr HG2.out (own_ne (HO1.out.alloc _) hAr (by decide)))
      have HB9 := Lib.hid (show LmB w9 (w2.heap.size + 1) c1 c2 c3 from Blk.grown hBr HG2.out (own_ne (HO1.out.alloc _) hBr (by decide)))
      have HO9 := Lib.hid (show OwnI w9 w.heap.size A2 (j + 1) C2 (List.replicate (j + 1) s) by rw [List.replicate_succ']; exact HO2.out)
      have BB9 := Lib.hid (below_grown (BB1.out.alloc zB _) (HO1.out.alloc _) (Nat.le_refl _) (by simp; omega) HG2.out)
      obtain ⟨e0, e1, e2, e3, e4⟩ := HA9.out.cells
      obtain ⟨f0, f1, f2⟩ := HB9.out.cells
      have za := HA9.out.lt
      have zb := HB9.out.lt
      have c0 : w9.drew.cell? ⟨w2.heap.size, 0, none⟩ = some (.int .i64 r.m) ∧ w9.drew.cell? ⟨w2.heap.size, 1, none⟩ = some (.int .i64 r.c) ∧ w9.drew.cell? ⟨w2.heap.size, 2, none⟩ = some (.int .i64 r.s) ∧ w9.drew.cell? ⟨w2.heap.size, 3, none⟩ = some (.int .i64 r.w) ∧ w9.drew.cell? ⟨w2.heap.size, 4, none⟩ = some (.int .i64 r.g) ∧ w9.drew.cell? ⟨w2.heap.size + 1, 0, none⟩ = some (.int .i64 (c1 : Int)) ∧ w9.drew.cell? ⟨w2.heap.size + 1, 1, none⟩ = some (.int .i64 (c2 : Int)) ∧ w9.drew.cell? ⟨w2.heap.size + 1, 2, none⟩ = some (.int .i64 (c3 : Int)) := ⟨e0, e1, e2, e3, e4, f0, f1, f2⟩
      have L0 : w2.heap.size < w9.drew.heap.size := za
      have M0 : w2.heap.size + 1 < w9.drew.heap.size := zb
      have A0' := Lib.hid (show RtB w9.drew w2.heap.size r from HA9.out)
      have B0' := Lib.hid (show LmB w9.drew (w2.heap.size + 1) c1 c2 c3 from HB9.out)
      have O0 := Lib.hid (show OwnI w9.drew w.heap.size A2 (j + 1) C2 (List.replicate (j + 1) s) from HO9.out)
      have H0 := Lib.hid (show Below w.heap.size w w9.drew from BB9.out.trans (Below.drew (Below.refl _ _)))
      clear hAr hBr HA1 HB1 HO1 BB1 HO2 HG2 x1 x2 u0 u1 e0 e1 e2 e3 e4 f0 f1 f2 za zb
      have v1 : IntKind.i64.wrap ((j : Int) + 1 - 1) = (j : Int) := by rw [IntWalk.i64_in _ (by omega)]; omega
      have v2 : IntKind.i64.wrap (j : Int) = (j : Int) := IntWalk.i64_in _ (by omega)
      by_cases t1 : (j : Int) + 1 ≤ (c1 : Int)
      case neg =>
        have d1 : decide ((j : Int) + 1 ≤ (c1 : Int)) = false := decide_eq_false t1
        have HW := Lib.hid (show wantP r c1 c2 c3 s (j + 1) = W by rw [HWS.out, HTI.out, d1, Bool.false_and, if_neg (by simp)])
        clear t1 HWS HTI
        refine wp_region_held_drew (S := (fun y => y.cell? ⟨w2.heap.size, 0, none⟩ = some (.int .i64 r.m) ∧ y.cell? ⟨w2.heap.size, 1, none⟩ = some (.int .i64 r.c) ∧ y.cell? ⟨w2.heap.size, 2, none⟩ = some (.int .i64 r.s) ∧ y.cell? ⟨w2.heap.size, 3, none⟩ = some (.int .i64 r.w) ∧ y.cell? ⟨w2.heap.size, 4, none⟩ = some (.int .i64 r.g) ∧ y.cell? ⟨w2.heap.size + 1, 0, none⟩ = some (.int .i64 (c1 : Int)) ∧ y.cell? ⟨w2.heap.size + 1, 1, none⟩ = some (.int .i64 (c2 : Int)) ∧ y.cell? ⟨w2.heap.size + 1, 2, none⟩ = some (.int .i64 (c3 : Int)))) (by kernel_rfl) ?_ (fun hHeld => ?_)
        · (try dsimp only); exact c0
        refine wpAnyH_take (i := 0) (oi := { dst := some 61, op := Op.move (Operand.tmp 17), type := 3, pos := "more.go:26", after := #[], guard := none }) (v := ?hv1) rfl (by kernel_rfl) (by kernel_rfl) (by kernel_rfl) (fun _ _ _ h => h) (Or.inl ⟨by rfl, ?hy1⟩) (by assumption) ?_
        case hy1 => ((intro w hSw); (try dsimp only at hSw); go_simp; (try with_reducible rfl))
        try simp only [Act.put, List.setIfInBounds_toArray, List.set_cons_zero, List.set_cons_succ]
        refine wpAnyH_take (i := 1) (oi := { dst := some 62, op := Op.fieldAddr 25 (Operand.tmp 14) 0, type := 0, pos := "more.go:26", after := #[], guard := none }) (v := ?hv2) rfl (by kernel_rfl) (by kernel_rfl) (by kernel_rfl) (fun _ _ _ h => h) (Or.inl ⟨by rfl, ?hy2⟩) (by assumption) ?_
        case hy2 => ((intro w hSw); (try dsimp only at hSw); go_simp; (try with_reducible rfl))
        try simp only [Act.put, List.setIfInBounds_toArray, List.set_cons_zero, List.set_cons_succ]
        refine wpAnyH_take (i := 2) (oi := { dst := some 63, op := Op.load 3 (Operand.tmp 62), type := 3, pos := "more.go:26", after := #[{ on := 1, ground := Ground.data }], guard := none }) (v := ?hv3) rfl (by kernel_rfl) (by kernel_rfl) (by kernel_rfl) (fun _ _ _ h => h) (Or.inl ⟨by rfl, ?hy3⟩) (by assumption) ?_
        case hy3 => ((intro w hSw); (try dsimp only at hSw); go_simp; (try with_reducible rfl))
        try simp only [Act.put, List.setIfInBounds_toArray, List.set_cons_zero, List.set_cons_succ]
        refine wpAnyH_take (i := 3) (oi := { dst := some 64, op := Op.binOp BinOp.leq 3 (Operand.tmp 61) (Operand.tmp 63) 3, type := 4, pos := "more.go:26", after := #[{ on := 0, ground := Ground.data }, { on := 2, ground := Ground.data }], guard := none }) (v := ?hv4) rfl (by kernel_rfl) (by kernel_rfl) (by kernel_rfl) (fun _ _ _ h => h) (Or.inl ⟨by rfl, ?hy4⟩) (by assumption) ?_
        case hy4 => ((intro w hSw); (try dsimp only at hSw); go_simp; (try with_reducible rfl))
        try simp only [Act.put, List.setIfInBounds_toArray, List.set_cons_zero, List.set_cons_succ]
        refine wpAnyH_take (i := 4) (oi := { dst := some 65, op := Op.move (Operand.tmp 64), type := 4, pos := "more.go:26", after := #[{ on := 3, ground := Ground.data }], guard := none }) (v := ?hv5) rfl (by kernel_rfl) (by kernel_rfl) (by kernel_rfl) (fun _ _ _ h => h) (Or.inl ⟨by rfl, ?hy5⟩) (by assumption) ?_
        case hy5 => ((intro w hSw); (try dsimp only at hSw); go_simp; (try with_reducible rfl))
        try simp only [Act.put, List.setIfInBounds_toArray, List.set_cons_zero, List.set_cons_succ]
        refine wpAnyH_take (i := 5) (oi := { dst := some 66, op := Op.move (Operand.tmp 18), type := 3, pos := "more.go:26", after := #[{ on := 4, ground := Ground.guard }], guard := some (4, true) }) (v := undef) rfl (by kernel_rfl) (by kernel_rfl) (by kernel_rfl) (fun _ _ _ h => h) (Or.inr ⟨by rfl, rfl⟩) (by assumption) ?_
        try simp only [Act.put, List.setIfInBounds_toArray, List.set_cons_zero, List.set_cons_succ]
        refine wpAnyH_take (i := 6) (oi := { dst := some 67, op := Op.fieldAddr 25 (Operand.tmp 14) 1, type := 0, pos := "more.go:26", after := #[{ on := 4, ground := Ground.guard }], guard := some (4, true) }) (v := undef) rfl (by kernel_rfl) (by kernel_rfl) (by kernel_rfl) (fun _ _ _ h => h) (Or.inr ⟨by rfl, rfl⟩) (by assumption) ?_
        try simp only [Act.put, List.setIfInBounds_toArray, List.set_cons_zero, List.set_cons_succ]
        refine wpAnyH_take (i := 7) (oi := { dst := some 68, op := Op.load 3 (Operand.tmp 67), type := 3, pos := "more.go:26", after := #[{ on := 6, ground := Ground.data }, { on := 4, ground := Ground.guard }], guard := some (4, true) }) (v := undef) rfl (by kernel_rfl) (by kernel_rfl) (by kernel_rfl) (fun _ _ _ h => h) (Or.inr ⟨by rfl, rfl⟩) (by assumption) ?_
        try simp only [Act.put, List.setIfInBounds_toArray, List.set_cons_zero, List.set_cons_succ]
        refine wpAnyH_take (i := 8) (oi := { dst := some 69, op := Op.binOp BinOp.leq 3 (Operand.tmp 66) (Operand.tmp 68) 3, type := 4, pos := "more.go:26", after := #[{ on := 5, ground := Ground.data }, { on := 7, ground := Ground.data }, { on := 4, ground := Ground.guard }], guard := some (4, true) }) (v := undef) rfl (by kernel_rfl) (by kernel_rfl) (by kernel_rfl) (fun _ _ _ h => h) (Or.inr ⟨by rfl, rfl⟩) (by assumption) ?_
        try simp only [Act.put, List.setIfInBounds_toArray, List.set_cons_zero, List.set_cons_succ]
        refine wpAnyH_take (i := 9) (oi := { dst := some 70, op := Op.pick (Operand.tmp 65) (Operand.tmp 69) (Operand.const (Value.bool false)), type := 4, pos := "more.go:26", after := #[{ on := 4, ground := Ground.data }, { on := 8, ground := Ground.data }], guard := none }) (v := ?hv6) rfl (by kernel_rfl) (by kernel_rfl) (by kernel_rfl) (fun _ _ _ h => h) (Or.inl ⟨by rfl, ?hy6⟩) (by assumption) ?_
        case hy6 => ((intro w hSw); (try dsimp only at hSw); go_simp; (try with_reducible rfl))
        try simp only [Act.put, List.setIfInBounds_toArray, List.set_cons_zero, List.set_cons_succ]
        refine wpAnyH_take (i := 10) (oi := { dst := some 71, op := Op.move (Operand.tmp 70), type := 4, pos := "more.go:26", after := #[{ on := 9, ground := Ground.data }, { on := 4, ground := Ground.chain }], guard := none }) (v := ?hv7) rfl (by kernel_rfl) (by kernel_rfl) (by kernel_rfl) (fun _ _ _ h => h) (Or.inl ⟨by rfl, ?hy7⟩) (by assumption) ?_
        case hy7 => ((intro w hSw); (try dsimp only at hSw); go_simp; (try with_reducible rfl))
        try simp only [Act.put, List.setIfInBounds_toArray, List.set_cons_zero, List.set_cons_succ]
        refine wpAnyH_take (i := 11) (oi := { dst := some 72, op := Op.load 23 (Operand.tmp 13), type := 23, pos := "more.go:26", after := #[{ on := 10, ground := Ground.guard }], guard := some (10, true) }) (v := undef) rfl (by kernel_rfl) (by kernel_rfl) (by kernel_rfl) (fun _ _ _ h => h) (Or.inr ⟨by rfl, rfl⟩) (by assumption) ?_
        try simp only [Act.put, List.setIfInBounds_toArray, List.set_cons_zero, List.set_cons_succ]
        refine wpAnyH_take (i := 12) (oi := { dst := some 73, op := Op.move (Operand.tmp 18), type := 3, pos := "more.go:26", after := #[{ on := 10, ground := Ground.guard }], guard := some (10, true) }) (v := undef) rfl (by kernel_rfl) (by kernel_rfl) (by kernel_rfl) (fun _ _ _ h => h) (Or.inr ⟨by rfl, rfl⟩) (by assumption) ?_
        try simp only [Act.put, List.setIfInBounds_toArray, List.set_cons_zero, List.set_cons_succ]
        refine wpAnyH_take (i := 13) (oi := { dst := some 74, op := Op.call { callee := Callee.value (Operand.func 15), args := #[Operand.tmp 72, Operand.tmp 73], argTypes := #[23, 3] }, type := 2, pos := "more.go:26", after := #[{ on := 11, ground := Ground.data }, { on := 12, ground := Ground.data }, { on := 10, ground := Ground.chain }, { on := 10, ground := Ground.guard }], guard := some (10, true) }) (v := undef) rfl (by kernel_rfl) (by kernel_rfl) (by kernel_rfl) (fun _ _ _ h => h) (Or.inr ⟨by rfl, rfl⟩) (by assumption) ?_
        try simp only [Act.put, List.setIfInBounds_toArray, List.set_cons_zero, List.set_cons_succ]
        refine wpAnyH_take (i := 14) (oi := { dst := some 75, op := Op.fieldAddr 25 (Operand.tmp 14) 2, type := 0, pos := "more.go:26", after := #[{ on := 10, ground := Ground.guard }], guard := some (10, true) }) (v := undef) rfl (by kernel_rfl) (by kernel_rfl) (by kernel_rfl) (fun _ _ _ h => h) (Or.inr ⟨by rfl, rfl⟩) (by assumption) ?_
        try simp only [Act.put, List.setIfInBounds_toArray, List.set_cons_zero, List.set_cons_succ]
        refine wpAnyH_take (i := 15) (oi := { dst := some 76, op := Op.load 2 (Operand.tmp 75), type := 2, pos := "more.go:26", after := #[{ on := 14, ground := Ground.data }, { on := 10, ground := Ground.guard }], guard := some (10, true) }) (v := undef) rfl (by kernel_rfl) (by kernel_rfl) (by kernel_rfl) (fun _ _ _ h => h) (Or.inr ⟨by rfl, rfl⟩) (by assumption) ?_
        try simp only [Act.put, List.setIfInBounds_toArray, List.set_cons_zero, List.set_cons_succ]
        refine wpAnyH_take (i := 16) (oi := { dst := some 77, op := Op.binOp BinOp.leq 2 (Operand.tmp 74) (Operand.tmp 76) 2, type := 4, pos := "more.go:26", after := #[{ on := 13, ground := Ground.data }, { on := 15, ground := Ground.data }, { on := 10, ground := Ground.guard }], guard := some (10, true) }) (v := undef) rfl (by kernel_rfl) (by kernel_rfl) (by kernel_rfl) (fun _ _ _ h => h) (Or.inr ⟨by rfl, rfl⟩) (by assumption) ?_
        try simp only [Act.put, List.setIfInBounds_toArray, List.set_cons_zero, List.set_cons_succ]
        refine wpAnyH_take (i := 17) (oi := { dst := some 78, op := Op.pick (Operand.tmp 71) (Operand.tmp 77) (Operand.const (Value.bool false)), type := 4, pos := "more.go:26", after := #[{ on := 10, ground := Ground.data }, { on := 16, ground := Ground.data }], guard := none }) (v := ?hv8) rfl (by kernel_rfl) (by kernel_rfl) (by kernel_rfl) (fun _ _ _ h => h) (Or.inl ⟨by rfl, ?hy8⟩) (by assumption) ?_
        case hy8 => ((intro w hSw); (try dsimp only at hSw); go_simp; (try with_reducible rfl))
        try simp only [Act.put, List.setIfInBounds_toArray, List.set_cons_zero, List.set_cons_succ]
        refine wpAnyH_take (i := 18) (oi := { dst := some 79, op := Op.move (Operand.tmp 78), type := 4, pos := "more.go:26", after := #[{ on := 17, ground := Ground.data }, { on := 13, ground := Ground.chain }], guard := none }) (v := ?hv9) rfl (by kernel_rfl) (by kernel_rfl) (by kernel_rfl) (fun _ _ _ h => h) (Or.inl ⟨by rfl, ?hy9⟩) (by assumption) ?_
        case hy9 => ((intro w hSw); (try dsimp only at hSw); go_simp; (try with_reducible rfl))
        try simp only [Act.put, List.setIfInBounds_toArray, List.set_cons_zero, List.set_cons_succ]
        refine wpAnyH_take (i := 19) (oi := { dst := some 80, op := Op.move (Operand.tmp 16), type := 3, pos := "more.go:26", after := #[{ on := 18, ground := Ground.guard }], guard := some (18, true) }) (v := undef) rfl (by kernel_rfl) (by kernel_rfl) (by kernel_rfl) (fun _ _ _ h => h) (Or.inr ⟨by rfl, rfl⟩) (by assumption) ?_
        try simp only [Act.put, List.setIfInBounds_toArray, List.set_cons_zero, List.set_cons_succ]
        refine wpAnyH_take (i := 20) (oi := { dst := some 81, op := Op.move (Operand.tmp 17), type := 3, pos := "more.go:26", after := #[{ on := 18, ground := Ground.guard }], guard := some (18, true) }) (v := undef) rfl (by kernel_rfl) (by kernel_rfl) (by kernel_rfl) (fun _ _ _ h => h) (Or.inr ⟨by rfl, rfl⟩) (by assumption) ?_
        try simp only [Act.put, List.setIfInBounds_toArray, List.set_cons_zero, List.set_cons_succ]
        refine wpAnyH_take (i := 21) (oi := { dst := some 82, op := Op.binOp BinOp.sub 3 (Operand.tmp 81) (Operand.const (Value.int IntKind.i64 1)) 3, type := 3, pos := "more.go:26", after := #[{ on := 20, ground := Ground.data }, { on := 18, ground := Ground.guard }], guard := some (18, true) }) (v := undef) rfl (by kernel_rfl) (by kernel_rfl) (by kernel_rfl) (fun _ _ _ h => h) (Or.inr ⟨by rfl, rfl⟩) (by assumption) ?_
        try simp only [Act.put, List.setIfInBounds_toArray, List.set_cons_zero, List.set_cons_succ]
        refine wpAnyH_take (i := 22) (oi := { dst := some 83, op := Op.binOp BinOp.eql 3 (Operand.tmp 80) (Operand.tmp 82) 3, type := 4, pos := "more.go:26", after := #[{ on := 19, ground := Ground.data }, { on := 21, ground := Ground.data }, { on := 18, ground := Ground.guard }], guard := some (18, true) }) (v := undef) rfl (by kernel_rfl) (by kernel_rfl) (by kernel_rfl) (fun _ _ _ h => h) (Or.inr ⟨by rfl, rfl⟩) (by assumption) ?_
        try simp only [Act.put, List.setIfInBounds_toArray, List.set_cons_zero, List.set_cons_succ]
        refine wpAnyH_take (i := 23) (oi := { dst := some 84, op := Op.pick (Operand.tmp 79) (Operand.tmp 83) (Operand.const (Value.bool false)), type := 4, pos := "more.go:26", after := #[{ on := 18, ground := Ground.data }, { on := 22, ground := Ground.data }], guard := none }) (v := ?hv10) rfl (by kernel_rfl) (by kernel_rfl) (by kernel_rfl) (fun _ _ _ h => h) (Or.inl ⟨by rfl, ?hy10⟩) (by assumption) ?_
        case hy10 => ((intro w hSw); (try dsimp only at hSw); go_simp; (try with_reducible rfl))
        try simp only [Act.put, List.setIfInBounds_toArray, List.set_cons_zero, List.set_cons_succ]
        refine wpAnyH_done (by kernel_rfl) ?_ _
        clear c0 v1 v2
        go_wp2_with fail
        go_roundw
        case rel => exact ⟨j + 1, by omega, by go_num, by rw [HW.out], ⟨A2, C2, rfl, O0.out⟩, A0'.out, B0'.out, H0.out⟩
        case measure => simp [intOf]; omega
      case pos =>
      have d1 : decide ((j : Int) + 1 ≤ (c1 : Int)) = true := decide_eq_true t1
      by_cases t2 : N ≤ (c2 : Int)
      case neg =>
        have d2 : decide (N ≤ (c2 : Int)) = false := decide_eq_false t2
        have HW := Lib.hid (show wantP r c1 c2 c3 s (j + 1) = W by rw [HWS.out, HTI.out, d2, Bool.false_and, Bool.and_false, if_neg (by simp)])
        clear t1 t2 HWS HTI
        refine wp_region_held_drew (S := (fun y => y.cell? ⟨w2.heap.size, 0, none⟩ = some (.int .i64 r.m) ∧ y.cell? ⟨w2.heap.size, 1, none⟩ = some (.int .i64 r.c) ∧ y.cell? ⟨w2.heap.size, 2, none⟩ = some (.int .i64 r.s) ∧ y.cell? ⟨w2.heap.size, 3, none⟩ = some (.int .i64 r.w) ∧ y.cell? ⟨w2.heap.size, 4, none⟩ = some (.int .i64 r.g) ∧ y.cell? ⟨w2.heap.size + 1, 0, none⟩ = some (.int .i64 (c1 : Int)) ∧ y.cell? ⟨w2.heap.size + 1, 1, none⟩ = some (.int .i64 (c2 : Int)) ∧ y.cell? ⟨w2.heap.size + 1, 2, none⟩ = some (.int .i64 (c3 : Int)))) (by kernel_rfl) ?_ (fun hHeld => ?_)
        · (try dsimp only); exact c0
        refine wpAnyH_take (i := 0) (oi := { dst := some 61, op := Op.move (Operand.tmp 17), type := 3, pos := "more.go:26", after := #[], guard := none }) (v := ?hv11) rfl (by kernel_rfl) (by kernel_rfl) (by kernel_rfl) (fun _ _ _ h => h) (Or.inl ⟨by rfl, ?hy11⟩) (by assumption) ?_
        case hy11 => ((intro w hSw); (try dsimp only at hSw); go_simp; (try with_reducible rfl))
        try simp only [Act.put, List.setIfInBounds_toArray, List.set_cons_zero, List.set_cons_succ]
        refine wpAnyH_take (i := 1) (oi := { dst := some 62, op := Op.fieldAddr 25 (Operand.tmp 14) 0, type := 0, pos := "more.go:26", after := #[], guard := none }) (v := ?hv12) rfl (by kernel_rfl) (by kernel_rfl) (by kernel_rfl) (fun _ _ _ h => h) (Or.inl ⟨by rfl, ?hy12⟩) (by assumption) ?_
        case hy12 => ((intro w hSw); (try dsimp only at hSw); go_simp; (try with_reducible rfl))
        try simp only [Act.put, List.setIfInBounds_toArray, List.set_cons_zero, List.set_cons_succ]
        refine wpAnyH_take (i := 2) (oi := { dst := some 63, op := Op.load 3 (Operand.tmp 62), type := 3, pos := "more.go:26", after := #[{ on := 1, ground := Ground.data }], guard := none }) (v := ?hv13) rfl (by kernel_rfl) (by kernel_rfl) (by kernel_rfl) (fun _ _ _ h => h) (Or.inl ⟨by rfl, ?hy13⟩) (by assumption) ?_
        case hy13 => ((intro w hSw); (try dsimp only at hSw); go_simp; (try with_reducible rfl))
        try simp only [Act.put, List.setIfInBounds_toArray, List.set_cons_zero, List.set_cons_succ]
        refine wpAnyH_take (i := 3) (oi := { dst := some 64, op := Op.binOp BinOp.leq 3 (Operand.tmp 61) (Operand.tmp 63) 3, type := 4, pos := "more.go:26", after := #[{ on := 0, ground := Ground.data }, { on := 2, ground := Ground.data }], guard := none }) (v := ?hv14) rfl (by kernel_rfl) (by kernel_rfl) (by kernel_rfl) (fun _ _ _ h => h) (Or.inl ⟨by rfl, ?hy14⟩) (by assumption) ?_
        case hy14 => ((intro w hSw); (try dsimp only at hSw); go_simp; (try with_reducible rfl))
        try simp only [Act.put, List.setIfInBounds_toArray, List.set_cons_zero, List.set_cons_succ]
        refine wpAnyH_take (i := 4) (oi := { dst := some 65, op := Op.move (Operand.tmp 64), type := 4, pos := "more.go:26", after := #[{ on := 3, ground := Ground.data }], guard := none }) (v := ?hv15) rfl (by kernel_rfl) (by kernel_rfl) (by kernel_rfl) (fun _ _ _ h => h) (Or.inl ⟨by rfl, ?hy15⟩) (by assumption) ?_
        case hy15 => ((intro w hSw); (try dsimp only at hSw); go_simp; (try with_reducible rfl))
        try simp only [Act.put, List.setIfInBounds_toArray, List.set_cons_zero, List.set_cons_succ]
        refine wpAnyH_take (i := 5) (oi := { dst := some 66, op := Op.move (Operand.tmp 18), type := 3, pos := "more.go:26", after := #[{ on := 4, ground := Ground.guard }], guard := some (4, true) }) (v := ?hv16) rfl (by kernel_rfl) (by kernel_rfl) (by kernel_rfl) (fun _ _ _ h => h) (Or.inl ⟨by rfl, ?hy16⟩) (by assumption) ?_
        case hy16 => ((intro w hSw); (try dsimp only at hSw); go_simp; (try with_reducible rfl))
        try simp only [Act.put, List.setIfInBounds_toArray, List.set_cons_zero, List.set_cons_succ]
        refine wpAnyH_take (i := 6) (oi := { dst := some 67, op := Op.fieldAddr 25 (Operand.tmp 14) 1, type := 0, pos := "more.go:26", after := #[{ on := 4, ground := Ground.guard }], guard := some (4, true) }) (v := ?hv17) rfl (by kernel_rfl) (by kernel_rfl) (by kernel_rfl) (fun _ _ _ h => h) (Or.inl ⟨by rfl, ?hy17⟩) (by assumption) ?_
        case hy17 => ((intro w hSw); (try dsimp only at hSw); go_simp; (try with_reducible rfl))
        try simp only [Act.put, List.setIfInBounds_toArray, List.set_cons_zero, List.set_cons_succ]
        refine wpAnyH_take (i := 7) (oi := { dst := some 68, op := Op.load 3 (Operand.tmp 67), type := 3, pos := "more.go:26", after := #[{ on := 6, ground := Ground.data }, { on := 4, ground := Ground.guard }], guard := some (4, true) }) (v := ?hv18) rfl (by kernel_rfl) (by kernel_rfl) (by kernel_rfl) (fun _ _ _ h => h) (Or.inl ⟨by rfl, ?hy18⟩) (by assumption) ?_
        case hy18 => ((intro w hSw); (try dsimp only at hSw); go_simp; (try with_reducible rfl))
        try simp only [Act.put, List.setIfInBounds_toArray, List.set_cons_zero, List.set_cons_succ]
        refine wpAnyH_take (i := 8) (oi := { dst := some 69, op := Op.binOp BinOp.leq 3 (Operand.tmp 66) (Operand.tmp 68) 3, type := 4, pos := "more.go:26", after := #[{ on := 5, ground := Ground.data }, { on := 7, ground := Ground.data }, { on := 4, ground := Ground.guard }], guard := some (4, true) }) (v := ?hv19) rfl (by kernel_rfl) (by kernel_rfl) (by kernel_rfl) (fun _ _ _ h => h) (Or.inl ⟨by rfl, ?hy19⟩) (by assumption) ?_
        case hy19 => ((intro w hSw); (try dsimp only at hSw); go_simp; (try with_reducible rfl))
        try simp only [Act.put, List.setIfInBounds_toArray, List.set_cons_zero, List.set_cons_succ]
        refine wpAnyH_take (i := 9) (oi := { dst := some 70, op := Op.pick (Operand.tmp 65) (Operand.tmp 69) (Operand.const (Value.bool false)), type := 4, pos := "more.go:26", after := #[{ on := 4, ground := Ground.data }, { on := 8, ground := Ground.data }], guard := none }) (v := ?hv20) rfl (by kernel_rfl) (by kernel_rfl) (by kernel_rfl) (fun _ _ _ h => h) (Or.inl ⟨by rfl, ?hy20⟩) (by assumption) ?_
        case hy20 => ((intro w hSw); (try dsimp only at hSw); go_simp; (try with_reducible rfl))
        try simp only [Act.put, List.setIfInBounds_toArray, List.set_cons_zero, List.set_cons_succ]
        refine wpAnyH_take (i := 10) (oi := { dst := some 71, op := Op.move (Operand.tmp 70), type := 4, pos := "more.go:26", after := #[{ on := 9, ground := Ground.data }, { on := 4, ground := Ground.chain }], guard := none }) (v := ?hv21) rfl (by kernel_rfl) (by kernel_rfl) (by kernel_rfl) (fun _ _ _ h => h) (Or.inl ⟨by rfl, ?hy21⟩) (by assumption) ?_
        case hy21 => ((intro w hSw); (try dsimp only at hSw); go_simp; (try with_reducible rfl))
        try simp only [Act.put, List.setIfInBounds_toArray, List.set_cons_zero, List.set_cons_succ]
        refine wpAnyH_take (i := 11) (oi := { dst := some 72, op := Op.load 23 (Operand.tmp 13), type := 23, pos := "more.go:26", after := #[{ on := 10, ground := Ground.guard }], guard := some (10, true) }) (v := undef) rfl (by kernel_rfl) (by kernel_rfl) (by kernel_rfl) (fun _ _ _ h => h) (Or.inr ⟨by rfl, rfl⟩) (by assumption) ?_
        try simp only [Act.put, List.setIfInBounds_toArray, List.set_cons_zero, List.set_cons_succ]
        refine wpAnyH_take (i := 12) (oi := { dst := some 73, op := Op.move (Operand.tmp 18), type := 3, pos := "more.go:26", after := #[{ on := 10, ground := Ground.guard }], guard := some (10, true) }) (v := undef) rfl (by kernel_rfl) (by kernel_rfl) (by kernel_rfl) (fun _ _ _ h => h) (Or.inr ⟨by rfl, rfl⟩) (by assumption) ?_
        try simp only [Act.put, List.setIfInBounds_toArray, List.set_cons_zero, List.set_cons_succ]
        refine wpAnyH_take (i := 13) (oi := { dst := some 74, op := Op.call { callee := Callee.value (Operand.func 15), args := #[Operand.tmp 72, Operand.tmp 73], argTypes := #[23, 3] }, type := 2, pos := "more.go:26", after := #[{ on := 11, ground := Ground.data }, { on := 12, ground := Ground.data }, { on := 10, ground := Ground.chain }, { on := 10, ground := Ground.guard }], guard := some (10, true) }) (v := undef) rfl (by kernel_rfl) (by kernel_rfl) (by kernel_rfl) (fun _ _ _ h => h) (Or.inr ⟨by rfl, rfl⟩) (by assumption) ?_
        try simp only [Act.put, List.setIfInBounds_toArray, List.set_cons_zero, List.set_cons_succ]
        refine wpAnyH_take (i := 14) (oi := { dst := some 75, op := Op.fieldAddr 25 (Operand.tmp 14) 2, type := 0, pos := "more.go:26", after := #[{ on := 10, ground := Ground.guard }], guard := some (10, true) }) (v := undef) rfl (by kernel_rfl) (by kernel_rfl) (by kernel_rfl) (fun _ _ _ h => h) (Or.inr ⟨by rfl, rfl⟩) (by assumption) ?_
        try simp only [Act.put, List.setIfInBounds_toArray, List.set_cons_zero, List.set_cons_succ]
        refine wpAnyH_take (i := 15) (oi := { dst := some 76, op := Op.load 2 (Operand.tmp 75), type := 2, pos := "more.go:26", after := #[{ on := 14, ground := Ground.data }, { on := 10, ground := Ground.guard }], guard := some (10, true) }) (v := undef) rfl (by kernel_rfl) (by kernel_rfl) (by kernel_rfl) (fun _ _ _ h => h) (Or.inr ⟨by rfl, rfl⟩) (by assumption) ?_
        try simp only [Act.put, List.setIfInBounds_toArray, List.set_cons_zero, List.set_cons_succ]
        refine wpAnyH_take (i := 16) (oi := { dst := some 77, op := Op.binOp BinOp.leq 2 (Operand.tmp 74) (Operand.tmp 76) 2, type := 4, pos := "more.go:26", after := #[{ on := 13, ground := Ground.data }, { on := 15, ground := Ground.data }, { on := 10, ground := Ground.guard }], guard := some (10, true) }) (v := undef) rfl (by kernel_rfl) (by kernel_rfl) (by kernel_rfl) (fun _ _ _ h => h) (Or.inr ⟨by rfl, rfl⟩) (by assumption) ?_
        try simp only [Act.put, List.setIfInBounds_toArray, List.set_cons_zero, List.set_cons_succ]
        refine wpAnyH_take (i := 17) (oi := { dst := some 78, op := Op.pick (Operand.tmp 71) (Operand.tmp 77) (Operand.const (Value.bool false)), type := 4, pos := "more.go:26", after := #[{ on := 10, ground := Ground.data }, { on := 16, ground := Ground.data }], guard := none }) (v := ?hv22) rfl (by kernel_rfl) (by kernel_rfl) (by kernel_rfl) (fun _ _ _ h => h) (Or.inl ⟨by rfl, ?hy22⟩) (by assumption) ?_
        case hy22 => ((intro w hSw); (try dsimp only at hSw); go_simp; (try with_reducible rfl))
        try simp only [Act.put, List.setIfInBounds_toArray, List.set_cons_zero, List.set_cons_succ]
        refine wpAnyH_take (i := 18) (oi := { dst := some 79, op := Op.move (Operand.tmp 78), type := 4, pos := "more.go:26", after := #[{ on := 17, ground := Ground.data }, { on := 13, ground := Ground.chain }], guard := none }) (v := ?hv23) rfl (by kernel_rfl) (by kernel_rfl) (by kernel_rfl) (fun _ _ _ h => h) (Or.inl ⟨by rfl, ?hy23⟩) (by assumption) ?_
        case hy23 => ((intro w hSw); (try dsimp only at hSw); go_simp; (try with_reducible rfl))
        try simp only [Act.put, List.setIfInBounds_toArray, List.set_cons_zero, List.set_cons_succ]
        refine wpAnyH_take (i := 19) (oi := { dst := some 80, op := Op.move (Operand.tmp 16), type := 3, pos := "more.go:26", after := #[{ on := 18, ground := Ground.guard }], guard := some (18, true) }) (v := undef) rfl (by kernel_rfl) (by kernel_rfl) (by kernel_rfl) (fun _ _ _ h => h) (Or.inr ⟨by rfl, rfl⟩) (by assumption) ?_
        try simp only [Act.put, List.setIfInBounds_toArray, List.set_cons_zero, List.set_cons_succ]
        refine wpAnyH_take (i := 20) (oi := { dst := some 81, op := Op.move (Operand.tmp 17), type := 3, pos := "more.go:26", after := #[{ on := 18, ground := Ground.guard }], guard := some (18, true) }) (v := undef) rfl (by kernel_rfl) (by kernel_rfl) (by kernel_rfl) (fun _ _ _ h => h) (Or.inr ⟨by rfl, rfl⟩) (by assumption) ?_
        try simp only [Act.put, List.setIfInBounds_toArray, List.set_cons_zero, List.set_cons_succ]
        refine wpAnyH_take (i := 21) (oi := { dst := some 82, op := Op.binOp BinOp.sub 3 (Operand.tmp 81) (Operand.const (Value.int IntKind.i64 1)) 3, type := 3, pos := "more.go:26", after := #[{ on := 20, ground := Ground.data }, { on := 18, ground := Ground.guard }], guard := some (18, true) }) (v := undef) rfl (by kernel_rfl) (by kernel_rfl) (by kernel_rfl) (fun _ _ _ h => h) (Or.inr ⟨by rfl, rfl⟩) (by assumption) ?_
        try simp only [Act.put, List.setIfInBounds_toArray, List.set_cons_zero, List.set_cons_succ]
        refine wpAnyH_take (i := 22) (oi := { dst := some 83, op := Op.binOp BinOp.eql 3 (Operand.tmp 80) (Operand.tmp 82) 3, type := 4, pos := "more.go:26", after := #[{ on := 19, ground := Ground.data }, { on := 21, ground := Ground.data }, { on := 18, ground := Ground.guard }], guard := some (18, true) }) (v := undef) rfl (by kernel_rfl) (by kernel_rfl) (by kernel_rfl) (fun _ _ _ h => h) (Or.inr ⟨by rfl, rfl⟩) (by assumption) ?_
        try simp only [Act.put, List.setIfInBounds_toArray, List.set_cons_zero, List.set_cons_succ]
        refine wpAnyH_take (i := 23) (oi := { dst := some 84, op := Op.pick (Operand.tmp 79) (Operand.tmp 83) (Operand.const (Value.bool false)), type := 4, pos := "more.go:26", after := #[{ on := 18, ground := Ground.data }, { on := 22, ground := Ground.data }], guard := none }) (v := ?hv24) rfl (by kernel_rfl) (by kernel_rfl) (by kernel_rfl) (fun _ _ _ h => h) (Or.inl ⟨by rfl, ?hy24⟩) (by assumption) ?_
        case hy24 => ((intro w hSw); (try dsimp only at hSw); go_simp; (try with_reducible rfl))
        try simp only [Act.put, List.setIfInBounds_toArray, List.set_cons_zero, List.set_cons_succ]
        refine wpAnyH_done (by kernel_rfl) ?_ _
        clear c0 v1 v2
        go_wp2_with fail
        go_roundw
        case rel => exact ⟨j + 1, by omega, by go_num, by rw [HW.out], ⟨A2, C2, rfl, O0.out⟩, A0'.out, B0'.out, H0.out⟩
        case measure => simp [intOf]; omega
      case pos =>
      have d2 : decide (N ≤ (c2 : Int)) = true := decide_eq_true t2
      by_cases t3 : X ≤ (c3 : Int)
      case neg =>
        have d3 : decide (X ≤ (c3 : Int)) = false := decide_eq_false t3
        have HW := Lib.hid (show wantP r c1 c2 c3 s (j + 1) = W by rw [HWS.out, HTI.out, d3, Bool.and_false, Bool.and_false, if_neg (by simp)])
        clear t1 t2 t3 HWS HTI
        refine wp_region_held_drew (S := (fun y => y.cell? ⟨w2.heap.size, 0, none⟩ = some (.int .i64 r.m) ∧ y.cell? ⟨w2.heap.size, 1, none⟩ = some (.int .i64 r.c) ∧ y.cell? ⟨w2.heap.size, 2, none⟩ = some (.int .i64 r.s) ∧ y.cell? ⟨w2.heap.size, 3, none⟩ = some (.int .i64 r.w) ∧ y.cell? ⟨w2.heap.size, 4, none⟩ = some (.int .i64 r.g) ∧ y.cell? ⟨w2.heap.size + 1, 0, none⟩ = some (.int .i64 (c1 : Int)) ∧ y.cell? ⟨w2.heap.size + 1, 1, none⟩ = some (.int .i64 (c2 : Int)) ∧ y.cell? ⟨w2.heap.size + 1, 2, none⟩ = some (.int .i64 (c3 : Int)))) (by kernel_rfl) ?_ (fun hHeld => ?_)
        · (try dsimp only); exact c0
        refine wpAnyH_take (i := 0) (oi := { dst := some 61, op := Op.move (Operand.tmp 17), type := 3, pos := "more.go:26", after := #[], guard := none }) (v := ?hv25) rfl (by kernel_rfl) (by kernel_rfl) (by kernel_rfl) (fun _ _ _ h => h) (Or.inl ⟨by rfl, ?hy25⟩) (by assumption) ?_
        case hy25 => ((intro w hSw); (try dsimp only at hSw); go_simp; (try with_reducible rfl))
        try simp only [Act.put, List.setIfInBounds_toArray, List.set_cons_zero, List.set_cons_succ]
        refine wpAnyH_take (i := 1) (oi := { dst := some 62, op := Op.fieldAddr 25 (Operand.tmp 14) 0, type := 0, pos := "more.go:26", after := #[], guard := none }) (v := ?hv26) rfl (by kernel_rfl) (by kernel_rfl) (by kernel_rfl) (fun _ _ _ h => h) (Or.inl ⟨by rfl, ?hy26⟩) (by assumption) ?_
        case hy26 => ((intro w hSw); (try dsimp only at hSw); go_simp; (try with_reducible rfl))
        try simp only [Act.put, List.setIfInBounds_toArray, List.set_cons_zero, List.set_cons_succ]
        refine wpAnyH_take (i := 2) (oi := { dst := some 63, op := Op.load 3 (Operand.tmp 62), type := 3, pos := "more.go:26", after := #[{ on := 1, ground := Ground.data }], guard := none }) (v := ?hv27) rfl (by kernel_rfl) (by kernel_rfl) (by kernel_rfl) (fun _ _ _ h => h) (Or.inl ⟨by rfl, ?hy27⟩) (by assumption) ?_
        case hy27 => ((intro w hSw); (try dsimp only at hSw); go_simp; (try with_reducible rfl))
        try simp only [Act.put, List.setIfInBounds_toArray, List.set_cons_zero, List.set_cons_succ]
        refine wpAnyH_take (i := 3) (oi := { dst := some 64, op := Op.binOp BinOp.leq 3 (Operand.tmp 61) (Operand.tmp 63) 3, type := 4, pos := "more.go:26", after := #[{ on := 0, ground := Ground.data }, { on := 2, ground := Ground.data }], guard := none }) (v := ?hv28) rfl (by kernel_rfl) (by kernel_rfl) (by kernel_rfl) (fun _ _ _ h => h) (Or.inl ⟨by rfl, ?hy28⟩) (by assumption) ?_
        case hy28 => ((intro w hSw); (try dsimp only at hSw); go_simp; (try with_reducible rfl))
        try simp only [Act.put, List.setIfInBounds_toArray, List.set_cons_zero, List.set_cons_succ]
        refine wpAnyH_take (i := 4) (oi := { dst := some 65, op := Op.move (Operand.tmp 64), type := 4, pos := "more.go:26", after := #[{ on := 3, ground := Ground.data }], guard := none }) (v := ?hv29) rfl (by kernel_rfl) (by kernel_rfl) (by kernel_rfl) (fun _ _ _ h => h) (Or.inl ⟨by rfl, ?hy29⟩) (by assumption) ?_
        case hy29 => ((intro w hSw); (try dsimp only at hSw); go_simp; (try with_reducible rfl))
        try simp only [Act.put, List.setIfInBounds_toArray, List.set_cons_zero, List.set_cons_succ]
        refine wpAnyH_take (i := 5) (oi := { dst := some 66, op := Op.move (Operand.tmp 18), type := 3, pos := "more.go:26", after := #[{ on := 4, ground := Ground.guard }], guard := some (4, true) }) (v := ?hv30) rfl (by kernel_rfl) (by kernel_rfl) (by kernel_rfl) (fun _ _ _ h => h) (Or.inl ⟨by rfl, ?hy30⟩) (by assumption) ?_
        case hy30 => ((intro w hSw); (try dsimp only at hSw); go_simp; (try with_reducible rfl))
        try simp only [Act.put, List.setIfInBounds_toArray, List.set_cons_zero, List.set_cons_succ]
        refine wpAnyH_take (i := 6) (oi := { dst := some 67, op := Op.fieldAddr 25 (Operand.tmp 14) 1, type := 0, pos := "more.go:26", after := #[{ on := 4, ground := Ground.guard }], guard := some (4, true) }) (v := ?hv31) rfl (by kernel_rfl) (by kernel_rfl) (by kernel_rfl) (fun _ _ _ h => h) (Or.inl ⟨by rfl, ?hy31⟩) (by assumption) ?_
        case hy31 => ((intro w hSw); (try dsimp only at hSw); go_simp; (try with_reducible rfl))
        try simp only [Act.put, List.setIfInBounds_toArray, List.set_cons_zero, List.set_cons_succ]
        refine wpAnyH_take (i := 7) (oi := { dst := some 68, op := Op.load 3 (Operand.tmp 67), type := 3, pos := "more.go:26", after := #[{ on := 6, ground := Ground.data }, { on := 4, ground := Ground.guard }], guard := some (4, true) }) (v := ?hv32) rfl (by kernel_rfl) (by kernel_rfl) (by kernel_rfl) (fun _ _ _ h => h) (Or.inl ⟨by rfl, ?hy32⟩) (by assumption) ?_
        case hy32 => ((intro w hSw); (try dsimp only at hSw); go_simp; (try with_reducible rfl))
        try simp only [Act.put, List.setIfInBounds_toArray, List.set_cons_zero, List.set_cons_succ]
        refine wpAnyH_take (i := 8) (oi := { dst := some 69, op := Op.binOp BinOp.leq 3 (Operand.tmp 66) (Operand.tmp 68) 3, type := 4, pos := "more.go:26", after := #[{ on := 5, ground := Ground.data }, { on := 7, ground := Ground.data }, { on := 4, ground := Ground.guard }], guard := some (4, true) }) (v := ?hv33) rfl (by kernel_rfl) (by kernel_rfl) (by kernel_rfl) (fun _ _ _ h => h) (Or.inl ⟨by rfl, ?hy33⟩) (by assumption) ?_
        case hy33 => ((intro w hSw); (try dsimp only at hSw); go_simp; (try with_reducible rfl))
        try simp only [Act.put, List.setIfInBounds_toArray, List.set_cons_zero, List.set_cons_succ]
        refine wpAnyH_take (i := 9) (oi := { dst := some 70, op := Op.pick (Operand.tmp 65) (Operand.tmp 69) (Operand.const (Value.bool false)), type := 4, pos := "more.go:26", after := #[{ on := 4, ground := Ground.data }, { on := 8, ground := Ground.data }], guard := none }) (v := ?hv34) rfl (by kernel_rfl) (by kernel_rfl) (by kernel_rfl) (fun _ _ _ h => h) (Or.inl ⟨by rfl, ?hy34⟩) (by assumption) ?_
        case hy34 => ((intro w hSw); (try dsimp only at hSw); go_simp; (try with_reducible rfl))
        try simp only [Act.put, List.setIfInBounds_toArray, List.set_cons_zero, List.set_cons_succ]
        refine wpAnyH_take (i := 10) (oi := { dst := some 71, op := Op.move (Operand.tmp 70), type := 4, pos := "more.go:26", after := #[{ on := 9, ground := Ground.data }, { on := 4, ground := Ground.chain }], guard := none }) (v := ?hv35) rfl (by kernel_rfl) (by kernel_rfl) (by kernel_rfl) (fun _ _ _ h => h) (Or.inl ⟨by rfl, ?hy35⟩) (by assumption) ?_
        case hy35 => ((intro w hSw); (try dsimp only at hSw); go_simp; (try with_reducible rfl))
        try simp only [Act.put, List.setIfInBounds_toArray, List.set_cons_zero, List.set_cons_succ]
        refine wpAnyH_take (i := 11) (oi := { dst := some 72, op := Op.load 23 (Operand.tmp 13), type := 23, pos := "more.go:26", after := #[{ on := 10, ground := Ground.guard }], guard := some (10, true) }) (v := ?hv36) rfl (by kernel_rfl) (by kernel_rfl) (by kernel_rfl) (fun _ _ _ h => h) (Or.inl ⟨by rfl, ?hy36⟩) (by assumption) ?_
        case hy36 => ((intro w hSw); (try dsimp only at hSw); go_simp; (try with_reducible rfl))
        try simp only [Act.put, List.setIfInBounds_toArray, List.set_cons_zero, List.set_cons_succ]
        refine wpAnyH_take (i := 12) (oi := { dst := some 73, op := Op.move (Operand.tmp 18), type := 3, pos := "more.go:26", after := #[{ on := 10, ground := Ground.guard }], guard := some (10, true) }) (v := ?hv37) rfl (by kernel_rfl) (by kernel_rfl) (by kernel_rfl) (fun _ _ _ h => h) (Or.inl ⟨by rfl, ?hy37⟩) (by assumption) ?_
        case hy37 => ((intro w hSw); (try dsimp only at hSw); go_simp; (try with_reducible rfl))
        try simp only [Act.put, List.setIfInBounds_toArray, List.set_cons_zero, List.set_cons_succ]
        refine wpAnyH_take (i := 14) (oi := { dst := some 75, op := Op.fieldAddr 25 (Operand.tmp 14) 2, type := 0, pos := "more.go:26", after := #[{ on := 10, ground := Ground.guard }], guard := some (10, true) }) (v := ?hv38) rfl (by kernel_rfl) (by kernel_rfl) (by kernel_rfl) (fun _ _ _ h => h) (Or.inl ⟨by rfl, ?hy38⟩) (by assumption) ?_
        case hy38 => ((intro w hSw); (try dsimp only at hSw); go_simp; (try with_reducible rfl))
        try simp only [Act.put, List.setIfInBounds_toArray, List.set_cons_zero, List.set_cons_succ]
        refine wpAnyH_take (i := 15) (oi := { dst := some 76, op := Op.load 2 (Operand.tmp 75), type := 2, pos := "more.go:26", after := #[{ on := 14, ground := Ground.data }, { on := 10, ground := Ground.guard }], guard := some (10, true) }) (v := ?hv39) rfl (by kernel_rfl) (by kernel_rfl) (by kernel_rfl) (fun _ _ _ h => h) (Or.inl ⟨by rfl, ?hy39⟩) (by assumption) ?_
        case hy39 => ((intro w hSw); (try dsimp only at hSw); go_simp; (try with_reducible rfl))
        try simp only [Act.put, List.setIfInBounds_toArray, List.set_cons_zero, List.set_cons_succ]
        refine wpAnyH_ready (rs := [13]) (by kernel_rfl) (by simp) ?_
        refine AllReadyH.cons (o := { dst := some 74, op := Op.call { callee := Callee.value (Operand.func 15), args := #[Operand.tmp 72, Operand.tmp 73], argTypes := #[23, 3] }, type := 2, pos := "more.go:26", after := #[{ on := 11, ground := Ground.data }, { on := 12, ground := Ground.data }, { on := 10, ground := Ground.chain }, { on := 10, ground := Ground.guard }], guard := some (10, true) }) rfl (fun K hK => ?_) AllReadyH.nil
        go_simp
        go_at_call 15; (with_reducible refine (KP.out _).mono ?_); rintro e y1 ⟨rfl, b1⟩; have c1' := rl (r := r) c0 b1 L0 M0; have H1 := Lib.hid (H0.out.trans (b1.mono H0.out.size)); have A1' := Lib.hid (A0'.out.below b1 (Nat.le_refl _)); have B1' := Lib.hid (B0'.out.below b1 (Nat.le_refl _)); have O1 := Lib.hid (O0.out.below b1 (Nat.le_refl _)); clear b1
        refine hK.out _ _ ?_ (fun hHeld => ?_)
        · (try dsimp only); exact c1'
        clear hK K
        try simp only [Act.put, List.setIfInBounds_toArray, List.set_cons_zero, List.set_cons_succ]
        refine wpAnyH_take (i := 16) (oi := { dst := some 77, op := Op.binOp BinOp.leq 2 (Operand.tmp 74) (Operand.tmp 76) 2, type := 4, pos := "more.go:26", after := #[{ on := 13, ground := Ground.data }, { on := 15, ground := Ground.data }, { on := 10, ground := Ground.guard }], guard := some (10, true) }) (v := ?hv40) rfl (by kernel_rfl) (by kernel_rfl) (by kernel_rfl) (fun _ _ _ h => h) (Or.inl ⟨by rfl, ?hy40⟩) (by assumption) ?_
        case hy40 => ((intro w hSw); (try dsimp only at hSw); go_simp; (try with_reducible rfl))
        try simp only [Act.put, List.setIfInBounds_toArray, List.set_cons_zero, List.set_cons_succ]
        refine wpAnyH_take (i := 17) (oi := { dst := some 78, op := Op.pick (Operand.tmp 71) (Operand.tmp 77) (Operand.const (Value.bool false)), type := 4, pos := "more.go:26", after := #[{ on := 10, ground := Ground.data }, { on := 16, ground := Ground.data }], guard := none }) (v := ?hv41) rfl (by kernel_rfl) (by kernel_rfl) (by kernel_rfl) (fun _ _ _ h => h) (Or.inl ⟨by rfl, ?hy41⟩) (by assumption) ?_
        case hy41 => ((intro w hSw); (try dsimp only at hSw); go_simp; (try with_reducible rfl))
        try simp only [Act.put, List.setIfInBounds_toArray, List.set_cons_zero, List.set_cons_succ]
        refine wpAnyH_take (i := 18) (oi := { dst := some 79, op := Op.move (Operand.tmp 78), type := 4, pos := "more.go:26", after := #[{ on := 17, ground := Ground.data }, { on := 13, ground := Ground.chain }], guard := none }) (v := ?hv42) rfl (by kernel_rfl) (by kernel_rfl) (by kernel_rfl) (fun _ _ _ h => h) (Or.inl ⟨by rfl, ?hy42⟩) (by assumption) ?_
        case hy42 => ((intro w hSw); (try dsimp only at hSw); go_simp; (try with_reducible rfl))
        try simp only [Act.put, List.setIfInBounds_toArray, List.set_cons_zero, List.set_cons_succ]
        refine wpAnyH_take (i := 19) (oi := { dst := some 80, op := Op.move (Operand.tmp 16), type := 3, pos := "more.go:26", after := #[{ on := 18, ground := Ground.guard }], guard := some (18, true) }) (v := undef) rfl (by kernel_rfl) (by kernel_rfl) (by kernel_rfl) (fun _ _ _ h => h) (Or.inr ⟨by rfl, rfl⟩) (by assumption) ?_
        try simp only [Act.put, List.setIfInBounds_toArray, List.set_cons_zero, List.set_cons_succ]
        refine wpAnyH_take (i := 20) (oi := { dst := some 81, op := Op.move (Operand.tmp 17), type := 3, pos := "more.go:26", after := #[{ on := 18, ground := Ground.guard }], guard := some (18, true) }) (v := undef) rfl (by kernel_rfl) (by kernel_rfl) (by kernel_rfl) (fun _ _ _ h => h) (Or.inr ⟨by rfl, rfl⟩) (by assumption) ?_
        try simp only [Act.put, List.setIfInBounds_toArray, List.set_cons_zero, List.set_cons_succ]
        refine wpAnyH_take (i := 21) (oi := { dst := some 82, op := Op.binOp BinOp.sub 3 (Operand.tmp 81) (Operand.const (Value.int IntKind.i64 1)) 3, type := 3, pos := "more.go:26", after := #[{ on := 20, ground := Ground.data }, { on := 18, ground := Ground.guard }], guard := some (18, true) }) (v := undef) rfl (by kernel_rfl) (by kernel_rfl) (by kernel_rfl) (fun _ _ _ h => h) (Or.inr ⟨by rfl, rfl⟩) (by assumption) ?_
        try simp only [Act.put, List.setIfInBounds_toArray, List.set_cons_zero, List.set_cons_succ]
        refine wpAnyH_take (i := 22) (oi := { dst := some 83, op := Op.binOp BinOp.eql 3 (Operand.tmp 80) (Operand.tmp 82) 3, type := 4, pos := "more.go:26", after := #[{ on := 19, ground := Ground.data }, { on := 21, ground := Ground.data }, { on := 18, ground := Ground.guard }], guard := some (18, true) }) (v := undef) rfl (by kernel_rfl) (by kernel_rfl) (by kernel_rfl) (fun _ _ _ h => h) (Or.inr ⟨by rfl, rfl⟩) (by assumption) ?_
        try simp only [Act.put, List.setIfInBounds_toArray, List.set_cons_zero, List.set_cons_succ]
        refine wpAnyH_take (i := 23) (oi := { dst := some 84, op := Op.pick (Operand.tmp 79) (Operand.tmp 83) (Operand.const (Value.bool false)), type := 4, pos := "more.go:26", after := #[{ on := 18, ground := Ground.data }, { on := 22, ground := Ground.data }], guard := none }) (v := ?hv43) rfl (by kernel_rfl) (by kernel_rfl) (by kernel_rfl) (fun _ _ _ h => h) (Or.inl ⟨by rfl, ?hy43⟩) (by assumption) ?_
        case hy43 => ((intro w hSw); (try dsimp only at hSw); go_simp; (try with_reducible rfl))
        try simp only [Act.put, List.setIfInBounds_toArray, List.set_cons_zero, List.set_cons_succ]
        refine wpAnyH_done (by kernel_rfl) ?_ _
        clear c1'
        clear c0 v1 v2
        go_wp2_with fail
        go_roundw
        case rel => exact ⟨j + 1, by omega, by go_num, by rw [HW.out], ⟨A2, C2, rfl, O1.out⟩, A1'.out, B1'.out, H1.out⟩
        case measure => simp [intOf]; omega
      case pos =>
      have d3 : decide (X ≤ (c3 : Int)) = true := decide_eq_true t3
      by_cases t4 : W = j
      case neg =>
        have d4 : ((W : Int) == (j : Int)) = false := by simp; omega
        have HW := Lib.hid (show wantP r c1 c2 c3 s (j + 1) = W by rw [HWS.out, if_neg (fun h => t4 h.2)])
        clear t1 t2 t3 t4 HWS HTI
        refine wp_region_held_drew (S := (fun y => y.cell? ⟨w2.heap.size, 0, none⟩ = some (.int .i64 r.m) ∧ y.cell? ⟨w2.heap.size, 1, none⟩ = some (.int .i64 r.c) ∧ y.cell? ⟨w2.heap.size, 2, none⟩ = some (.int .i64 r.s) ∧ y.cell? ⟨w2.heap.size, 3, none⟩ = some (.int .i64 r.w) ∧ y.cell? ⟨w2.heap.size, 4, none⟩ = some (.int .i64 r.g) ∧ y.cell? ⟨w2.heap.size + 1, 0, none⟩ = some (.int .i64 (c1 : Int)) ∧ y.cell? ⟨w2.heap.size + 1, 1, none⟩ = some (.int .i64 (c2 : Int)) ∧ y.cell? ⟨w2.heap.size + 1, 2, none⟩ = some (.int .i64 (c3 : Int)))) (by kernel_rfl) ?_ (fun hHeld => ?_)
        · (try dsimp only); exact c0
        refine wpAnyH_take (i := 0) (oi := { dst := some 61, op := Op.move (Operand.tmp 17), type := 3, pos := "more.go:26", after := #[], guard := none }) (v := ?hv44) rfl (by kernel_rfl) (by kernel_rfl) (by kernel_rfl) (fun _ _ _ h => h) (Or.inl ⟨by rfl, ?hy44⟩) (by assumption) ?_
        case hy44 => ((intro w hSw); (try dsimp only at hSw); go_simp; (try with_reducible rfl))
        try simp only [Act.put, List.setIfInBounds_toArray, List.set_cons_zero, List.set_cons_succ]
        refine wpAnyH_take (i := 1) (oi := { dst := some 62, op := Op.fieldAddr 25 (Operand.tmp 14) 0, type := 0, pos := "more.go:26", after := #[], guard := none }) (v := ?hv45) rfl (by kernel_rfl) (by kernel_rfl) (by kernel_rfl) (fun _ _ _ h => h) (Or.inl ⟨by rfl, ?hy45⟩) (by assumption) ?_
        case hy45 => ((intro w hSw); (try dsimp only at hSw); go_simp; (try with_reducible rfl))
        try simp only [Act.put, List.setIfInBounds_toArray, List.set_cons_zero, List.set_cons_succ]
        refine wpAnyH_take (i := 2) (oi := { dst := some 63, op := Op.load 3 (Operand.tmp 62), type := 3, pos := "more.go:26", after := #[{ on := 1, ground := Ground.data }], guard := none }) (v := ?hv46) rfl (by kernel_rfl) (by kernel_rfl) (by kernel_rfl) (fun _ _ _ h => h) (Or.inl ⟨by rfl, ?hy46⟩) (by assumption) ?_
        case hy46 => ((intro w hSw); (try dsimp only at hSw); go_simp; (try with_reducible rfl))
        try simp only [Act.put, List.setIfInBounds_toArray, List.set_cons_zero, List.set_cons_succ]
        refine wpAnyH_take (i := 3) (oi := { dst := some 64, op := Op.binOp BinOp.leq 3 (Operand.tmp 61) (Operand.tmp 63) 3, type := 4, pos := "more.go:26", after := #[{ on := 0, ground := Ground.data }, { on := 2, ground := Ground.data }], guard := none }) (v := ?hv47) rfl (by kernel_rfl) (by kernel_rfl) (by kernel_rfl) (fun _ _ _ h => h) (Or.inl ⟨by rfl, ?hy47⟩) (by assumption) ?_
        case hy47 => ((intro w hSw); (try dsimp only at hSw); go_simp; (try with_reducible rfl))
        try simp only [Act.put, List.setIfInBounds_toArray, List.set_cons_zero, List.set_cons_succ]
        refine wpAnyH_take (i := 4) (oi := { dst := some 65, op := Op.move (Operand.tmp 64), type := 4, pos := "more.go:26", after := #[{ on := 3, ground := Ground.data }], guard := none }) (v := ?hv48) rfl (by kernel_rfl) (by kernel_rfl) (by kernel_rfl) (fun _ _ _ h => h) (Or.inl ⟨by rfl, ?hy48⟩) (by assumption) ?_
        case hy48 => ((intro w hSw); (try dsimp only at hSw); go_simp; (try with_reducible rfl))
        try simp only [Act.put, List.setIfInBounds_toArray, List.set_cons_zero, List.set_cons_succ]
        refine wpAnyH_take (i := 5) (oi := { dst := some 66, op := Op.move (Operand.tmp 18), type := 3, pos := "more.go:26", after := #[{ on := 4, ground := Ground.guard }], guard := some (4, true) }) (v := ?hv49) rfl (by kernel_rfl) (by kernel_rfl) (by kernel_rfl) (fun _ _ _ h => h) (Or.inl ⟨by rfl, ?hy49⟩) (by assumption) ?_
        case hy49 => ((intro w hSw); (try dsimp only at hSw); go_simp; (try with_reducible rfl))
        try simp only [Act.put, List.setIfInBounds_toArray, List.set_cons_zero, List.set_cons_succ]
        refine wpAnyH_take (i := 6) (oi := { dst := some 67, op := Op.fieldAddr 25 (Operand.tmp 14) 1, type := 0, pos := "more.go:26", after := #[{ on := 4, ground := Ground.guard }], guard := some (4, true) }) (v := ?hv50) rfl (by kernel_rfl) (by kernel_rfl) (by kernel_rfl) (fun _ _ _ h => h) (Or.inl ⟨by rfl, ?hy50⟩) (by assumption) ?_
        case hy50 => ((intro w hSw); (try dsimp only at hSw); go_simp; (try with_reducible rfl))
        try simp only [Act.put, List.setIfInBounds_toArray, List.set_cons_zero, List.set_cons_succ]
        refine wpAnyH_take (i := 7) (oi := { dst := some 68, op := Op.load 3 (Operand.tmp 67), type := 3, pos := "more.go:26", after := #[{ on := 6, ground := Ground.data }, { on := 4, ground := Ground.guard }], guard := some (4, true) }) (v := ?hv51) rfl (by kernel_rfl) (by kernel_rfl) (by kernel_rfl) (fun _ _ _ h => h) (Or.inl ⟨by rfl, ?hy51⟩) (by assumption) ?_
        case hy51 => ((intro w hSw); (try dsimp only at hSw); go_simp; (try with_reducible rfl))
        try simp only [Act.put, List.setIfInBounds_toArray, List.set_cons_zero, List.set_cons_succ]
        refine wpAnyH_take (i := 8) (oi := { dst := some 69, op := Op.binOp BinOp.leq 3 (Operand.tmp 66) (Operand.tmp 68) 3, type := 4, pos := "more.go:26", after := #[{ on := 5, ground := Ground.data }, { on := 7, ground := Ground.data }, { on := 4, ground := Ground.guard }], guard := some (4, true) }) (v := ?hv52) rfl (by kernel_rfl) (by kernel_rfl) (by kernel_rfl) (fun _ _ _ h => h) (Or.inl ⟨by rfl, ?hy52⟩) (by assumption) ?_
        case hy52 => ((intro w hSw); (try dsimp only at hSw); go_simp; (try with_reducible rfl))
        try simp only [Act.put, List.setIfInBounds_toArray, List.set_cons_zero, List.set_cons_succ]
        refine wpAnyH_take (i := 9) (oi := { dst := some 70, op := Op.pick (Operand.tmp 65) (Operand.tmp 69) (Operand.const (Value.bool false)), type := 4, pos := "more.go:26", after := #[{ on := 4, ground := Ground.data }, { on := 8, ground := Ground.data }], guard := none }) (v := ?hv53) rfl (by kernel_rfl) (by kernel_rfl) (by kernel_rfl) (fun _ _ _ h => h) (Or.inl ⟨by rfl, ?hy53⟩) (by assumption) ?_
        case hy53 => ((intro w hSw); (try dsimp only at hSw); go_simp; (try with_reducible rfl))
        try simp only [Act.put, List.setIfInBounds_toArray, List.set_cons_zero, List.set_cons_succ]
        refine wpAnyH_take (i := 10) (oi := { dst := some 71, op := Op.move (Operand.tmp 70), type := 4, pos := "more.go:26", after := #[{ on := 9, ground := Ground.data }, { on := 4, ground := Ground.chain }], guard := none }) (v := ?hv54) rfl (by kernel_rfl) (by kernel_rfl) (by kernel_rfl) (fun _ _ _ h => h) (Or.inl ⟨by rfl, ?hy54⟩) (by assumption) ?_
        case hy54 => ((intro w hSw); (try dsimp only at hSw); go_simp; (try with_reducible rfl))
        try simp only [Act.put, List.setIfInBounds_toArray, List.set_cons_zero, List.set_cons_succ]
        refine wpAnyH_take (i := 11) (oi := { dst := some 72, op := Op.load 23 (Operand.tmp 13), type := 23, pos := "more.go:26", after := #[{ on := 10, ground := Ground.guard }], guard := some (10, true) }) (v := ?hv55) rfl (by kernel_rfl) (by kernel_rfl) (by kernel_rfl) (fun _ _ _ h => h) (Or.inl ⟨by rfl, ?hy55⟩) (by assumption) ?_
        case hy55 => ((intro w hSw); (try dsimp only at hSw); go_simp; (try with_reducible rfl))
        try simp only [Act.put, List.setIfInBounds_toArray, List.set_cons_zero, List.set_cons_succ]
        refine wpAnyH_take (i := 12) (oi := { dst := some 73, op := Op.move (Operand.tmp 18), type := 3, pos := "more.go:26", after := #[{ on := 10, ground := Ground.guard }], guard := some (10, true) }) (v := ?hv56) rfl (by kernel_rfl) (by kernel_rfl) (by kernel_rfl) (fun _ _ _ h => h) (Or.inl ⟨by rfl, ?hy56⟩) (by assumption) ?_
        case hy56 => ((intro w hSw); (try dsimp only at hSw); go_simp; (try with_reducible rfl))
        try simp only [Act.put, List.setIfInBounds_toArray, List.set_cons_zero, List.set_cons_succ]
        refine wpAnyH_take (i := 14) (oi := { dst := some 75, op := Op.fieldAddr 25 (Operand.tmp 14) 2, type := 0, pos := "more.go:26", after := #[{ on := 10, ground := Ground.guard }], guard := some (10, true) }) (v := ?hv57) rfl (by kernel_rfl) (by kernel_rfl) (by kernel_rfl) (fun _ _ _ h => h) (Or.inl ⟨by rfl, ?hy57⟩) (by assumption) ?_
        case hy57 => ((intro w hSw); (try dsimp only at hSw); go_simp; (try with_reducible rfl))
        try simp only [Act.put, List.setIfInBounds_toArray, List.set_cons_zero, List.set_cons_succ]
        refine wpAnyH_take (i := 15) (oi := { dst := some 76, op := Op.load 2 (Operand.tmp 75), type := 2, pos := "more.go:26", after := #[{ on := 14, ground := Ground.data }, { on := 10, ground := Ground.guard }], guard := some (10, true) }) (v := ?hv58) rfl (by kernel_rfl) (by kernel_rfl) (by kernel_rfl) (fun _ _ _ h => h) (Or.inl ⟨by rfl, ?hy58⟩) (by assumption) ?_
        case hy58 => ((intro w hSw); (try dsimp only at hSw); go_simp; (try with_reducible rfl))
        try simp only [Act.put, List.setIfInBounds_toArray, List.set_cons_zero, List.set_cons_succ]
        refine wpAnyH_ready (rs := [13]) (by kernel_rfl) (by simp) ?_
        refine AllReadyH.cons (o := { dst := some 74, op := Op.call { callee := Callee.value (Operand.func 15), args := #[Operand.tmp 72, Operand.tmp 73], argTypes := #[23, 3] }, type := 2, pos := "more.go:26", after := #[{ on := 11, ground := Ground.data }, { on := 12, ground := Ground.data }, { on := 10, ground := Ground.chain }, { on := 10, ground := Ground.guard }], guard := some (10, true) }) rfl (fun K hK => ?_) AllReadyH.nil
        go_simp
        go_at_call 15; (with_reducible refine (KP.out _).mono ?_); rintro e y1 ⟨rfl, b1⟩; have c1' := rl (r := r) c0 b1 L0 M0; have H1 := Lib.hid (H0.out.trans (b1.mono H0.out.size)); have A1' := Lib.hid (A0'.out.below b1 (Nat.le_refl _)); have B1' := Lib.hid (B0'.out.below b1 (Nat.le_refl _)); have O1 := Lib.hid (O0.out.below b1 (Nat.le_refl _)); clear b1
        refine hK.out _ _ ?_ (fun hHeld => ?_)
        · (try dsimp only); exact c1'
        clear hK K
        try simp only [Act.put, List.setIfInBounds_toArray, List.set_cons_zero, List.set_cons_succ]
        refine wpAnyH_take (i := 16) (oi := { dst := some 77, op := Op.binOp BinOp.leq 2 (Operand.tmp 74) (Operand.tmp 76) 2, type := 4, pos := "more.go:26", after := #[{ on := 13, ground := Ground.data }, { on := 15, ground := Ground.data }, { on := 10, ground := Ground.guard }], guard := some (10, true) }) (v := ?hv59) rfl (by kernel_rfl) (by kernel_rfl) (by kernel_rfl) (fun _ _ _ h => h) (Or.inl ⟨by rfl, ?hy59⟩) (by assumption) ?_
        case hy59 => ((intro w hSw); (try dsimp only at hSw); go_simp; (try with_reducible rfl))
        try simp only [Act.put, List.setIfInBounds_toArray, List.set_cons_zero, List.set_cons_succ]
        refine wpAnyH_take (i := 17) (oi := { dst := some 78, op := Op.pick (Operand.tmp 71) (Operand.tmp 77) (Operand.const (Value.bool false)), type := 4, pos := "more.go:26", after := #[{ on := 10, ground := Ground.data }, { on := 16, ground := Ground.data }], guard := none }) (v := ?hv60) rfl (by kernel_rfl) (by kernel_rfl) (by kernel_rfl) (fun _ _ _ h => h) (Or.inl ⟨by rfl, ?hy60⟩) (by assumption) ?_
        case hy60 => ((intro w hSw); (try dsimp only at hSw); go_simp; (try with_reducible rfl))
        try simp only [Act.put, List.setIfInBounds_toArray, List.set_cons_zero, List.set_cons_succ]
        refine wpAnyH_take (i := 18) (oi := { dst := some 79, op := Op.move (Operand.tmp 78), type := 4, pos := "more.go:26", after := #[{ on := 17, ground := Ground.data }, { on := 13, ground := Ground.chain }], guard := none }) (v := ?hv61) rfl (by kernel_rfl) (by kernel_rfl) (by kernel_rfl) (fun _ _ _ h => h) (Or.inl ⟨by rfl, ?hy61⟩) (by assumption) ?_
        case hy61 => ((intro w hSw); (try dsimp only at hSw); go_simp; (try with_reducible rfl))
        try simp only [Act.put, List.setIfInBounds_toArray, List.set_cons_zero, List.set_cons_succ]
        refine wpAnyH_take (i := 19) (oi := { dst := some 80, op := Op.move (Operand.tmp 16), type := 3, pos := "more.go:26", after := #[{ on := 18, ground := Ground.guard }], guard := some (18, true) }) (v := ?hv62) rfl (by kernel_rfl) (by kernel_rfl) (by kernel_rfl) (fun _ _ _ h => h) (Or.inl ⟨by rfl, ?hy62⟩) (by assumption) ?_
        case hy62 => ((intro w hSw); (try dsimp only at hSw); go_simp; (try with_reducible rfl))
        try simp only [Act.put, List.setIfInBounds_toArray, List.set_cons_zero, List.set_cons_succ]
        refine wpAnyH_take (i := 20) (oi := { dst := some 81, op := Op.move (Operand.tmp 17), type := 3, pos := "more.go:26", after := #[{ on := 18, ground := Ground.guard }], guard := some (18, true) }) (v := ?hv63) rfl (by kernel_rfl) (by kernel_rfl) (by kernel_rfl) (fun _ _ _ h => h) (Or.inl ⟨by rfl, ?hy63⟩) (by assumption) ?_
        case hy63 => ((intro w hSw); (try dsimp only at hSw); go_simp; (try with_reducible rfl))
        try simp only [Act.put, List.setIfInBounds_toArray, List.set_cons_zero, List.set_cons_succ]
        refine wpAnyH_take (i := 21) (oi := { dst := some 82, op := Op.binOp BinOp.sub 3 (Operand.tmp 81) (Operand.const (Value.int IntKind.i64 1)) 3, type := 3, pos := "more.go:26", after := #[{ on := 20, ground := Ground.data }, { on := 18, ground := Ground.guard }], guard := some (18, true) }) (v := ?hv64) rfl (by kernel_rfl) (by kernel_rfl) (by kernel_rfl) (fun _ _ _ h => h) (Or.inl ⟨by rfl, ?hy64⟩) (by assumption) ?_
        case hy64 => ((intro w hSw); (try dsimp only at hSw); go_simp; (try with_reducible rfl))
        try simp only [Act.put, List.setIfInBounds_toArray, List.set_cons_zero, List.set_cons_succ]
        refine wpAnyH_take (i := 22) (oi := { dst := some 83, op := Op.binOp BinOp.eql 3 (Operand.tmp 80) (Operand.tmp 82) 3, type := 4, pos := "more.go:26", after := #[{ on := 19, ground := Ground.data }, { on := 21, ground := Ground.data }, { on := 18, ground := Ground.guard }], guard := some (18, true) }) (v := ?hv65) rfl (by kernel_rfl) (by kernel_rfl) (by kernel_rfl) (fun _ _ _ h => h) (Or.inl ⟨by rfl, ?hy65⟩) (by assumption) ?_
        case hy65 => ((intro w hSw); (try dsimp only at hSw); go_simp; (try with_reducible rfl))
        try simp only [Act.put, List.setIfInBounds_toArray, List.set_cons_zero, List.set_cons_succ]
        refine wpAnyH_take (i := 23) (oi := { dst := some 84, op := Op.pick (Operand.tmp 79) (Operand.tmp 83) (Operand.const (Value.bool false)), type := 4, pos := "more.go:26", after := #[{ on := 18, ground := Ground.data }, { on := 22, ground := Ground.data }], guard := none }) (v := ?hv66) rfl (by kernel_rfl) (by kernel_rfl) (by kernel_rfl) (fun _ _ _ h => h) (Or.inl ⟨by rfl, ?hy66⟩) (by assumption) ?_
        case hy66 => ((intro w hSw); (try dsimp only at hSw); go_simp; (try with_reducible rfl))
        try simp only [Act.put, List.setIfInBounds_toArray, List.set_cons_zero, List.set_cons_succ]
        refine wpAnyH_done (by kernel_rfl) ?_ _
        clear c1'
        clear c0 v1 v2
        go_wp2_with fail
        go_roundw
        case rel => exact ⟨j + 1, by omega, by go_num, by rw [HW.out], ⟨A2, C2, rfl, O1.out⟩, A1'.out, B1'.out, H1.out⟩
        case measure => simp [intOf]; omega
      case pos =>
        have d4 : ((W : Int) == (j : Int)) = true := by simp; omega
        have HW := Lib.hid (show wantP r c1 c2 c3 s (j + 1) = j + 1 by rw [HWS.out, if_pos ⟨by rw [HTI.out, d1, d2, d3]; rfl, t4⟩])
        clear t1 t2 t3 t4 HWS HTI
        refine wp_region_held_drew (S := (fun y => y.cell? ⟨w2.heap.size, 0, none⟩ = some (.int .i64 r.m) ∧ y.cell? ⟨w2.heap.size, 1, none⟩ = some (.int .i64 r.c) ∧ y.cell? ⟨w2.heap.size, 2, none⟩ = some (.int .i64 r.s) ∧ y.cell? ⟨w2.heap.size, 3, none⟩ = some (.int .i64 r.w) ∧ y.cell? ⟨w2.heap.size, 4, none⟩ = some (.int .i64 r.g) ∧ y.cell? ⟨w2.heap.size + 1, 0, none⟩ = some (.int .i64 (c1 : Int)) ∧ y.cell? ⟨w2.heap.size + 1, 1, none⟩ = some (.int .i64 (c2 : Int)) ∧ y.cell? ⟨w2.heap.size + 1, 2, none⟩ = some (.int .i64 (c3 : Int)))) (by kernel_rfl) ?_ (fun hHeld => ?_)
        · (try dsimp only); exact c0
        refine wpAnyH_take (i := 0) (oi := { dst := some 61, op := Op.move (Operand.tmp 17), type := 3, pos := "more.go:26", after := #[], guard := none }) (v := ?hv67) rfl (by kernel_rfl) (by kernel_rfl) (by kernel_rfl) (fun _ _ _ h => h) (Or.inl ⟨by rfl, ?hy67⟩) (by assumption) ?_
        case hy67 => ((intro w hSw); (try dsimp only at hSw); go_simp; (try with_reducible rfl))
        try simp only [Act.put, List.setIfInBounds_toArray, List.set_cons_zero, List.set_cons_succ]
        refine wpAnyH_take (i := 1) (oi := { dst := some 62, op := Op.fieldAddr 25 (Operand.tmp 14) 0, type := 0, pos := "more.go:26", after := #[], guard := none }) (v := ?hv68) rfl (by kernel_rfl) (by kernel_rfl) (by kernel_rfl) (fun _ _ _ h => h) (Or.inl ⟨by rfl, ?hy68⟩) (by assumption) ?_
        case hy68 => ((intro w hSw); (try dsimp only at hSw); go_simp; (try with_reducible rfl))
        try simp only [Act.put, List.setIfInBounds_toArray, List.set_cons_zero, List.set_cons_succ]
        refine wpAnyH_take (i := 2) (oi := { dst := some 63, op := Op.load 3 (Operand.tmp 62), type := 3, pos := "more.go:26", after := #[{ on := 1, ground := Ground.data }], guard := none }) (v := ?hv69) rfl (by kernel_rfl) (by kernel_rfl) (by kernel_rfl) (fun _ _ _ h => h) (Or.inl ⟨by rfl, ?hy69⟩) (by assumption) ?_
        case hy69 => ((intro w hSw); (try dsimp only at hSw); go_simp; (try with_reducible rfl))
        try simp only [Act.put, List.setIfInBounds_toArray, List.set_cons_zero, List.set_cons_succ]
        refine wpAnyH_take (i := 3) (oi := { dst := some 64, op := Op.binOp BinOp.leq 3 (Operand.tmp 61) (Operand.tmp 63) 3, type := 4, pos := "more.go:26", after := #[{ on := 0, ground := Ground.data }, { on := 2, ground := Ground.data }], guard := none }) (v := ?hv70) rfl (by kernel_rfl) (by kernel_rfl) (by kernel_rfl) (fun _ _ _ h => h) (Or.inl ⟨by rfl, ?hy70⟩) (by assumption) ?_
        case hy70 => ((intro w hSw); (try dsimp only at hSw); go_simp; (try with_reducible rfl))
        try simp only [Act.put, List.setIfInBounds_toArray, List.set_cons_zero, List.set_cons_succ]
        refine wpAnyH_take (i := 4) (oi := { dst := some 65, op := Op.move (Operand.tmp 64), type := 4, pos := "more.go:26", after := #[{ on := 3, ground := Ground.data }], guard := none }) (v := ?hv71) rfl (by kernel_rfl) (by kernel_rfl) (by kernel_rfl) (fun _ _ _ h => h) (Or.inl ⟨by rfl, ?hy71⟩) (by assumption) ?_
        case hy71 => ((intro w hSw); (try dsimp only at hSw); go_simp; (try with_reducible rfl))
        try simp only [Act.put, List.setIfInBounds_toArray, List.set_cons_zero, List.set_cons_succ]
        refine wpAnyH_take (i := 5) (oi := { dst := some 66, op := Op.move (Operand.tmp 18), type := 3, pos := "more.go:26", after := #[{ on := 4, ground := Ground.guard }], guard := some (4, true) }) (v := ?hv72) rfl (by kernel_rfl) (by kernel_rfl) (by kernel_rfl) (fun _ _ _ h => h) (Or.inl ⟨by rfl, ?hy72⟩) (by assumption) ?_
        case hy72 => ((intro w hSw); (try dsimp only at hSw); go_simp; (try with_reducible rfl))
        try simp only [Act.put, List.setIfInBounds_toArray, List.set_cons_zero, List.set_cons_succ]
        refine wpAnyH_take (i := 6) (oi := { dst := some 67, op := Op.fieldAddr 25 (Operand.tmp 14) 1, type := 0, pos := "more.go:26", after := #[{ on := 4, ground := Ground.guard }], guard := some (4, true) }) (v := ?hv73) rfl (by kernel_rfl) (by kernel_rfl) (by kernel_rfl) (fun _ _ _ h => h) (Or.inl ⟨by rfl, ?hy73⟩) (by assumption) ?_
        case hy73 => ((intro w hSw); (try dsimp only at hSw); go_simp; (try with_reducible rfl))
        try simp only [Act.put, List.setIfInBounds_toArray, List.set_cons_zero, List.set_cons_succ]
        refine wpAnyH_take (i := 7) (oi := { dst := some 68, op := Op.load 3 (Operand.tmp 67), type := 3, pos := "more.go:26", after := #[{ on := 6, ground := Ground.data }, { on := 4, ground := Ground.guard }], guard := some (4, true) }) (v := ?hv74) rfl (by kernel_rfl) (by kernel_rfl) (by kernel_rfl) (fun _ _ _ h => h) (Or.inl ⟨by rfl, ?hy74⟩) (by assumption) ?_
        case hy74 => ((intro w hSw); (try dsimp only at hSw); go_simp; (try with_reducible rfl))
        try simp only [Act.put, List.setIfInBounds_toArray, List.set_cons_zero, List.set_cons_succ]
        refine wpAnyH_take (i := 8) (oi := { dst := some 69, op := Op.binOp BinOp.leq 3 (Operand.tmp 66) (Operand.tmp 68) 3, type := 4, pos := "more.go:26", after := #[{ on := 5, ground := Ground.data }, { on := 7, ground := Ground.data }, { on := 4, ground := Ground.guard }], guard := some (4, true) }) (v := ?hv75) rfl (by kernel_rfl) (by kernel_rfl) (by kernel_rfl) (fun _ _ _ h => h) (Or.inl ⟨by rfl, ?hy75⟩) (by assumption) ?_
        case hy75 => ((intro w hSw); (try dsimp only at hSw); go_simp; (try with_reducible rfl))
        try simp only [Act.put, List.setIfInBounds_toArray, List.set_cons_zero, List.set_cons_succ]
        refine wpAnyH_take (i := 9) (oi := { dst := some 70, op := Op.pick (Operand.tmp 65) (Operand.tmp 69) (Operand.const (Value.bool false)), type := 4, pos := "more.go:26", after := #[{ on := 4, ground := Ground.data }, { on := 8, ground := Ground.data }], guard := none }) (v := ?hv76) rfl (by kernel_rfl) (by kernel_rfl) (by kernel_rfl) (fun _ _ _ h => h) (Or.inl ⟨by rfl, ?hy76⟩) (by assumption) ?_
        case hy76 => ((intro w hSw); (try dsimp only at hSw); go_simp; (try with_reducible rfl))
        try simp only [Act.put, List.setIfInBounds_toArray, List.set_cons_zero, List.set_cons_succ]
        refine wpAnyH_take (i := 10) (oi := { dst := some 71, op := Op.move (Operand.tmp 70), type := 4, pos := "more.go:26", after := #[{ on := 9, ground := Ground.data }, { on := 4, ground := Ground.chain }], guard := none }) (v := ?hv77) rfl (by kernel_rfl) (by kernel_rfl) (by kernel_rfl) (fun _ _ _ h => h) (Or.inl ⟨by rfl, ?hy77⟩) (by assumption) ?_
        case hy77 => ((intro w hSw); (try dsimp only at hSw); go_simp; (try with_reducible rfl))
        try simp only [Act.put, List.setIfInBounds_toArray, List.set_cons_zero, List.set_cons_succ]
        refine wpAnyH_take (i := 11) (oi := { dst := some 72, op := Op.load 23 (Operand.tmp 13), type := 23, pos := "more.go:26", after := #[{ on := 10, ground := Ground.guard }], guard := some (10, true) }) (v := ?hv78) rfl (by kernel_rfl) (by kernel_rfl) (by kernel_rfl) (fun _ _ _ h => h) (Or.inl ⟨by rfl, ?hy78⟩) (by assumption) ?_
        case hy78 => ((intro w hSw); (try dsimp only at hSw); go_simp; (try with_reducible rfl))
        try simp only [Act.put, List.setIfInBounds_toArray, List.set_cons_zero, List.set_cons_succ]
        refine wpAnyH_take (i := 12) (oi := { dst := some 73, op := Op.move (Operand.tmp 18), type := 3, pos := "more.go:26", after := #[{ on := 10, ground := Ground.guard }], guard := some (10, true) }) (v := ?hv79) rfl (by kernel_rfl) (by kernel_rfl) (by kernel_rfl) (fun _ _ _ h => h) (Or.inl ⟨by rfl, ?hy79⟩) (by assumption) ?_
        case hy79 => ((intro w hSw); (try dsimp only at hSw); go_simp; (try with_reducible rfl))
        try simp only [Act.put, List.setIfInBounds_toArray, List.set_cons_zero, List.set_cons_succ]
        refine wpAnyH_take (i := 14) (oi := { dst := some 75, op := Op.fieldAddr 25 (Operand.tmp 14) 2, type := 0, pos := "more.go:26", after := #[{ on := 10, ground := Ground.guard }], guard := some (10, true) }) (v := ?hv80) rfl (by kernel_rfl) (by kernel_rfl) (by kernel_rfl) (fun _ _ _ h => h) (Or.inl ⟨by rfl, ?hy80⟩) (by assumption) ?_
        case hy80 => ((intro w hSw); (try dsimp only at hSw); go_simp; (try with_reducible rfl))
        try simp only [Act.put, List.setIfInBounds_toArray, List.set_cons_zero, List.set_cons_succ]
        refine wpAnyH_take (i := 15) (oi := { dst := some 76, op := Op.load 2 (Operand.tmp 75), type := 2, pos := "more.go:26", after := #[{ on := 14, ground := Ground.data }, { on := 10, ground := Ground.guard }], guard := some (10, true) }) (v := ?hv81) rfl (by kernel_rfl) (by kernel_rfl) (by kernel_rfl) (fun _ _ _ h => h) (Or.inl ⟨by rfl, ?hy81⟩) (by assumption) ?_
        case hy81 => ((intro w hSw); (try dsimp only at hSw); go_simp; (try with_reducible rfl))
        try simp only [Act.put, List.setIfInBounds_toArray, List.set_cons_zero, List.set_cons_succ]
        refine wpAnyH_ready (rs := [13]) (by kernel_rfl) (by simp) ?_
        refine AllReadyH.cons (o := { dst := some 74, op := Op.call { callee := Callee.value (Operand.func 15), args := #[Operand.tmp 72, Operand.tmp 73], argTypes := #[23, 3] }, type := 2, pos := "more.go:26", after := #[{ on := 11, ground := Ground.data }, { on := 12, ground := Ground.data }, { on := 10, ground := Ground.chain }, { on := 10, ground := Ground.guard }], guard := some (10, true) }) rfl (fun K hK => ?_) AllReadyH.nil
        go_simp
        go_at_call 15; (with_reducible refine (KP.out _).mono ?_); rintro e y1 ⟨rfl, b1⟩; have c1' := rl (r := r) c0 b1 L0 M0; have H1 := Lib.hid (H0.out.trans (b1.mono H0.out.size)); have A1' := Lib.hid (A0'.out.below b1 (Nat.le_refl _)); have B1' := Lib.hid (B0'.out.below b1 (Nat.le_refl _)); have O1 := Lib.hid (O0.out.below b1 (Nat.le_refl _)); clear b1
        refine hK.out _ _ ?_ (fun hHeld => ?_)
        · (try dsimp only); exact c1'
        clear hK K
        try simp only [Act.put, List.setIfInBounds_toArray, List.set_cons_zero, List.set_cons_succ]
        refine wpAnyH_take (i := 16) (oi := { dst := some 77, op := Op.binOp BinOp.leq 2 (Operand.tmp 74) (Operand.tmp 76) 2, type := 4, pos := "more.go:26", after := #[{ on := 13, ground := Ground.data }, { on := 15, ground := Ground.data }, { on := 10, ground := Ground.guard }], guard := some (10, true) }) (v := ?hv82) rfl (by kernel_rfl) (by kernel_rfl) (by kernel_rfl) (fun _ _ _ h => h) (Or.inl ⟨by rfl, ?hy82⟩) (by assumption) ?_
        case hy82 => ((intro w hSw); (try dsimp only at hSw); go_simp; (try with_reducible rfl))
        try simp only [Act.put, List.setIfInBounds_toArray, List.set_cons_zero, List.set_cons_succ]
        refine wpAnyH_take (i := 17) (oi := { dst := some 78, op := Op.pick (Operand.tmp 71) (Operand.tmp 77) (Operand.const (Value.bool false)), type := 4, pos := "more.go:26", after := #[{ on := 10, ground := Ground.data }, { on := 16, ground := Ground.data }], guard := none }) (v := ?hv83) rfl (by kernel_rfl) (by kernel_rfl) (by kernel_rfl) (fun _ _ _ h => h) (Or.inl ⟨by rfl, ?hy83⟩) (by assumption) ?_
        case hy83 => ((intro w hSw); (try dsimp only at hSw); go_simp; (try with_reducible rfl))
        try simp only [Act.put, List.setIfInBounds_toArray, List.set_cons_zero, List.set_cons_succ]
        refine wpAnyH_take (i := 18) (oi := { dst := some 79, op := Op.move (Operand.tmp 78), type := 4, pos := "more.go:26", after := #[{ on := 17, ground := Ground.data }, { on := 13, ground := Ground.chain }], guard := none }) (v := ?hv84) rfl (by kernel_rfl) (by kernel_rfl) (by kernel_rfl) (fun _ _ _ h => h) (Or.inl ⟨by rfl, ?hy84⟩) (by assumption) ?_
        case hy84 => ((intro w hSw); (try dsimp only at hSw); go_simp; (try with_reducible rfl))
        try simp only [Act.put, List.setIfInBounds_toArray, List.set_cons_zero, List.set_cons_succ]
        refine wpAnyH_take (i := 19) (oi := { dst := some 80, op := Op.move (Operand.tmp 16), type := 3, pos := "more.go:26", after := #[{ on := 18, ground := Ground.guard }], guard := some (18, true) }) (v := ?hv85) rfl (by kernel_rfl) (by kernel_rfl) (by kernel_rfl) (fun _ _ _ h => h) (Or.inl ⟨by rfl, ?hy85⟩) (by assumption) ?_
        case hy85 => ((intro w hSw); (try dsimp only at hSw); go_simp; (try with_reducible rfl))
        try simp only [Act.put, List.setIfInBounds_toArray, List.set_cons_zero, List.set_cons_succ]
        refine wpAnyH_take (i := 20) (oi := { dst := some 81, op := Op.move (Operand.tmp 17), type := 3, pos := "more.go:26", after := #[{ on := 18, ground := Ground.guard }], guard := some (18, true) }) (v := ?hv86) rfl (by kernel_rfl) (by kernel_rfl) (by kernel_rfl) (fun _ _ _ h => h) (Or.inl ⟨by rfl, ?hy86⟩) (by assumption) ?_
        case hy86 => ((intro w hSw); (try dsimp only at hSw); go_simp; (try with_reducible rfl))
        try simp only [Act.put, List.setIfInBounds_toArray, List.set_cons_zero, List.set_cons_succ]
        refine wpAnyH_take (i := 21) (oi := { dst := some 82, op := Op.binOp BinOp.sub 3 (Operand.tmp 81) (Operand.const (Value.int IntKind.i64 1)) 3, type := 3, pos := "more.go:26", after := #[{ on := 20, ground := Ground.data }, { on := 18, ground := Ground.guard }], guard := some (18, true) }) (v := ?hv87) rfl (by kernel_rfl) (by kernel_rfl) (by kernel_rfl) (fun _ _ _ h => h) (Or.inl ⟨by rfl, ?hy87⟩) (by assumption) ?_
        case hy87 => ((intro w hSw); (try dsimp only at hSw); go_simp; (try with_reducible rfl))
        try simp only [Act.put, List.setIfInBounds_toArray, List.set_cons_zero, List.set_cons_succ]
        refine wpAnyH_take (i := 22) (oi := { dst := some 83, op := Op.binOp BinOp.eql 3 (Operand.tmp 80) (Operand.tmp 82) 3, type := 4, pos := "more.go:26", after := #[{ on := 19, ground := Ground.data }, { on := 21, ground := Ground.data }, { on := 18, ground := Ground.guard }], guard := some (18, true) }) (v := ?hv88) rfl (by kernel_rfl) (by kernel_rfl) (by kernel_rfl) (fun _ _ _ h => h) (Or.inl ⟨by rfl, ?hy88⟩) (by assumption) ?_
        case hy88 => ((intro w hSw); (try dsimp only at hSw); go_simp; (try with_reducible rfl))
        try simp only [Act.put, List.setIfInBounds_toArray, List.set_cons_zero, List.set_cons_succ]
        refine wpAnyH_take (i := 23) (oi := { dst := some 84, op := Op.pick (Operand.tmp 79) (Operand.tmp 83) (Operand.const (Value.bool false)), type := 4, pos := "more.go:26", after := #[{ on := 18, ground := Ground.data }, { on := 22, ground := Ground.data }], guard := none }) (v := ?hv89) rfl (by kernel_rfl) (by kernel_rfl) (by kernel_rfl) (fun _ _ _ h => h) (Or.inl ⟨by rfl, ?hy89⟩) (by assumption) ?_
        case hy89 => ((intro w hSw); (try dsimp only at hSw); go_simp; (try with_reducible rfl))
        try simp only [Act.put, List.setIfInBounds_toArray, List.set_cons_zero, List.set_cons_succ]
        refine wpAnyH_done (by kernel_rfl) ?_ _
        clear c1'
        clear c0 v1 v2
        go_wp2_with fail
        go_roundw
        case rel => exact ⟨j + 1, by omega, by go_num, by rw [HW.out]; go_num, ⟨A2, C2, rfl, O1.out⟩, A1'.out, B1'.out, H1.out⟩
        case measure => simp [intOf]; omega

end Go.Proofs.Ytnndmpanopnncaa
