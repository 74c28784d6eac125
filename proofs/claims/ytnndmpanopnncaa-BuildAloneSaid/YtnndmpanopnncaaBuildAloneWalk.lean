/-
  BuildAlone: the walk.
-/
import Derived.Test.YtnndmpanopnncaaBuildFirst
import Derived.Test.YtnndmpanopnncaaNumber
import Derived.Test.YtnndmpanopnncaaRefAir
import Derived.Test.YtnndmpanopnncaaRefRateAll
import Derived.Test.YtnndmpanopnncaaRtB
namespace Go.Proofs.Ytnndmpanopnncaa
open Go.ChangeShapes Go.WideShapes Go.ChangeAt Go.RowKit
set_option linter.unusedVariables false

theorem agg_one (s : Int) (h : 0 ≤ s) : aggP [s] = 4 + s := by
  show aggS 0 s = _
  unfold aggS upP; omega
theorem alone_law {r : RT} {C B T s : Int} (hv : validP r = true) (h1 : 1 ≤ s) (h2 : s ≤ 4095) (hf : fitsP r C B T [s] = false) : chP r C B T [s, 10] = (1, false) := by
  have h0 : chN r C B T [s, 10] = 0 := ch_up (k := 0) (by simp) (.inl rfl) (.inr hf)
  rw [chP_none h0]
  have : headOk r [s, 10] = true := by show (validP r && !(wrongB s)) = true; rw [hv, wrong_of h1 h2]; rfl
  rw [if_pos this]
theorem wrong_law (r : RT) (C B T : Int) : chP r C B T [0] = (0, false) := by
  have h0 : chN r C B T [0] = 0 := by
    refine ch_up (k := 0) (by simp) (.inl rfl) (.inr ?_)
    rcases hf : fitF r C B T [0] 1
    · rfl
    · have := (fits_iff.1 hf).2.2.1; simp [wrongB] at this
  rw [chP_none h0]
  have : headOk r [0] = false := by show (validP r && !(wrongB 0)) = false; simp [wrongB]
  rw [this]; rfl
theorem bad_law {r : RT} (hv : validP r = false) (C B T s : Int) : chP r C B T [s] = (0, false) := by
  have h0 : chN r C B T [s] = 0 := by
    refine ch_up (k := 0) (by simp) (.inl rfl) (.inr ?_)
    rcases hf : fitF r C B T [s] 1
    · rfl
    · have := (fits_iff.1 hf).1; rw [hv] at this; cases this
  rw [chP_none h0]
  have : headOk r [s] = false := by show (validP r && !(wrongB s)) = false; rw [hv]; rfl
  rw [this]; rfl
theorem not_fits {r : RT} {C B T s : Int} (h0 : 1 ≤ s) (h : C < 1 ∨ B < 4 + s ∨ T < ppP r (4 + s)) : fitsP r C B T [s] = false := by
  rcases hf : fitsP r C B T [s]
  · rfl
  · obtain ⟨_, _, _, k4, k5, k6⟩ := fits_iff.1 hf
    rw [agg_one s (by omega)] at k5 k6
    simp at k4
    omega

set_option maxRecDepth 100000 in
set_option maxHeartbeats 8000000 in
theorem buildAlone_walk (w : World) (i : Int) (hi : (Lit.int .i64 i).wf = true) (s : Int) (hs : (Lit.int .i64 s).wf = true) (c : Int) (hc : (Lit.int .i64 c).wf = true) :
    Calls Try.prog 5 #[.int .i64 i, .int .i64 s, .int .i64 c] w fun e w' => e = .returned (.bool true) ∧ Below w.heap.size w w' := by
  obtain ⟨i0, i1⟩ := bounds_i64 hi
  obtain ⟨s0, s1⟩ := bounds_i64 hs
  obtain ⟨c0, c1⟩ := bounds_i64 hc
  clear hi hs hc
  obtain ⟨p, hp, ep'⟩ := number_nat s 4095 (by omega)
  have ep : s % 4095 = (p : Int) := ep'
  obtain ⟨y, hy, ey'⟩ := number_nat c 3 (by omega)
  have ey : c % 3 = (y : Int) := ey'
  clear ep' ey'
  go_enter Try.func5, Try.ntmps5
  go_wp2_with fail
  refine (bfirst_any _).mono ?_
  rintro e w1 ⟨rfl, hb1⟩
  have B1 := Lib.hid hb1
  clear hb1
  go_wp2_with fail
  refine (rall_any 2 _).mono ?_
  rintro e w2 ⟨v, rfl, ho, hb2⟩
  obtain ⟨A, n, C, rfl, hr⟩ := ho.row
  have HB2 := Lib.hid (B1.out.trans (hb2.mono B1.out.size))
  obtain rfl : n = 128 := hr.1.trans (all_len 2)
  have HR := Lib.hid hr
  clear hb2 ho hr B1
  have z2 := HB2.out.size
  obtain ⟨x, hx, ex⟩ := number_nat i 128 (by omega)
  have ex' : i % 128 = (x : Int) := ex
  clear ex
  obtain ⟨r, hr⟩ : ∃ r, (allP 2)[x]? = some r := ⟨_, List.getElem?_eq_getElem (by rw [← HR.out.1]; exact hx)⟩
  obtain ⟨-, rv⟩ := all_mem (List.mem_of_getElem? hr)
  obtain ⟨bk0, of0, rfl, bl0, e0, e1, e2, e3, e4⟩ := HR.out.at_ hr
  have HV := Lib.hid rv
  have rs := valid_gi rv
  have HS := Lib.hid (show -9223372036854775808 ≤ r.s ∧ r.s ≤ 9223372036854775807 by omega)
  clear hr rv rs
  go_wp2_with fail
  refine (number_any i 128 _ (by omega) (by omega) i0 i1).mono ?_
  rintro e w3 ⟨rfl, rfl⟩
  rw [ex']
  clear ex' i0 i1
  go_wp2_with fail
  refine (number_any s 4095 _ (by omega) (by omega) s0 s1).mono ?_
  rintro e w3 ⟨rfl, rfl⟩
  rw [ep]
  clear ep s0 s1
  go_wp2_with fail
  refine (number_any c 3 _ (by omega) (by omega) c0 c1).mono ?_
  rintro e w3 ⟨rfl, rfl⟩
  rw [ey]
  clear ey c0 c1 e0 e1 e2 e3 e4
  have HX := Lib.hid (ok_of HV.out (show (0 : Int) ≤ 4 + ((p : Int) + 1) by omega) (by omega))
  have HXB := Lib.hid (pp_bounds HX.out)
  rcases (show y = 0 ∨ y = 1 ∨ y = 2 by omega) with rfl | rfl | rfl
  case inl =>
    have HA := Lib.hid ((RtB.new w2 r).alloc (.cells #[.int .i64 64, .int .i64 65535, .int .i64 54840] 25))
    have HB := Lib.hid (LmB.new' w2 64 65535 54840 (.cells #[.int .i64 r.m, .int .i64 r.c, .int .i64 r.s, .int .i64 r.w, .int .i64 r.g] 23))
    have BB := Lib.hid (show Below w.heap.size w ((w2.alloc (.cells #[.int .i64 r.m, .int .i64 r.c, .int .i64 r.s, .int .i64 r.w, .int .i64 r.g] 23)).alloc (.cells #[.int .i64 64, .int .i64 65535, .int .i64 54840] 25)) from (HB2.out.alloc z2 _).alloc (by simp; omega) _)
    clear HB2
    obtain ⟨V, hV⟩ : ∃ V, V = ((w2.alloc (.cells #[.int .i64 r.m, .int .i64 r.c, .int .i64 r.s, .int .i64 r.w, .int .i64 r.g] 23)).alloc (.cells #[.int .i64 64, .int .i64 65535, .int .i64 54840] 25)) := ⟨_, rfl⟩
    have HVV := Lib.hid hV
    have CQ := Lib.hid (fun w => rppdu_any r (4 + ((p : Int) + 1)) w HS.out.1 HS.out.2 (by omega) (by omega))
    have CL := Lib.hid (fun (w : World) A (h : RowN w A 1 1 [(p : Int) + 1]) => aggLen_any A 1 1 [(p : Int) + 1] w h (by omega) (fun z hz => by simp at hz; omega))
    rw [agg_one _ (by omega)] at CL
    obtain ⟨x0, x1⟩ := HXB.out
    obtain ⟨X, hX⟩ : ∃ X, ppP r (4 + ((p : Int) + 1)) = X := ⟨_, rfl⟩
    rw [hX] at CQ x0 x1
    have HXX := Lib.hid hX
    clear hX
    go_wp2_with fail
    rw [← hV] at HA HB BB ⊢
    clear hV HVV
    obtain ⟨e0, e1, e2, e3, e4⟩ := HA.out.cells
    have za := HA.out.lt
    have zb := HB.out.lt
    have k1 : IntKind.i64.wrap (X - 1) = X - 1 := IntWalk.i64_in _ (by omega)
    have c0 : V.drew.cell? ⟨w2.heap.size, 0, none⟩ = some (.int .i64 r.m) ∧ V.drew.cell? ⟨w2.heap.size, 1, none⟩ = some (.int .i64 r.c) ∧ V.drew.cell? ⟨w2.heap.size, 2, none⟩ = some (.int .i64 r.s) ∧ V.drew.cell? ⟨w2.heap.size, 3, none⟩ = some (.int .i64 r.w) ∧ V.drew.cell? ⟨w2.heap.size, 4, none⟩ = some (.int .i64 r.g) := ⟨e0, e1, e2, e3, e4⟩
    have L0 : w2.heap.size < V.drew.heap.size := za
    have A0 := Lib.hid (show RtB V.drew w2.heap.size r from HA.out)
    have B0 := Lib.hid (show LmB V.drew (w2.heap.size + 1) 64 65535 54840 from HB.out)
    have H0 := Lib.hid (show Below w.heap.size w V.drew from BB.out.trans (Below.drew (Below.refl _ _)))
    have T0 := Lib.hid (show RtB (V.alloc (.cells #[.int .i64 ((p : Int) + 1)] 3)).drew w2.heap.size r from HA.out.alloc _)
    have T1 := Lib.hid (show LmB (V.alloc (.cells #[.int .i64 ((p : Int) + 1)] 3)).drew (w2.heap.size + 1) 64 65535 54840 from Blk.alloc HB.out _)
    have T2 := Lib.hid (show Below w.heap.size w (V.alloc (.cells #[.int .i64 ((p : Int) + 1)] 3)).drew from (BB.out.alloc BB.out.size _).trans (Below.drew (Below.refl _ _)))
    have T00 := Lib.hid (show RowN (V.alloc (.cells #[.int .i64 ((p : Int) + 1)] 3)).drew (some ⟨V.heap.size, 0, none⟩) 1 1 [(p : Int) + 1] from row_n1 V _ _)
    clear HA HB BB e0 e1 e2 e3 e4 za zb
    refine wp_region_held_drew (S := (fun y => y.cell? ⟨w2.heap.size, 0, none⟩ = some (.int .i64 r.m) ∧ y.cell? ⟨w2.heap.size, 1, none⟩ = some (.int .i64 r.c) ∧ y.cell? ⟨w2.heap.size, 2, none⟩ = some (.int .i64 r.s) ∧ y.cell? ⟨w2.heap.size, 3, none⟩ = some (.int .i64 r.w) ∧ y.cell? ⟨w2.heap.size, 4, none⟩ = some (.int .i64 r.g))) (by kernel_rfl) ?_ (fun hHeld => ?_)
    · (try dsimp only); exact c0
    refine wpAnyH_take (i := 0) (oi := { dst := some 37, op := Op.load 23 (Operand.tmp 9), type := 23, pos := "law.go:76", after := #[], guard := none }) (v := ?hv1) rfl (by kernel_rfl) (by kernel_rfl) (by kernel_rfl) (fun _ _ _ h => h) (Or.inl ⟨by rfl, ?hy1⟩) (by assumption) ?_
    case hy1 => ((intro w hSw); (try dsimp only at hSw); go_simp; (try with_reducible rfl))
    try simp only [Act.put, List.setIfInBounds_toArray, List.set_cons_zero, List.set_cons_succ]
    refine wpAnyH_take (i := 1) (oi := { dst := some 38, op := Op.move (Operand.tmp 1), type := 3, pos := "law.go:76", after := #[], guard := none }) (v := ?hv2) rfl (by kernel_rfl) (by kernel_rfl) (by kernel_rfl) (fun _ _ _ h => h) (Or.inl ⟨by rfl, ?hy2⟩) (by assumption) ?_
    case hy2 => ((intro w hSw); (try dsimp only at hSw); go_simp; (try with_reducible rfl))
    try simp only [Act.put, List.setIfInBounds_toArray, List.set_cons_zero, List.set_cons_succ]
    refine wpAnyH_ready (rs := [2]) (by kernel_rfl) (by simp) ?_
    refine AllReadyH.cons (o := { dst := some 39, op := Op.buildSlice 26 1 #[(0, Operand.tmp 38)], type := 26, pos := "law.go:76", after := #[{ on := 1, ground := Ground.data }], guard := none }) rfl (fun K hK => ?_) AllReadyH.nil
    go_simp
    skip
    refine hK.out _ _ ?_ (fun hHeld => ?_)
    · (try dsimp only); exact T0.out.cells
    clear hK K
    try simp only [Act.put, List.setIfInBounds_toArray, List.set_cons_zero, List.set_cons_succ]
    refine wpAnyH_ready (rs := [3]) (by kernel_rfl) (by simp) ?_
    refine AllReadyH.cons (o := { dst := some 40, op := Op.call { callee := Callee.value (Operand.func 16), args := #[Operand.tmp 39], argTypes := #[26] }, type := 3, pos := "law.go:76", after := #[{ on := 2, ground := Ground.data }], guard := none }) rfl (fun K hK => ?_) AllReadyH.nil
    go_simp
    go_at_call 16; (with_reducible refine (CL.out _ _ T00.out).mono ?_); rintro e x3 ⟨rfl, rfl⟩
    refine hK.out _ _ ?_ (fun hHeld => ?_)
    · (try dsimp only); exact T0.out.cells
    clear hK K
    try simp only [Act.put, List.setIfInBounds_toArray, List.set_cons_zero, List.set_cons_succ]
    refine wpAnyH_ready (rs := [4]) (by kernel_rfl) (by simp) ?_
    refine AllReadyH.cons (o := { dst := some 41, op := Op.call { callee := Callee.value (Operand.func 15), args := #[Operand.tmp 37, Operand.tmp 40], argTypes := #[23, 3] }, type := 2, pos := "law.go:76", after := #[{ on := 0, ground := Ground.data }, { on := 3, ground := Ground.data }, { on := 3, ground := Ground.chain }], guard := none }) rfl (fun K hK => ?_) AllReadyH.nil
    go_simp
    go_at_call 15; (with_reducible refine (CQ.out _).mono ?_); rintro e x4 ⟨rfl, b4⟩; have T3 := Lib.hid (T0.out.below b4 (Nat.le_refl _)); have T4 := Lib.hid (T1.out.below b4 (Nat.le_refl _)); have T5 := Lib.hid (T2.out.trans (b4.mono T2.out.size)); have t4c := T4.out.cells.2.2; have t4f := Blk.frozen T4.out 2; clear b4
    refine hK.out _ _ ?_ (fun hHeld => ?_)
    · (try dsimp only); exact T3.out.cells
    clear hK K
    try simp only [Act.put, List.setIfInBounds_toArray, List.set_cons_zero, List.set_cons_succ]
    refine wpAnyH_take (i := 5) (oi := { dst := some 42, op := Op.binOp BinOp.sub 2 (Operand.tmp 41) (Operand.const (Value.int IntKind.i64 1)) 2, type := 2, pos := "law.go:76", after := #[{ on := 4, ground := Ground.data }], guard := none }) (v := ?hv3) rfl (by kernel_rfl) (by kernel_rfl) (by kernel_rfl) (fun _ _ _ h => h) (Or.inl ⟨by rfl, ?hy3⟩) (by assumption) ?_
    case hy3 => ((intro w hSw); (try dsimp only at hSw); go_simp; (try with_reducible rfl))
    try simp only [Act.put, List.setIfInBounds_toArray, List.set_cons_zero, List.set_cons_succ]
    refine wpAnyH_take (i := 6) (oi := { dst := some 43, op := Op.fieldAddr 25 (Operand.tmp 10) 2, type := 0, pos := "law.go:76", after := #[{ on := 0, ground := Ground.phase }, { on := 1, ground := Ground.phase }, { on := 2, ground := Ground.phase }, { on := 3, ground := Ground.phase }, { on := 4, ground := Ground.phase }, { on := 5, ground := Ground.phase }], guard := none }) (v := ?hv4) rfl (by kernel_rfl) (by kernel_rfl) (by kernel_rfl) (fun _ _ _ h => h) (Or.inl ⟨by rfl, ?hy4⟩) (by assumption) ?_
    case hy4 => ((intro w hSw); (try dsimp only at hSw); go_simp; (try with_reducible rfl))
    try simp only [Act.put, List.setIfInBounds_toArray, List.set_cons_zero, List.set_cons_succ]
    refine wpAnyH_ready (rs := [7]) (by kernel_rfl) (by simp) ?_
    refine AllReadyH.cons (o := { dst := none, op := Op.store 2 (Operand.tmp 43) (Operand.tmp 42), type := 0, pos := "law.go:76", after := #[{ on := 6, ground := Ground.data }, { on := 5, ground := Ground.data }, { on := 4, ground := Ground.chain }, { on := 0, ground := Ground.phase }, { on := 1, ground := Ground.phase }, { on := 2, ground := Ground.phase }, { on := 3, ground := Ground.phase }, { on := 4, ground := Ground.phase }, { on := 5, ground := Ground.phase }], guard := none }) rfl (fun K hK => ?_) AllReadyH.nil
    go_simp
    have T6 := Lib.hid (show RtB (x4.setCell ⟨w2.heap.size + 1, 2, none⟩ (.int .i64 (X - 1))) w2.heap.size r from Blk.far T3.out (by simp) _)
    refine hK.out _ _ ?_ (fun hHeld => ?_)
    · (try dsimp only); exact T6.out.cells
    clear hK K
    try simp only [Act.put, List.setIfInBounds_toArray, List.set_cons_zero, List.set_cons_succ]
    refine wpAnyH_done (by kernel_rfl) ?_ _
    have HA := T6
    have HB := Lib.hid (show LmB (x4.setCell ⟨w2.heap.size + 1, 2, none⟩ (.int .i64 (X - 1))) (w2.heap.size + 1) 64 65535 (X - 1) from Blk.set_ T4.out 2 _)
    have BB := Lib.hid (show Below w.heap.size w (x4.setCell ⟨w2.heap.size + 1, 2, none⟩ (.int .i64 (X - 1))) from T5.out.setCell (by simp; omega) _)
    obtain ⟨Z, hZ⟩ : ∃ Z, Z = x4.setCell ⟨w2.heap.size + 1, 2, none⟩ (.int .i64 (X - 1)) := ⟨_, rfl⟩
    rw [← hZ] at HA HB BB ⊢
    clear hZ c0 L0 A0 B0 H0 T0 T1 T2 T3 T4 T5 T6 t4c t4f k1
    have K1 := Lib.hid (fun (w : World) A (h : RowN w A 2 2 [(p : Int) + 1, 10]) => choose_any r 64 65535 (X - 1) A 2 2 [(p : Int) + 1, 10] w h (by omega))
    have K2 := Lib.hid (fun (w : World) A (h : RowN w A 1 1 [0]) => choose_any r 64 65535 (X - 1) A 1 1 [0] w h (by omega))
    have K3 := Lib.hid (fun (w : World) A (h : RowN w A 1 1 [(p : Int) + 1]) => choose_any ⟨0, 0, 0, 0, 0⟩ 64 65535 (X - 1) A 1 1 [(p : Int) + 1] w h (by omega))
    rw [alone_law HV.out (by omega) (by omega) (not_fits (by omega) (.inr (.inr (by rw [HXX.out]; omega))))] at K1
    rw [wrong_law] at K2
    rw [bad_law (by decide)] at K3
    simp only at K1 K2 K3
    obtain ⟨e0, e1, e2, e3, e4⟩ := HA.out.cells
    obtain ⟨f0, f1, f2⟩ := HB.out.cells
    have za := HA.out.lt
    have zb := HB.out.lt
    go_wp2_with fail
    with_reducible refine (K1.out _ _ (row_n2 Z ((p : Int) + 1) 10 _)).mono ?_
    rintro e y1 ⟨rfl, hb⟩
    have HA1 := Lib.hid ((HA.out.alloc _).below hb (Nat.le_refl _))
    have HB1 := Lib.hid (LmB.below (Blk.alloc HB.out _) hb (Nat.le_refl _))
    have BB1 := Lib.hid ((BB.out.alloc BB.out.size _).trans (hb.mono (BB.out.alloc BB.out.size _).size))
    clear hb HA HB BB e0 e1 e2 e3 e4 f0 f1 f2 za zb
    obtain ⟨e0, e1, e2, e3, e4⟩ := HA1.out.cells
    obtain ⟨f0, f1, f2⟩ := HB1.out.cells
    have za := HA1.out.lt
    have zb := HB1.out.lt
    go_wp2_with fail
    refine (K2.out _ _ (row_n1 y1 0 _)).mono ?_
    rintro e y2 ⟨rfl, hb⟩
    have HA2 := Lib.hid ((HA1.out.alloc _).below hb (Nat.le_refl _))
    have HB2' := Lib.hid (LmB.below (Blk.alloc HB1.out _) hb (Nat.le_refl _))
    have BB2 := Lib.hid ((BB1.out.alloc BB1.out.size _).trans (hb.mono (BB1.out.alloc BB1.out.size _).size))
    clear hb HA1 HB1 BB1 e0 e1 e2 e3 e4 f0 f1 f2 za zb
    obtain ⟨e0, e1, e2, e3, e4⟩ := HA2.out.cells
    obtain ⟨f0, f1, f2⟩ := HB2'.out.cells
    have za := HA2.out.lt
    have zb := HB2'.out.lt
    go_wp2_with fail
    refine (K3.out _ _ (row_n1 y2 ((p : Int) + 1) _)).mono ?_
    rintro e y3 ⟨rfl, hb⟩
    have BB3 := Lib.hid ((BB2.out.alloc BB2.out.size _).trans (hb.mono (BB2.out.alloc BB2.out.size _).size))
    clear hb
    go_wp2_with fail
    go_ret
    exact ⟨rfl, BB3.out⟩
  case inr.inl =>
    have k1 : IntKind.i64.wrap ((p : Int) + 1 + 3) = (p : Int) + 1 + 3 := IntWalk.i64_in _ (by omega)
    have HA := Lib.hid ((RtB.new w2 r).alloc (.cells #[.int .i64 64, .int .i64 ((p : Int) + 1 + 3), .int .i64 54840] 25))
    have HB := Lib.hid (LmB.new' w2 64 ((p : Int) + 1 + 3) 54840 (.cells #[.int .i64 r.m, .int .i64 r.c, .int .i64 r.s, .int .i64 r.w, .int .i64 r.g] 23))
    have BB := Lib.hid (show Below w.heap.size w ((w2.alloc (.cells #[.int .i64 r.m, .int .i64 r.c, .int .i64 r.s, .int .i64 r.w, .int .i64 r.g] 23)).alloc (.cells #[.int .i64 64, .int .i64 ((p : Int) + 1 + 3), .int .i64 54840] 25)) from (HB2.out.alloc z2 _).alloc (by simp; omega) _)
    clear HB2
    have K1 := Lib.hid (fun (w : World) A (h : RowN w A 2 2 [(p : Int) + 1, 10]) => choose_any r 64 ((p : Int) + 1 + 3) 54840 A 2 2 [(p : Int) + 1, 10] w h (by omega))
    have K2 := Lib.hid (fun (w : World) A (h : RowN w A 1 1 [0]) => choose_any r 64 ((p : Int) + 1 + 3) 54840 A 1 1 [0] w h (by omega))
    have K3 := Lib.hid (fun (w : World) A (h : RowN w A 1 1 [(p : Int) + 1]) => choose_any ⟨0, 0, 0, 0, 0⟩ 64 ((p : Int) + 1 + 3) 54840 A 1 1 [(p : Int) + 1] w h (by omega))
    rw [alone_law HV.out (by omega) (by omega) (not_fits (by omega) (.inr (.inl (by omega))))] at K1
    rw [wrong_law] at K2
    rw [bad_law (by decide)] at K3
    simp only at K1 K2 K3
    obtain ⟨e0, e1, e2, e3, e4⟩ := HA.out.cells
    obtain ⟨f0, f1, f2⟩ := HB.out.cells
    have za := HA.out.lt
    have zb := HB.out.lt
    go_wp2_with fail
    have hrow := row_n2 ((w2.alloc (.cells #[.int .i64 r.m, .int .i64 r.c, .int .i64 r.s, .int .i64 r.w, .int .i64 r.g] 23)).alloc (.cells #[.int .i64 64, .int .i64 ((p : Int) + 1 + 3), .int .i64 54840] 25)) ((p : Int) + 1) 10 3
    rw [show ((w2.alloc (.cells #[.int .i64 r.m, .int .i64 r.c, .int .i64 r.s, .int .i64 r.w, .int .i64 r.g] 23)).alloc (.cells #[.int .i64 64, .int .i64 ((p : Int) + 1 + 3), .int .i64 54840] 25)).heap.size = w2.heap.size + 1 + 1 by simp] at hrow
    with_reducible refine (K1.out _ _ hrow).mono ?_
    rintro e y1 ⟨rfl, hb⟩
    clear hrow
    have HA1 := Lib.hid ((HA.out.alloc _).below hb (Nat.le_refl _))
    have HB1 := Lib.hid (LmB.below (Blk.alloc HB.out _) hb (Nat.le_refl _))
    have BB1 := Lib.hid ((BB.out.alloc BB.out.size _).trans (hb.mono (BB.out.alloc BB.out.size _).size))
    clear hb HA HB BB e0 e1 e2 e3 e4 f0 f1 f2 za zb
    obtain ⟨e0, e1, e2, e3, e4⟩ := HA1.out.cells
    obtain ⟨f0, f1, f2⟩ := HB1.out.cells
    have za := HA1.out.lt
    have zb := HB1.out.lt
    go_wp2_with fail
    refine (K2.out _ _ (row_n1 y1 0 _)).mono ?_
    rintro e y2 ⟨rfl, hb⟩
    have HA2 := Lib.hid ((HA1.out.alloc _).below hb (Nat.le_refl _))
    have HB2' := Lib.hid (LmB.below (Blk.alloc HB1.out _) hb (Nat.le_refl _))
    have BB2 := Lib.hid ((BB1.out.alloc BB1.out.size _).trans (hb.mono (BB1.out.alloc BB1.out.size _).size))
    clear hb HA1 HB1 BB1 e0 e1 e2 e3 e4 f0 f1 f2 za zb
    obtain ⟨e0, e1, e2, e3, e4⟩ := HA2.out.cells
    obtain ⟨f0, f1, f2⟩ := HB2'.out.cells
    have za := HA2.out.lt
    have zb := HB2'.out.lt
    go_wp2_with fail
    refine (K3.out _ _ (row_n1 y2 ((p : Int) + 1) _)).mono ?_
    rintro e y3 ⟨rfl, hb⟩
    have BB3 := Lib.hid ((BB2.out.alloc BB2.out.size _).trans (hb.mono (BB2.out.alloc BB2.out.size _).size))
    clear hb
    go_wp2_with fail
    go_ret
    exact ⟨rfl, BB3.out⟩
  case inr.inr =>
    have HA := Lib.hid ((RtB.new w2 r).alloc (.cells #[.int .i64 0, .int .i64 65535, .int .i64 54840] 25))
    have HB := Lib.hid (LmB.new' w2 0 65535 54840 (.cells #[.int .i64 r.m, .int .i64 r.c, .int .i64 r.s, .int .i64 r.w, .int .i64 r.g] 23))
    have BB := Lib.hid (show Below w.heap.size w ((w2.alloc (.cells #[.int .i64 r.m, .int .i64 r.c, .int .i64 r.s, .int .i64 r.w, .int .i64 r.g] 23)).alloc (.cells #[.int .i64 0, .int .i64 65535, .int .i64 54840] 25)) from (HB2.out.alloc z2 _).alloc (by simp; omega) _)
    clear HB2
    have K1 := Lib.hid (fun (w : World) A (h : RowN w A 2 2 [(p : Int) + 1, 10]) => choose_any r 0 65535 54840 A 2 2 [(p : Int) + 1, 10] w h (by omega))
    have K2 := Lib.hid (fun (w : World) A (h : RowN w A 1 1 [0]) => choose_any r 0 65535 54840 A 1 1 [0] w h (by omega))
    have K3 := Lib.hid (fun (w : World) A (h : RowN w A 1 1 [(p : Int) + 1]) => choose_any ⟨0, 0, 0, 0, 0⟩ 0 65535 54840 A 1 1 [(p : Int) + 1] w h (by omega))
    rw [alone_law HV.out (by omega) (by omega) (not_fits (by omega) (.inl (by omega)))] at K1
    rw [wrong_law] at K2
    rw [bad_law (by decide)] at K3
    simp only at K1 K2 K3
    obtain ⟨e0, e1, e2, e3, e4⟩ := HA.out.cells
    obtain ⟨f0, f1, f2⟩ := HB.out.cells
    have za := HA.out.lt
    have zb := HB.out.lt
    go_wp2_with fail
    have hrow := row_n2 ((w2.alloc (.cells #[.int .i64 r.m, .int .i64 r.c, .int .i64 r.s, .int .i64 r.w, .int .i64 r.g] 23)).alloc (.cells #[.int .i64 0, .int .i64 65535, .int .i64 54840] 25)) ((p : Int) + 1) 10 3
    rw [show ((w2.alloc (.cells #[.int .i64 r.m, .int .i64 r.c, .int .i64 r.s, .int .i64 r.w, .int .i64 r.g] 23)).alloc (.cells #[.int .i64 0, .int .i64 65535, .int .i64 54840] 25)).heap.size = w2.heap.size + 1 + 1 by simp] at hrow
    with_reducible refine (K1.out _ _ hrow).mono ?_
    rintro e y1 ⟨rfl, hb⟩
    clear hrow
    have HA1 := Lib.hid ((HA.out.alloc _).below hb (Nat.le_refl _))
    have HB1 := Lib.hid (LmB.below (Blk.alloc HB.out _) hb (Nat.le_refl _))
    have BB1 := Lib.hid ((BB.out.alloc BB.out.size _).trans (hb.mono (BB.out.alloc BB.out.size _).size))
    clear hb HA HB BB e0 e1 e2 e3 e4 f0 f1 f2 za zb
    obtain ⟨e0, e1, e2, e3, e4⟩ := HA1.out.cells
    obtain ⟨f0, f1, f2⟩ := HB1.out.cells
    have za := HA1.out.lt
    have zb := HB1.out.lt
    go_wp2_with fail
    refine (K2.out _ _ (row_n1 y1 0 _)).mono ?_
    rintro e y2 ⟨rfl, hb⟩
    have HA2 := Lib.hid ((HA1.out.alloc _).below hb (Nat.le_refl _))
    have HB2' := Lib.hid (LmB.below (Blk.alloc HB1.out _) hb (Nat.le_refl _))
    have BB2 := Lib.hid ((BB1.out.alloc BB1.out.size _).trans (hb.mono (BB1.out.alloc BB1.out.size _).size))
    clear hb HA1 HB1 BB1 e0 e1 e2 e3 e4 f0 f1 f2 za zb
    obtain ⟨e0, e1, e2, e3, e4⟩ := HA2.out.cells
    obtain ⟨f0, f1, f2⟩ := HB2'.out.cells
    have za := HA2.out.lt
    have zb := HB2'.out.lt
    go_wp2_with fail
    refine (K3.out _ _ (row_n1 y2 ((p : Int) + 1) _)).mono ?_
    rintro e y3 ⟨rfl, hb⟩
    have BB3 := Lib.hid ((BB2.out.alloc BB2.out.size _).trans (hb.mono (BB2.out.alloc BB2.out.size _).size))
    clear hb
    go_wp2_with fail
    go_ret
    exact ⟨rfl, BB3.out⟩
end Go.Proofs.Ytnndmpanopnncaa
