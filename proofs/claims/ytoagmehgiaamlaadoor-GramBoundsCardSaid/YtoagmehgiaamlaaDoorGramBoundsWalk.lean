/-
  The walk of GramBounds. Printed by gen_bounds.py.
-/
import Derived.Test.YtoagmehgiaamlaaDoorGramRun
import Derived.Test.YtoagmehgiaamlaaDoorMa
namespace Go.Proofs.YtoagmehgiaamlaaDoor
open Go.ChangeShapes Go.WideShapes Go.ChangeAt Go.RowKit
set_option linter.unusedVariables false

def zrun (Z : Nat) : RunP := ⟨0, 7, fun j => j, false, false, fun _ => List.replicate Z 0⟩
theorem zrun_ok {Z N : Nat} (hN : N ≤ 10) (hZ : Z < 300) : RunOk (zrun Z) N :=
  ⟨by show (0 : Int) ≤ 0; decide, by show (0 : Int) < 8; decide, by show (0 : Int) ≤ 7; decide, by show (7 : Int) < 4096; decide, fun j hj => show j < 64 by omega, fun j hj => show j < j + 1 by omega, fun j hj => by show (List.replicate Z (0 : UInt8)).length ≤ 1500; rw [List.length_replicate]; omega⟩
theorem zrun_at {Z i : Nat} (hi : i < 10) : frAt (zrun Z) i = frameB (adr2 2 2) (adr2 2 1) (adr2 2 1) 0 (7 + (i : Int)) false false false (List.replicate Z 0) := by
  unfold frAt
  rw [show seqAt (zrun Z) i = 7 + (i : Int) by show (7 + (i : Int)) % 4096 = 7 + (i : Int); omega]
  rfl
def zL (Z N : Nat) : List (List UInt8) := (List.range N).map (frAt (zrun Z))
theorem zL_len (Z N : Nat) : (zL Z N).length = N := by simp [zL]
theorem zL_mem {Z N : Nat} {x : List UInt8} (h : x ∈ zL Z N) : x.length = 26 + Z := by
  obtain ⟨j, _, rfl⟩ := List.mem_map.1 h
  rw [fr_len]
  show 26 + (List.replicate Z (0 : UInt8)).length = _
  rw [List.length_replicate]
theorem zL_good {Z N : Nat} (hZ : Z < 300) : goodL (zL Z N) := fun x hx => by have := zL_mem hx; omega
theorem zL_ne {Z N : Nat} (h : 0 < N) : zL Z N ≠ [] := by intro e; have := zL_len Z N; rw [e] at this; simp at this; omega
theorem zL_bound {Z N : Nat} (hN : N ≤ 10) (hZ : Z < 300) : (packP (zL Z N)).length ≤ 3340 := by
  have h1 := pack_bound (zL Z N) (26 + Z) (fun x hx => by have := zL_mem hx; omega)
  rw [zL_len] at h1
  have h2 : N * (8 + (26 + Z)) ≤ 10 * (8 + (26 + 299)) := Nat.mul_le_mul hN (by omega)
  omega
theorem zL_pos {Z N : Nat} (h : 0 < N) : 0 < (packP (zL Z N)).length := by
  rcases snoc_or (zL Z N) with e | ⟨M, x, e⟩
  · exact absurd e (zL_ne h)
  · rw [e, pack_snoc]
    simp only [List.length_append, delim_len]
    omega
theorem zL_packR {Z N : Nat} (h0 : 0 < N) (hN : N ≤ 10) (hZ : Z < 300) : packR (zL Z N) = .ok (packP (zL Z N)) :=
  packR_yes (zL_good hZ) (zL_ne h0) (by rw [zL_len]; omega) (by have := zL_bound (Z := Z) hN hZ; omega)
theorem zL_parts {Z N : Nat} (h0 : 0 < N) (hN : N ≤ 10) (hZ : Z < 300) : partsP (packP (zL Z N)) = .ok (zL Z N) :=
  parts_pack (zL_good hZ) (zL_ne h0) (by rw [zL_len]; omega) (by have := zL_bound (Z := Z) hN hZ; omega)
abbrev mB (bytes ticks : Int) (rt : RT) : RulesP := rulesS 7 64 bytes ticks (adr2 2 2) rt true
theorem mB_keeps (Z : Nat) (bytes ticks : Int) (rt : RT) : KeepsR (mB bytes ticks rt) (zrun Z) := ⟨rfl, rfl, rfl⟩
theorem zero_invalid : validP ⟨0, 0, 0, 0, 0⟩ = false := by decide
section
variable {Z N : Nat} (h0 : 0 < N) (hN : N ≤ 10) (hZ : Z < 300)
include h0 hN hZ
theorem zc_fine : checkP (mB ((packP (zL Z N)).length : Int) 54840 ht7) true (packP (zL Z N)) = .fine (sentK (zrun Z) N) := by
  rw [check_whole rfl (zL_parts h0 hN hZ)]
  have hb := zL_bound (Z := Z) hN hZ
  have hp := ht7_le (n := (packP (zL Z N)).length) (by omega)
  refine allR_fine (run_all (mB_keeps Z _ _ _) (by show (64 : Int) ≤ 64; omega) (zrun_ok hN hZ)) (whole_fine ?_ ?_)
  · rw [zL_len]
    rintro (h | h)
    · have : (64 : Int) < (N : Int) := h
      omega
    · have : ((packP (zL Z N)).length : Int) < ((packP (zL Z N)).length : Int) := h.2
      omega
  · rintro (h | h | h)
    · have : validP ht7 = false := h
      rw [ht7_valid] at this; cases this
    · have : 54840 < ppP ht7 ((packP (zL Z N)).length : Int) := h
      omega
    · have : 54840 < ppP ht7 ((packP (zL Z N)).length : Int) := h.2
      omega
theorem zc_many : checkP (mB ((packP (zL Z N)).length - 1 : Int) 54840 ht7) true (packP (zL Z N)) = .bare 3 := by
  rw [check_whole rfl (zL_parts h0 hN hZ)]
  refine allR_bare (run_all (mB_keeps Z _ _ _) (by show (64 : Int) ≤ 64; omega) (zrun_ok hN hZ)) (whole_many (.inr ⟨rfl, ?_⟩))
  show ((packP (zL Z N)).length - 1 : Int) < ((packP (zL Z N)).length : Int)
  omega
theorem zc_ticks : checkP (mB 65535 0 ht7) true (packP (zL Z N)) = .bare 11 := by
  rw [check_whole rfl (zL_parts h0 hN hZ)]
  have hb := zL_bound (Z := Z) hN hZ
  have hp := ht7_le (n := (packP (zL Z N)).length) (by omega)
  refine allR_bare (run_all (mB_keeps Z _ _ _) (by show (64 : Int) ≤ 64; omega) (zrun_ok hN hZ)) (whole_long ?_ (.inr (.inr ⟨rfl, hp.1⟩)))
  rw [zL_len]
  rintro (h | h)
  · have : (64 : Int) < (N : Int) := h
    omega
  · have : (65535 : Int) < ((packP (zL Z N)).length : Int) := h.2
    omega
omit h0 hN in
theorem zc_one (rt : RT) : sentL (mB 65535 0 rt) [frAt (zrun Z) 0] 0 noSent none = .ok (sentK (zrun Z) 1) := run_all (N := 1) (mB_keeps Z _ _ _) (by show (64 : Int) ≤ 64; omega) (zrun_ok (by omega) hZ)
omit h0 hN in
theorem zc_alone : checkP (mB 65535 0 ht7) false (frAt (zrun Z) 0) = .fine (sentK (zrun Z) 1) := by
  rw [check_single]
  have hl : (frAt (zrun Z) 0).length = 26 + Z := zL_mem (N := 1) (by simp [zL])
  have hp := ht7_le (n := 26 + Z) (by omega)
  refine allR_fine (zc_one hZ _) (whole_fine ?_ ?_)
  · rintro (h | h)
    · have : (64 : Int) < ((1 : Nat) : Int) := h
      omega
    · exact absurd h.1 (by decide)
  · rw [hl]
    rintro (h | h | h)
    · have : validP ht7 = false := h
      rw [ht7_valid] at this; cases this
    · have : 54840 < ppP ht7 ((26 + Z : Nat) : Int) := h
      omega
    · exact absurd h.1 (by decide)
omit h0 hN in
theorem zc_rate : checkP (mB 65535 0 ⟨0, 0, 0, 0, 0⟩) false (frAt (zrun Z) 0) = .bare 11 := by
  rw [check_single]
  refine allR_bare (zc_one hZ _) (whole_long ?_ (.inl zero_invalid))
  rintro (h | h)
  · have : (64 : Int) < ((1 : Nat) : Int) := h
    omega
  · exact absurd h.1 (by decide)
end
theorem qv_zero (seq : Int) (A : Option Addr) (n C : Nat) : qv (fA (adr2 2 2) (adr2 2 1) (adr2 2 1)) 0 seq false false false A n C = .agg #[.int .u8 2, .int .u8 2, .int .u8 0, .int .u8 0, .int .u8 0, .int .u8 0, .int .u8 2, .int .u8 1, .int .u8 0, .int .u8 0, .int .u8 0, .int .u8 0, .int .u8 2, .int .u8 1, .int .u8 0, .int .u8 0, .int .u8 0, .int .u8 0, .int .i64 0, .int .i64 seq, .bool false, .bool false, .bool false, .slice A n C] := rfl


set_option maxRecDepth 100000 in
set_option maxHeartbeats 8000000 in
theorem gramBounds_walk (w : World) {E : Nat → Addr} (hE : Errs allErr w E) (a0 : Int) (w0 : (Lit.int .i64 a0).wf = true) (a1 : Int) (w1 : (Lit.int .i64 a1).wf = true) :
    Calls Tryd.prog 6 #[.int .i64 a0, .int .i64 a1] w fun e w' => e = .returned (.bool true) ∧ Below w.heap.size w w' := by
  obtain ⟨hb0, hb0'⟩ := bounds_i64 w0
  obtain ⟨hb1, hb1'⟩ := bounds_i64 w1
  clear w0 w1
  have HE := Lib.hid hE
  clear hE
  have N0 := Lib.hid (fun w => number_any a0 10 w (by decide) (by decide) hb0 hb0')
  have N1 := Lib.hid (fun w => number_any a1 300 w (by decide) (by decide) hb1 hb1')
  obtain ⟨N', hN', eN⟩ := number_nat a0 10 (by decide)
  obtain ⟨Z, hZ, eZ⟩ := number_nat a1 300 (by decide)
  rw [show a0 % 10 = (N' : Int) from eN] at N0
  rw [show a1 % 300 = (Z : Int) from eZ] at N1
  clear eN eZ hb0 hb0' hb1 hb1'
  have eW : IntKind.i64.wrap ((N' : Int) + 1) = ((N' + 1 : Nat) : Int) := by rw [IntWalk.i64_in _ (by omega)]; omega
  obtain ⟨N, hNN⟩ : ∃ N, N' + 1 = N := ⟨_, rfl⟩
  rw [hNN] at eW
  have hN : N ≤ 10 := by omega
  have hNp : 0 < N := by omega
  have HNN := Lib.hid hNN
  clear hNN
  go_enter Tryd.func6, Tryd.ntmps6
  go_wp2_with fail
  refine (first_any HE.out).mono ?_
  rintro e w1 ⟨rfl, hw1⟩
  have HB1 := Lib.hid hw1
  have z1 := hw1.size
  clear hw1
  go_wp2_with fail
  refine (N0.out w1).mono ?_
  rintro e wq ⟨rfl, rfl⟩
  go_wp2_with fail
  refine (N1.out w1).mono ?_
  rintro e wq ⟨rfl, rfl⟩
  have HR := Lib.hid (rules_any 7 64 w1)
  go_wp2_with fail
  refine HR.out.mono ?_
  rintro e w2 ⟨rfl, hb2⟩
  have HB2 := Lib.hid (HB1.out.trans (hb2.mono z1))
  have z2 := HB2.out.size
  clear hb2
  unfold ruv
  clear eW
  go_wp2_with (refine wpList_store_blk _ (by rfl) 30 _ _ rfl w2.heap.size (rucells (mB 65535 54840 ht7)) rfl rfl 30 _ (Blk.new _ _ _) (by kernel_rfl) rfl (by simp [rucells, Value.oneCell']) ?_; intro w3 hk3 hg3)
  have hb3 : Below w2.heap.size w2 w3 := Below.grown ((Below.refl _ _).alloc (Nat.le_refl _) _) hg3 (by simp) (by simp)
  have HB3 := Lib.hid (HB2.out.trans (hb3.mono z2))
  have HM3 := Lib.hid hk3
  have z3 := HB3.out.size
  clear hk3 hg3 hb3
  generalize w2.heap.size = pm at *
  have l3 := HM3.out.lt
  go_loopw [7, 8] (fun lv iv wr => ∃ (i : Nat) (A : Option Addr) (C : Nat), i ≤ N ∧ iv = .int .i64 i ∧ lv = .slice A i C ∧ OwnP wr w3.heap.size (.slice A i C) (zL Z i) ∧ Below w3.heap.size w3 wr)
    (fun _ iv _ => N - (intOf iv).toNat)
  case atStart => exact ⟨0, none, 0, Nat.zero_le _, rfl, rfl, ownP_nil _ _, Below.refl _ _⟩
  case round =>
    obtain ⟨i, A, C, hi, rfl, rfl, hO, hb⟩ := hrel
    have HO := Lib.hid hO
    have HB := Lib.hid hb
    have z := hb.size
    clear hO hb
    by_cases hiN : i < N
    case pos =>
      have q1 : (i : Int) < (N : Int) := by omega
      have q2 : IntKind.i64.wrap ((i : Int) + 1) = (i : Int) + 1 := IntWalk.i64_in _ (by omega)
      have q3 : IntKind.i64.wrap (7 + (i : Int)) = 7 + (i : Int) := IntWalk.i64_in _ (by omega)
      have HIN := Lib.hid hiN
      clear hi hiN
      have HMR := Lib.hid (HM3.out.below HB.out l3)
      go_wp2_with fail
      have hS0 : (fun w' => w'.cell? ⟨pm, 0, none⟩ = some (.int .u8 2) ∧ w'.cell? ⟨pm, 1, none⟩ = some (.int .u8 1) ∧ w'.cell? ⟨pm, 2, none⟩ = some (.int .u8 0) ∧ w'.cell? ⟨pm, 3, none⟩ = some (.int .u8 0) ∧ w'.cell? ⟨pm, 4, none⟩ = some (.int .u8 0) ∧ w'.cell? ⟨pm, 5, none⟩ = some (.int .u8 0) ∧ w'.cell? ⟨pm, 6, none⟩ = some (.int .u8 2) ∧ w'.cell? ⟨pm, 7, none⟩ = some (.int .u8 2) ∧ w'.cell? ⟨pm, 8, none⟩ = some (.int .u8 0) ∧ w'.cell? ⟨pm, 9, none⟩ = some (.int .u8 0) ∧ w'.cell? ⟨pm, 10, none⟩ = some (.int .u8 0) ∧ w'.cell? ⟨pm, 11, none⟩ = some (.int .u8 0)) wr.drew := ⟨HMR.out.cell 0, HMR.out.cell 1, HMR.out.cell 2, HMR.out.cell 3, HMR.out.cell 4, HMR.out.cell 5, HMR.out.cell 6, HMR.out.cell 7, HMR.out.cell 8, HMR.out.cell 9, HMR.out.cell 10, HMR.out.cell 11⟩
      refine wp_region_held_drew (S := fun w' => w'.cell? ⟨pm, 0, none⟩ = some (.int .u8 2) ∧ w'.cell? ⟨pm, 1, none⟩ = some (.int .u8 1) ∧ w'.cell? ⟨pm, 2, none⟩ = some (.int .u8 0) ∧ w'.cell? ⟨pm, 3, none⟩ = some (.int .u8 0) ∧ w'.cell? ⟨pm, 4, none⟩ = some (.int .u8 0) ∧ w'.cell? ⟨pm, 5, none⟩ = some (.int .u8 0) ∧ w'.cell? ⟨pm, 6, none⟩ = some (.int .u8 2) ∧ w'.cell? ⟨pm, 7, none⟩ = some (.int .u8 2) ∧ w'.cell? ⟨pm, 8, none⟩ = some (.int .u8 0) ∧ w'.cell? ⟨pm, 9, none⟩ = some (.int .u8 0) ∧ w'.cell? ⟨pm, 10, none⟩ = some (.int .u8 0) ∧ w'.cell? ⟨pm, 11, none⟩ = some (.int .u8 0)) (by kernel_rfl) hS0 (fun hHeld => ?_)
      clear hS0
      refine wpAnyH_take (i := 0) (oi := { dst := some 38, op := _, type := _, pos := _, after := _, guard := none }) (v := ?v0a) rfl (by kernel_rfl) (by kernel_rfl) (by kernel_rfl) (fun _ _ _ h => h) (Or.inl ⟨by rfl, ?y0a⟩) (by assumption) ?r0a
      (case y0a => intro w hSw; (try dsimp only at hSw); go_simp; try with_reducible rfl)
      try simp only [Act.put, List.setIfInBounds_toArray, List.set_cons_zero, List.set_cons_succ]
      refine wpAnyH_take (i := 1) (oi := { dst := some 39, op := _, type := _, pos := _, after := _, guard := none }) (v := ?v1a) rfl (by kernel_rfl) (by kernel_rfl) (by kernel_rfl) (fun _ _ _ h => h) (Or.inl ⟨by rfl, ?y1a⟩) (by assumption) ?r1a
      (case y1a => intro w hSw; (try dsimp only at hSw); go_simp; try with_reducible rfl)
      try simp only [Act.put, List.setIfInBounds_toArray, List.set_cons_zero, List.set_cons_succ]
      refine wpAnyH_take (i := 2) (oi := { dst := some 40, op := _, type := _, pos := _, after := _, guard := none }) (v := ?v2a) rfl (by kernel_rfl) (by kernel_rfl) (by kernel_rfl) (fun _ _ _ h => h) (Or.inl ⟨by rfl, ?y2a⟩) (by assumption) ?r2a
      (case y2a => intro w hSw; (try dsimp only at hSw); go_simp; try with_reducible rfl)
      try simp only [Act.put, List.setIfInBounds_toArray, List.set_cons_zero, List.set_cons_succ]
      refine wpAnyH_take (i := 3) (oi := { dst := some 41, op := _, type := _, pos := _, after := _, guard := none }) (v := ?v3a) rfl (by kernel_rfl) (by kernel_rfl) (by kernel_rfl) (fun _ _ _ h => h) (Or.inl ⟨by rfl, ?y3a⟩) (by assumption) ?r3a
      (case y3a => intro w hSw; (try dsimp only at hSw); go_simp; try with_reducible rfl)
      try simp only [Act.put, List.setIfInBounds_toArray, List.set_cons_zero, List.set_cons_succ]
      refine wpAnyH_take (i := 4) (oi := { dst := some 42, op := _, type := _, pos := _, after := _, guard := none }) (v := ?v4a) rfl (by kernel_rfl) (by kernel_rfl) (by kernel_rfl) (fun _ _ _ h => h) (Or.inl ⟨by rfl, ?y4a⟩) (by assumption) ?r4a
      (case y4a => intro w hSw; (try dsimp only at hSw); go_simp; try with_reducible rfl)
      try simp only [Act.put, List.setIfInBounds_toArray, List.set_cons_zero, List.set_cons_succ]
      refine wpAnyH_take (i := 5) (oi := { dst := some 43, op := _, type := _, pos := _, after := _, guard := none }) (v := ?v5a) rfl (by kernel_rfl) (by kernel_rfl) (by kernel_rfl) (fun _ _ _ h => h) (Or.inl ⟨by rfl, ?y5a⟩) (by assumption) ?r5a
      (case y5a => intro w hSw; (try dsimp only at hSw); go_simp; try with_reducible rfl)
      try simp only [Act.put, List.setIfInBounds_toArray, List.set_cons_zero, List.set_cons_succ]
      refine wpAnyH_take (i := 6) (oi := { dst := some 44, op := _, type := _, pos := _, after := _, guard := none }) (v := ?v6a) rfl (by kernel_rfl) (by kernel_rfl) (by kernel_rfl) (fun _ _ _ h => h) (Or.inl ⟨by rfl, ?y6a⟩) (by assumption) ?r6a
      (case y6a => intro w hSw; (try dsimp only at hSw); go_simp; try with_reducible rfl)
      try simp only [Act.put, List.setIfInBounds_toArray, List.set_cons_zero, List.set_cons_succ]
      refine wpAnyH_take (i := 7) (oi := { dst := some 45, op := _, type := _, pos := _, after := _, guard := none }) (v := ?v7a) rfl (by kernel_rfl) (by kernel_rfl) (by kernel_rfl) (fun _ _ _ h => h) (Or.inl ⟨by rfl, ?y7a⟩) (by assumption) ?r7a
      (case y7a => intro w hSw; (try dsimp only at hSw); go_simp; try with_reducible rfl)
      try simp only [Act.put, List.setIfInBounds_toArray, List.set_cons_zero, List.set_cons_succ]
      refine wpAnyH_take (i := 8) (oi := { dst := some 46, op := _, type := _, pos := _, after := _, guard := none }) (v := ?v8a) rfl (by kernel_rfl) (by kernel_rfl) (by kernel_rfl) (fun _ _ _ h => h) (Or.inl ⟨by rfl, ?y8a⟩) (by assumption) ?r8a
      (case y8a => intro w hSw; (try dsimp only at hSw); go_simp; try with_reducible rfl)
      try simp only [Act.put, List.setIfInBounds_toArray, List.set_cons_zero, List.set_cons_succ]
      try simp only [q3]
      have hbd : Below w3.heap.size w3 wr.drew := HB.out.trans (below_drewN (w := wr) 1 |>.mono z)
      have HOD := Lib.hid (HO.out.below (w' := wr.drew) (below_drewN (w := wr) 1) (Nat.le_refl _))
      have HBD := Lib.hid hbd
      have zd := hbd.size
      have HMD := Lib.hid (HM3.out.below hbd l3)
      clear hbd
      generalize wr.drew = V at *
      refine wpAnyH_ready (rs := [9]) (by kernel_rfl) (by simp) ?_
      refine AllReadyH.cons (o := { dst := some 47, op := _, type := _, pos := _, after := _, guard := none }) rfl (fun K hK => as_wanted rfl (wp_make_u8 V (.tmp 46) (.tmp 46) rfl .i64 .i64 Z rfl rfl (by omega) (fun V1 hz1 hg1 => ?_))) AllReadyH.nil
      have hbv : Below V.heap.size V V1 := Below.grown (Below.refl _ _) hg1 (Nat.le_refl _) (fun k hk => by cases hk)
      have HBV := Lib.hid (HBD.out.trans (hbv.mono zd))
      have zv := HBV.out.size
      have HMV := Lib.hid (HM3.out.below HBV.out l3)
      have HZV := Lib.hid hz1.row
      have HOV := Lib.hid (HOD.out.below hbv (Nat.le_refl _))
      clear hz1 hg1 hbv hHeld
      refine hK.out _ _ ⟨HMV.out.cell 0, HMV.out.cell 1, HMV.out.cell 2, HMV.out.cell 3, HMV.out.cell 4, HMV.out.cell 5, HMV.out.cell 6, HMV.out.cell 7, HMV.out.cell 8, HMV.out.cell 9, HMV.out.cell 10, HMV.out.cell 11⟩ (fun hHeld => ?_)
      clear hK K
      try simp only [Act.put, List.setIfInBounds_toArray, List.set_cons_zero, List.set_cons_succ]
      generalize V.heap.size = pz at *
      refine wpAnyH_take (i := 10) (oi := { dst := some 48, op := _, type := _, pos := _, after := _, guard := none }) (v := ?v10a) rfl (by kernel_rfl) (by kernel_rfl) (by kernel_rfl) (fun _ _ _ h => h) (Or.inl ⟨by rfl, ?y10a⟩) (by assumption) ?r10a
      (case y10a => intro w hSw; (try dsimp only at hSw); go_simp; try with_reducible rfl)
      try simp only [Act.put, List.setIfInBounds_toArray, List.set_cons_zero, List.set_cons_succ]
      have eq : qres (fA (adr2 2 2) (adr2 2 1) (adr2 2 1)) 0 (7 + (i : Int)) false false false Z (List.replicate Z 0) = frAt (zrun Z) i := by
        rw [zrun_at (by have := HIN.out; omega)]
        unfold qres
        rw [show qokB 0 (7 + (i : Int)) Z = true from decide_eq_true ⟨by decide, by decide, by omega, by have := HIN.out; omega, by omega⟩]
        rfl
      have HQ := Lib.hid (rqosBytes_any (fA (adr2 2 2) (adr2 2 1) (adr2 2 1)) 0 (7 + (i : Int)) false false false (some ⟨pz, 0, none⟩) Z Z (List.replicate Z 0) V1 HZV.out)
      rw [eq, qv_zero] at HQ
      clear eq
      refine wpAnyH_ready (rs := [11]) (by kernel_rfl) (by simp) ?_
      refine AllReadyH.cons (o := { dst := some 49, op := _, type := _, pos := _, after := _, guard := none }) rfl (fun K hK => ?_) AllReadyH.nil
      go_simp
      refine HQ.out.mono ?_
      rintro e V2 ⟨A2, n2, C2, rfl, ho2, hb2⟩
      go_wp2_with fail
      have hn2 : n2 = 26 + Z := by have := ho2.len; rw [zL_mem (Z := Z) (N := i + 1) (List.mem_map.2 ⟨i, List.mem_range.2 (by omega), rfl⟩)] at this; omega
      subst hn2
      have HB2V := Lib.hid (HBV.out.trans (hb2.mono zv))
      have z2v := HB2V.out.size
      have HW := Lib.hid (ho2.base_le (b' := w3.heap.size) zv)
      have HO2 := Lib.hid (HOV.out.below hb2 (Nat.le_refl _))
      have HM2 := Lib.hid (HM3.out.below HB2V.out l3)
      clear ho2 hb2
      refine hK.out _ _ ⟨HM2.out.cell 0, HM2.out.cell 1, HM2.out.cell 2, HM2.out.cell 3, HM2.out.cell 4, HM2.out.cell 5, HM2.out.cell 6, HM2.out.cell 7, HM2.out.cell 8, HM2.out.cell 9, HM2.out.cell 10, HM2.out.cell 11⟩ (fun hHeld2 => ?_)
      clear hK K hHeld
      try simp only [Act.put, List.setIfInBounds_toArray, List.set_cons_zero, List.set_cons_succ]
      refine wpAnyH_take (i := 12) (oi := { dst := some 37, op := _, type := _, pos := _, after := _, guard := none }) (v := ?v12b) rfl (by kernel_rfl) (by kernel_rfl) (by kernel_rfl) (fun _ _ _ h => h) (Or.inl ⟨by rfl, ?y12b⟩) (by assumption) ?r12b
      (case y12b => intro w hSw; (try dsimp only at hSw); go_simp; try with_reducible rfl)
      try simp only [Act.put, List.setIfInBounds_toArray, List.set_cons_zero, List.set_cons_succ]
      refine wpAnyH_take (i := 13) (oi := { dst := some 50, op := _, type := _, pos := _, after := _, guard := none }) (v := ?v13b) rfl (by kernel_rfl) (by kernel_rfl) (by kernel_rfl) (fun _ _ _ h => h) (Or.inl ⟨by rfl, ?y13b⟩) (by assumption) ?r13b
      (case y13b => intro w hSw; (try dsimp only at hSw); go_simp; try with_reducible rfl)
      try simp only [Act.put, List.setIfInBounds_toArray, List.set_cons_zero, List.set_cons_succ]
      refine wpAnyH_take (i := 14) (oi := { dst := some 51, op := _, type := _, pos := _, after := _, guard := none }) (v := ?v14b) rfl (by kernel_rfl) (by kernel_rfl) (by kernel_rfl) (fun _ _ _ h => h) (Or.inl ⟨by rfl, ?y14b⟩) (by assumption) ?r14b
      (case y14b => intro w hSw; (try dsimp only at hSw); go_simp; try with_reducible rfl)
      try simp only [Act.put, List.setIfInBounds_toArray, List.set_cons_zero, List.set_cons_succ]
      refine wpAnyH_take (i := 15) (oi := { dst := some 9, op := _, type := _, pos := _, after := _, guard := none }) (v := ?v15b) rfl (by kernel_rfl) (by kernel_rfl) (by kernel_rfl) (fun _ _ _ h => h) (Or.inl ⟨by rfl, ?y15b⟩) (by assumption) ?r15b
      (case y15b => intro w hSw; (try dsimp only at hSw); go_simp; try with_reducible rfl)
      try simp only [Act.put, List.setIfInBounds_toArray, List.set_cons_zero, List.set_cons_succ]
      refine wpAnyH_take (i := 16) (oi := { dst := some 10, op := _, type := _, pos := _, after := _, guard := none }) (v := ?v16b) rfl (by kernel_rfl) (by kernel_rfl) (by kernel_rfl) (fun _ _ _ h => h) (Or.inl ⟨by rfl, ?y16b⟩) (by assumption) ?r16b
      (case y16b => intro w hSw; (try dsimp only at hSw); go_simp; try with_reducible rfl)
      try simp only [Act.put, List.setIfInBounds_toArray, List.set_cons_zero, List.set_cons_succ]
      refine wpAnyH_done (by kernel_rfl) ?_ _
      clear hHeld2
      have HZL := Lib.hid (zL_len Z i)
      have HSN := Lib.hid (show zL Z (i + 1) = zL Z i ++ [frAt (zrun Z) i] by unfold zL; rw [List.range_succ, List.map_append]; rfl)
      have HFL := Lib.hid (show (frAt (zrun Z) i).length = 26 + Z from zL_mem (Z := Z) (N := i + 1) (List.mem_map.2 ⟨i, List.mem_range.2 (by omega), rfl⟩))
      go_wp2_with (at_builtin; (refine app_part _ rfl (.tmp 52) (.tmp 54) rfl w3.heap.size A i C (zL Z i) HZL.out.symm rfl (HO2.out.alloc _) (by rw [HZL.out]; have := HIN.out; omega) A2 (26 + Z) C2 (frAt (zrun Z) i) HFL.out (HW.out.alloc _) (some ⟨V2.heap.size, 0, none⟩) 1 rfl (row_slice _ _ _) (by simp; omega) ?_; intro A5 C5 w5 ho5 hb5))
      have HB5 := Lib.hid (HB2V.out.trans ((((Below.refl V2.heap.size V2).alloc (Nat.le_refl _) _).mono z2v).trans hb5))
      rw [← HSN.out] at ho5
      have HO5 := Lib.hid ho5
      clear ho5 hb5
      refine ⟨?_, by simp [intOf]; have := HIN.out; omega⟩
      exact ⟨i + 1, A5, C5, HIN.out, by simp, rfl, HO5.out, HB5.out⟩
    case neg =>
      have hLi : N = i := by omega
      subst hLi
      have q1 : ¬ ((N : Int) < (N : Int)) := by omega
      clear hiN hi
      have HPK := Lib.hid (refPack_any (w := wr) A N C (zL Z N) (by obtain ⟨B', D', e', hr⟩ := HO.out.row; injection e' with e1 e2 e3; subst e1 e3; rw [zL_len] at hr; exact hr) (by omega))
      rw [zL_packR hNp hN hZ] at HPK
      have FZ1 := Lib.hid (zc_fine hNp hN hZ)
      have FZ2 := Lib.hid (zc_many hNp hN hZ)
      have FZ3 := Lib.hid (zc_ticks hNp hN hZ)
      have FZ4 := Lib.hid (zc_alone hZ)
      have FZ5 := Lib.hid (zc_rate hZ)
      have hnp0 := zL_pos (Z := Z) hNp
      have hnp1 := zL_bound (Z := Z) hN hZ
      have HF0 := Lib.hid (show (zL Z N)[0]? = some (frAt (zrun Z) 0) by unfold zL; rw [List.getElem?_map, List.getElem?_range hNp]; rfl)
      have HFN := Lib.hid (show (frAt (zrun Z) 0).length = 26 + Z from zL_mem (N := 1) (by simp [zL]))
      have qN : (0 : Int) < (N : Int) := by omega
      generalize packP (zL Z N) = P at *
      generalize zL Z N = LL at *
      obtain ⟨np, hnp⟩ : ∃ np, P.length = np := ⟨_, rfl⟩
      rw [hnp] at FZ1 FZ2 hnp0 hnp1
      have HNP := Lib.hid hnp
      clear hnp
      have q4 : IntKind.i64.wrap ((np : Int) - 1) = (np : Int) - 1 := IntWalk.i64_in _ (by omega)
      go_wp2_with fail
      refine HPK.out.mono ?_
      rintro e w4 ⟨A2, C2, rfl, ho4, hb4⟩
      rw [HNP.out] at ho4 ⊢
      have hS4 : BndS w w3.heap.size pm (mB 65535 54840 ht7) A2 np C2 P A N C LL w4 :=
        ⟨(HM3.out.below HB.out l3).below hb4 (by omega), ho4.base_le z, HO.out.below hb4 (Nat.le_refl _), (HB3.out.trans (HB.out.mono z3)).trans (hb4.mono (by omega)), z2⟩
      have hS5 : BndS w w3.heap.size pm (mB (np : Int) 54840 ht7) A2 np C2 P A N C LL (w4.setCell ⟨pm, 19, none⟩ (.int .i64 (np : Int))) := hS4.set_ 19 (.int .i64 (np : Int)) rfl
      have c19 : w4.cell? ⟨pm, 19, none⟩ = some (.int .i64 65535) := hS4.rules.cell 19
      have f19 := hS4.rules.frozen 19
      have HS5 := Lib.hid hS5
      clear hS4 hS5 ho4 hb4
      go_wp2_with (refine wpList_load_blk _ (by rfl) 30 _ rfl pm rfl 30 _ _ HS5.out.rules Tryd.underlying30 rfl (by kernel_rfl) ?_)
      generalize w4.setCell _ _ = w5 at *
      clear c19 f19
      have HC5 := Lib.hid (check_any (HS5.out.errs HE.out) (mB (np : Int) 54840 ht7) true A2 np C2 P HS5.out.row (by omega))
      rw [FZ1.out] at HC5
      refine HC5.out.mono ?_
      rintro e w6 ⟨A5, C5, A6, C6, A7, C7, rfl, _, _, _, hb6⟩
      have HS6 := Lib.hid (HS5.out.below hb6)
      clear hb6
      go_wp2_with (first
        | (refine wpList_store_blk _ (by rfl) 40 _ _ rfl w6.heap.size _ rfl rfl 40 _ (Blk.new _ _ _) (by kernel_rfl) rfl sent_one ?_; intro w7 hk7 hg7; have hb67 : Below w6.heap.size w6 w7 := Below.grown ((Below.refl _ _).alloc (Nat.le_refl _) _) hg7 (by simp) (by simp); have hS7 := HS6.out.below hb67; have c19 : w7.cell? ⟨pm, 19, none⟩ = some (.int .i64 (np : Int)) := hS7.rules.cell 19; have f19 := hS7.rules.frozen 19; have HS8 := Lib.hid (hS7.set_ (m' := mB ((np : Int) - 1) 54840 ht7) 19 (.int .i64 ((np : Int) - 1)) rfl); clear hk7 hg7 hb67 hS7)
        | (refine wpList_load_blk _ (by rfl) 30 _ rfl pm rfl 30 _ _ HS8.out.rules Tryd.underlying30 rfl (by kernel_rfl) ?_))
      generalize w7.setCell _ _ = w8 at *
      clear c19 f19
      have HC8 := Lib.hid (check_any (HS8.out.errs HE.out) (mB ((np : Int) - 1) 54840 ht7) true A2 np C2 P HS8.out.row (by omega))
      rw [FZ2.out] at HC8
      refine HC8.out.mono ?_
      rintro e w9 ⟨rfl, hb9⟩
      have HS9 := Lib.hid (HS8.out.below hb9)
      clear hb9
      go_wp2_with (first
        | (refine wpList_store_blk _ (by rfl) 40 _ _ rfl w9.heap.size zsent rfl rfl 40 _ (Blk.new _ _ _) (by kernel_rfl) rfl (by kernel_rfl) ?_; intro w10 hk10 hg10; have hb910 : Below w9.heap.size w9 w10 := Below.grown ((Below.refl _ _).alloc (Nat.le_refl _) _) hg10 (by simp) (by simp); have hS10 := HS9.out.below hb910; have c19 : w10.cell? ⟨pm, 19, none⟩ = some (.int .i64 ((np : Int) - 1)) := hS10.rules.cell 19; have f19 := hS10.rules.frozen 19; have hS10b := hS10.set_ (m' := mB 65535 54840 ht7) 19 (.int .i64 65535) rfl; have c20 : (w10.setCell ⟨pm, 19, none⟩ (.int .i64 65535)).cell? ⟨pm, 20, none⟩ = some (.int .i64 54840) := hS10b.rules.cell 20; have f20 := hS10b.rules.frozen 20; have HS11 := Lib.hid (hS10b.set_ (m' := mB 65535 0 ht7) 20 (.int .i64 0) rfl); clear hk10 hg10 hb910 hS10 hS10b)
        | (refine wpList_load_blk _ (by rfl) 30 _ rfl pm rfl 30 _ _ HS11.out.rules Tryd.underlying30 rfl (by kernel_rfl) ?_))
      generalize (w10.setCell _ _).setCell _ _ = w11 at *
      clear c19 f19 c20 f20
      have HC11 := Lib.hid (check_any (HS11.out.errs HE.out) (mB 65535 0 ht7) true A2 np C2 P HS11.out.row (by omega))
      rw [FZ3.out] at HC11
      refine HC11.out.mono ?_
      rintro e w12 ⟨rfl, hb12⟩
      have HS12 := Lib.hid (HS11.out.below hb12)
      clear hb12
      go_wp2_with (refine wpList_store_blk _ (by rfl) 40 _ _ rfl w12.heap.size zsent rfl rfl 40 _ (Blk.new _ _ _) (by kernel_rfl) rfl (by kernel_rfl) ?_; intro w13 hk13 hg13; have hb13 : Below w12.heap.size w12 w13 := Below.grown ((Below.refl _ _).alloc (Nat.le_refl _) _) hg13 (by simp) (by simp); have HS13 := Lib.hid (HS12.out.below hb13); clear hk13 hg13 hb13)
      obtain ⟨lbka, loka, lAka, lCka, eB, hlbka, hlcka, hlrka⟩ := HS13.out.first HF0.out
      rw [HFN.out] at hlcka hlrka
      have HLRka := Lib.hid (hlrka.below (w' := w13.drew) (below_drewN (w := w13) 1) (Nat.le_refl _))
      have HSDka := Lib.hid (HS13.out.below (y := w13.drew) (below_drewN (w := w13) 1))
      clear hlrka
      first | subst eB | (injection eB with eB; injection eB with eB1 eB2; have eB3 := eB1.symm; have eB4 := eB2.symm; subst eB3 eB4)
      have hRka : ∀ x : World, Blk x pm (rucells (mB 65535 0 ht7)) 30 → x.rangeAt pm 0 (rucells (mB 65535 0 ht7)).toList := fun x hx => hx.range 0 _ (by rfl)
      refine wp_region_held_drew (S := fun w' => w'.rangeAt pm 0 (rucells (mB 65535 0 ht7)).toList ∧ w'.cell? ⟨lbka, loka, none⟩ = some (.slice lAka (26 + Z) lCka)) (by kernel_rfl) ⟨hRka _ HSDka.out.rules, hlcka⟩ (fun hHeld => ?_)
      have hltka : lbka < w13.drew.heap.size := hlbka
      have hceka : w13.drew.cell? ⟨lbka, loka, none⟩ = some (.slice lAka (26 + Z) lCka) := hlcka
      clear hlcka hlbka
      generalize w13.drew = Uka at *
      refine wpAnyH_take (i := 0) (oi := { dst := some 89, op := _, type := _, pos := _, after := _, guard := none }) (v := (.agg (rucells (mB 65535 0 ht7)))) rfl (by kernel_rfl) (by kernel_rfl) (by kernel_rfl) (fun _ _ _ h => h) ?y0ka (by assumption) ?r0ka
      (case y0ka => exact yieldsIf_load_mid (S := fun w' => w'.rangeAt pm 0 (rucells (mB 65535 0 ht7)).toList ∧ w'.cell? ⟨lbka, loka, none⟩ = some (.slice lAka (26 + Z) lCka)) (by rfl) 30 (.tmp 6) rfl pm 0 rfl (rucells (mB 65535 0 ht7)).toList _ (fun w hw => hw.1) Tryd.underlying30 rfl (by kernel_rfl))
      try simp only [Act.put, List.setIfInBounds_toArray, List.set_cons_zero, List.set_cons_succ]
      refine wpAnyH_take (i := 1) (oi := { dst := some 90, op := _, type := _, pos := _, after := _, guard := none }) (v := ?v1ka) rfl (by kernel_rfl) (by kernel_rfl) (by kernel_rfl) (fun _ _ _ h => h) (Or.inl ⟨by rfl, ?y1ka⟩) (by assumption) ?r1ka
      (case y1ka => intro w hSw; (try dsimp only at hSw); go_simp; try with_reducible rfl)
      try simp only [Act.put, List.setIfInBounds_toArray, List.set_cons_zero, List.set_cons_succ]
      refine wpAnyH_take (i := 2) (oi := { dst := some 91, op := _, type := _, pos := _, after := _, guard := none }) (v := ?v2ka) rfl (by kernel_rfl) (by kernel_rfl) (by kernel_rfl) (fun _ _ _ h => h) (Or.inl ⟨by rfl, ?y2ka⟩) (by assumption) ?r2ka
      (case y2ka => intro w hSw; (try dsimp only at hSw); go_simp; try with_reducible rfl)
      try simp only [Act.put, List.setIfInBounds_toArray, List.set_cons_zero, List.set_cons_succ]
      refine wpAnyH_take (i := 3) (oi := { dst := some 92, op := _, type := _, pos := _, after := _, guard := none }) (v := ?v3ka) rfl (by kernel_rfl) (by kernel_rfl) (by kernel_rfl) (fun _ _ _ h => h) (Or.inl ⟨by rfl, ?y3ka⟩) (by assumption) ?r3ka
      (case y3ka => intro w hSw; (try dsimp only at hSw); go_simp; try with_reducible rfl)
      try simp only [Act.put, List.setIfInBounds_toArray, List.set_cons_zero, List.set_cons_succ]
      clear hHeld
      have HCka := Lib.hid (fun (x : World) (hb : Below Uka.heap.size Uka x) => (show Calls Tryd.prog 11 #[.agg (rucells (mB 65535 0 ht7)), .bool false, .slice lAka (26 + Z) lCka] x fun e w' => CheckR x E (.fine (sentK (zrun Z) 1)) e w' by have h := check_any ((HSDka.out.below hb).errs HE.out) (mB 65535 0 ht7) false lAka (26 + Z) lCka _ (HLRka.out.below hb (Nat.le_refl _)) (by omega); rw [FZ4.out] at h; exact h))
      apply two_roads8 (F := fun pska Y1 K1 Y2 K2 Y3 K3 W => Blk W pska #[.int .i64 0, .slice none 0 0, .slice none 0 0, .bool false, .bool false, .slice none 0 0] 40 ∧ Uka.heap.size ≤ pska ∧ Below Uka.heap.size Uka W)
      case ways =>
        intro REST
        refine wpAnyH_ready (rs := [4, 8]) (by kernel_rfl) (by simp) ?_
        refine AllReadyH.cons (o := { dst := some 93, op := _, type := _, pos := _, after := _, guard := none }) rfl (fun K hK => ?_) (AllReadyH.cons (o := { dst := some 19, op := _, type := _, pos := _, after := _, guard := none }) rfl (fun K hK => ?_) AllReadyH.nil)
        · go_simp
          refine (HCka.out _ (Below.refl _ _)).mono ?_
          rintro e x1ka ⟨Y1, K1, Y2, K2, Y3, K3, rfl, _, _, _, hb⟩
          refine hK.out _ _ ⟨hRka _ (HSDka.out.below hb).rules, (hb.cell (p := ⟨lbka, loka, none⟩) hltka).trans hceka⟩ (fun hHeld => ?_)
          clear hK K
          try simp only [Act.put, List.setIfInBounds_toArray, List.set_cons_zero, List.set_cons_succ]
          refine wpAnyH_take (i := 5) (oi := { dst := some 88, op := _, type := _, pos := _, after := _, guard := none }) (v := ?v5kap) rfl (by kernel_rfl) (by kernel_rfl) (by kernel_rfl) (fun _ _ _ h => h) (Or.inl ⟨by rfl, ?y5kap⟩) (by assumption) ?r5kap
          (case y5kap => intro w hSw; (try dsimp only at hSw); go_simp; try with_reducible rfl)
          try simp only [Act.put, List.setIfInBounds_toArray, List.set_cons_zero, List.set_cons_succ]
          refine wpAnyH_take (i := 6) (oi := { dst := some 94, op := _, type := _, pos := _, after := _, guard := none }) (v := ?v6kap) rfl (by kernel_rfl) (by kernel_rfl) (by kernel_rfl) (fun _ _ _ h => h) (Or.inl ⟨by rfl, ?y6kap⟩) (by assumption) ?r6kap
          (case y6kap => intro w hSw; (try dsimp only at hSw); go_simp; try with_reducible rfl)
          try simp only [Act.put, List.setIfInBounds_toArray, List.set_cons_zero, List.set_cons_succ]
          refine wpAnyH_take (i := 7) (oi := { dst := some 95, op := _, type := _, pos := _, after := _, guard := none }) (v := ?v7kap) rfl (by kernel_rfl) (by kernel_rfl) (by kernel_rfl) (fun _ _ _ h => h) (Or.inl ⟨by rfl, ?y7kap⟩) (by assumption) ?r7kap
          (case y7kap => intro w hSw; (try dsimp only at hSw); go_simp; try with_reducible rfl)
          try simp only [Act.put, List.setIfInBounds_toArray, List.set_cons_zero, List.set_cons_succ]
          refine wpAnyH_ready (rs := [8]) (by kernel_rfl) (by simp) ?_
          refine AllReadyH.cons (o := { dst := some 19, op := _, type := _, pos := _, after := _, guard := none }) rfl (fun K hK => ?_) AllReadyH.nil
          go_simp
          have hk := Blk.new x1ka #[.int .i64 0, .slice none 0 0, .slice none 0 0, .bool false, .bool false, .slice none 0 0] 40
          have hb2 : Below Uka.heap.size Uka (x1ka.alloc (.cells #[.int .i64 0, .slice none 0 0, .slice none 0 0, .bool false, .bool false, .slice none 0 0] 40)) := hb.alloc hb.size _
          have hge := hb.size
          refine hK.out _ _ ⟨hRka _ (HSDka.out.below hb2).rules, (hb2.cell (p := ⟨lbka, loka, none⟩) hltka).trans hceka⟩ (fun hHeld2 => ?_)
          clear hK K hHeld hHeld2
          try simp only [Act.put, List.setIfInBounds_toArray, List.set_cons_zero, List.set_cons_succ]
          generalize x1ka.alloc _ = x2ka at *
          generalize x1ka.heap.size = pska at *
          exact REST pska Y1 K1 Y2 K2 Y3 K3 x2ka ⟨hk, hge, hb2⟩
        · go_simp
          have hk := Blk.new Uka #[.int .i64 0, .slice none 0 0, .slice none 0 0, .bool false, .bool false, .slice none 0 0] 40
          have hb1 : Below Uka.heap.size Uka (Uka.alloc (.cells #[.int .i64 0, .slice none 0 0, .slice none 0 0, .bool false, .bool false, .slice none 0 0] 40)) := (Below.refl _ _).alloc (Nat.le_refl _) _
          refine hK.out _ _ ⟨hRka _ (HSDka.out.below hb1).rules, (hb1.cell (p := ⟨lbka, loka, none⟩) hltka).trans hceka⟩ (fun hHeld => ?_)
          clear hK K
          try simp only [Act.put, List.setIfInBounds_toArray, List.set_cons_zero, List.set_cons_succ]
          have HCx := Lib.hid (HCka.out _ hb1)
          have hlk := hk.lt
          have z1 := hb1.size
          generalize Uka.alloc _ = x1ka at *
          refine wpAnyH_ready (rs := [4]) (by kernel_rfl) (by simp) ?_
          refine AllReadyH.cons (o := { dst := some 93, op := _, type := _, pos := _, after := _, guard := none }) rfl (fun K hK => ?_) AllReadyH.nil
          go_simp
          refine HCx.out.mono ?_
          rintro e x2ka ⟨Y1, K1, Y2, K2, Y3, K3, rfl, _, _, _, hb⟩
          have hb2 := hb1.trans (hb.mono z1)
          refine hK.out _ _ ⟨hRka _ (HSDka.out.below hb2).rules, (hb2.cell (p := ⟨lbka, loka, none⟩) hltka).trans hceka⟩ (fun hHeld2 => ?_)
          clear hK K hHeld
          try simp only [Act.put, List.setIfInBounds_toArray, List.set_cons_zero, List.set_cons_succ]
          refine wpAnyH_take (i := 5) (oi := { dst := some 88, op := _, type := _, pos := _, after := _, guard := none }) (v := ?v5kaq) rfl (by kernel_rfl) (by kernel_rfl) (by kernel_rfl) (fun _ _ _ h => h) (Or.inl ⟨by rfl, ?y5kaq⟩) (by assumption) ?r5kaq
          (case y5kaq => intro w hSw; (try dsimp only at hSw); go_simp; try with_reducible rfl)
          try simp only [Act.put, List.setIfInBounds_toArray, List.set_cons_zero, List.set_cons_succ]
          refine wpAnyH_take (i := 6) (oi := { dst := some 94, op := _, type := _, pos := _, after := _, guard := none }) (v := ?v6kaq) rfl (by kernel_rfl) (by kernel_rfl) (by kernel_rfl) (fun _ _ _ h => h) (Or.inl ⟨by rfl, ?y6kaq⟩) (by assumption) ?r6kaq
          (case y6kaq => intro w hSw; (try dsimp only at hSw); go_simp; try with_reducible rfl)
          try simp only [Act.put, List.setIfInBounds_toArray, List.set_cons_zero, List.set_cons_succ]
          refine wpAnyH_take (i := 7) (oi := { dst := some 95, op := _, type := _, pos := _, after := _, guard := none }) (v := ?v7kaq) rfl (by kernel_rfl) (by kernel_rfl) (by kernel_rfl) (fun _ _ _ h => h) (Or.inl ⟨by rfl, ?y7kaq⟩) (by assumption) ?r7kaq
          (case y7kaq => intro w hSw; (try dsimp only at hSw); go_simp; try with_reducible rfl)
          try simp only [Act.put, List.setIfInBounds_toArray, List.set_cons_zero, List.set_cons_succ]
          exact REST Uka.heap.size Y1 K1 Y2 K2 Y3 K3 x2ka ⟨hk.below hb hlk, Nat.le_refl _, hb2⟩
      case rest =>
      rintro pska Y1 K1 Y2 K2 Y3 K3 x2ka ⟨hk, hge, hbx⟩
      have hHeld : x2ka.rangeAt pm 0 (rucells (mB 65535 0 ht7)).toList ∧ x2ka.cell? ⟨lbka, loka, none⟩ = some (.slice lAka (26 + Z) lCka) := ⟨hRka _ (HSDka.out.below hbx).rules, (hbx.cell (p := ⟨lbka, loka, none⟩) hltka).trans hceka⟩
      refine wpAnyH_ready (rs := [9]) (by kernel_rfl) (by simp) ?_
      refine AllReadyH.cons (o := { dst := none, op := _, type := _, pos := _, after := _, guard := none }) rfl (fun K hK => as_wanted rfl (wp_store_blk x2ka 40 (.tmp 19) (.tmp 94) rfl pska _ rfl rfl 40 #[.int .i64 0, .slice none 0 0, .slice none 0 0, .bool false, .bool false, .slice none 0 0] hk (by kernel_rfl) rfl sent_one (fun x3ka hk3 hg3 => ?_))) AllReadyH.nil
      have hb3 : Below Uka.heap.size Uka x3ka := Below.grown hbx hg3 hbx.size (by intro k hk; injection hk with hk; omega)
      refine hK.out _ _ ⟨hRka _ (HSDka.out.below hb3).rules, (hb3.cell (p := ⟨lbka, loka, none⟩) hltka).trans hceka⟩ (fun hHeld3 => ?_)
      clear hK K hHeld
      try simp only [Act.put, List.setIfInBounds_toArray, List.set_cons_zero, List.set_cons_succ]
      refine wpAnyH_take (i := 10) (oi := { dst := some 20, op := _, type := _, pos := _, after := _, guard := none }) (v := ?v10kar) rfl (by kernel_rfl) (by kernel_rfl) (by kernel_rfl) (fun _ _ _ h => h) (Or.inl ⟨by rfl, ?y10kar⟩) (by assumption) ?r10kar
      (case y10kar => intro w hSw; (try dsimp only at hSw); go_simp; try with_reducible rfl)
      try simp only [Act.put, List.setIfInBounds_toArray, List.set_cons_zero, List.set_cons_succ]
      refine wpAnyH_done (by kernel_rfl) ?_ _
      have HSka := Lib.hid (HSDka.out.below hb3)
      clear hHeld3 hk hk3 hg3 hb3 hbx hge hltka hceka hRka
      go_wp2_with (refine wpList_store_in _ (by rfl) 28 _ _ rfl pm 12 _ rfl rfl 30 _ (rucells (mB 65535 0 ⟨0, 0, 0, 0, 0⟩)) HSka.out.rules (by kernel_rfl) (by show 12 + 5 ≤ 22; decide) (by simp [Value.oneCell']) (by rfl) ?_; intro w15 hk15 hg15; have HS15 := Lib.hid (HSka.out.grown hk15 hg15); clear hk15 hg15)
      obtain ⟨lbkb, lokb, lAkb, lCkb, eB, hlbkb, hlckb, hlrkb⟩ := HS15.out.first HF0.out
      rw [HFN.out] at hlckb hlrkb
      have HLRkb := Lib.hid (hlrkb.below (w' := w15.drew) (below_drewN (w := w15) 1) (Nat.le_refl _))
      have HSDkb := Lib.hid (HS15.out.below (y := w15.drew) (below_drewN (w := w15) 1))
      clear hlrkb
      first | subst eB | (injection eB with eB; injection eB with eB1 eB2; have eB3 := eB1.symm; have eB4 := eB2.symm; subst eB3 eB4)
      have hRkb : ∀ x : World, Blk x pm (rucells (mB 65535 0 ⟨0, 0, 0, 0, 0⟩)) 30 → x.rangeAt pm 0 (rucells (mB 65535 0 ⟨0, 0, 0, 0, 0⟩)).toList := fun x hx => hx.range 0 _ (by rfl)
      refine wp_region_held_drew (S := fun w' => w'.rangeAt pm 0 (rucells (mB 65535 0 ⟨0, 0, 0, 0, 0⟩)).toList ∧ w'.cell? ⟨lbkb, lokb, none⟩ = some (.slice lAkb (26 + Z) lCkb)) (by kernel_rfl) ⟨hRkb _ HSDkb.out.rules, hlckb⟩ (fun hHeld => ?_)
      have hltkb : lbkb < w15.drew.heap.size := hlbkb
      have hcekb : w15.drew.cell? ⟨lbkb, lokb, none⟩ = some (.slice lAkb (26 + Z) lCkb) := hlckb
      clear hlckb hlbkb
      generalize w15.drew = Ukb at *
      refine wpAnyH_take (i := 0) (oi := { dst := some 99, op := _, type := _, pos := _, after := _, guard := none }) (v := (.agg (rucells (mB 65535 0 ⟨0, 0, 0, 0, 0⟩)))) rfl (by kernel_rfl) (by kernel_rfl) (by kernel_rfl) (fun _ _ _ h => h) ?y0kb (by assumption) ?r0kb
      (case y0kb => exact yieldsIf_load_mid (S := fun w' => w'.rangeAt pm 0 (rucells (mB 65535 0 ⟨0, 0, 0, 0, 0⟩)).toList ∧ w'.cell? ⟨lbkb, lokb, none⟩ = some (.slice lAkb (26 + Z) lCkb)) (by rfl) 30 (.tmp 6) rfl pm 0 rfl (rucells (mB 65535 0 ⟨0, 0, 0, 0, 0⟩)).toList _ (fun w hw => hw.1) Tryd.underlying30 rfl (by kernel_rfl))
      try simp only [Act.put, List.setIfInBounds_toArray, List.set_cons_zero, List.set_cons_succ]
      refine wpAnyH_take (i := 1) (oi := { dst := some 100, op := _, type := _, pos := _, after := _, guard := none }) (v := ?v1kb) rfl (by kernel_rfl) (by kernel_rfl) (by kernel_rfl) (fun _ _ _ h => h) (Or.inl ⟨by rfl, ?y1kb⟩) (by assumption) ?r1kb
      (case y1kb => intro w hSw; (try dsimp only at hSw); go_simp; try with_reducible rfl)
      try simp only [Act.put, List.setIfInBounds_toArray, List.set_cons_zero, List.set_cons_succ]
      refine wpAnyH_take (i := 2) (oi := { dst := some 101, op := _, type := _, pos := _, after := _, guard := none }) (v := ?v2kb) rfl (by kernel_rfl) (by kernel_rfl) (by kernel_rfl) (fun _ _ _ h => h) (Or.inl ⟨by rfl, ?y2kb⟩) (by assumption) ?r2kb
      (case y2kb => intro w hSw; (try dsimp only at hSw); go_simp; try with_reducible rfl)
      try simp only [Act.put, List.setIfInBounds_toArray, List.set_cons_zero, List.set_cons_succ]
      refine wpAnyH_take (i := 3) (oi := { dst := some 102, op := _, type := _, pos := _, after := _, guard := none }) (v := ?v3kb) rfl (by kernel_rfl) (by kernel_rfl) (by kernel_rfl) (fun _ _ _ h => h) (Or.inl ⟨by rfl, ?y3kb⟩) (by assumption) ?r3kb
      (case y3kb => intro w hSw; (try dsimp only at hSw); go_simp; try with_reducible rfl)
      try simp only [Act.put, List.setIfInBounds_toArray, List.set_cons_zero, List.set_cons_succ]
      clear hHeld
      have HCkb := Lib.hid (fun (x : World) (hb : Below Ukb.heap.size Ukb x) => (show Calls Tryd.prog 11 #[.agg (rucells (mB 65535 0 ⟨0, 0, 0, 0, 0⟩)), .bool false, .slice lAkb (26 + Z) lCkb] x fun e w' => CheckR x E (.bare 11) e w' by have h := check_any ((HSDkb.out.below hb).errs HE.out) (mB 65535 0 ⟨0, 0, 0, 0, 0⟩) false lAkb (26 + Z) lCkb _ (HLRkb.out.below hb (Nat.le_refl _)) (by omega); rw [FZ5.out] at h; exact h))
      apply two_roads2 (F := fun pskb W => Blk W pskb #[.int .i64 0, .slice none 0 0, .slice none 0 0, .bool false, .bool false, .slice none 0 0] 40 ∧ Ukb.heap.size ≤ pskb ∧ Below Ukb.heap.size Ukb W)
      case ways =>
        intro REST
        refine wpAnyH_ready (rs := [4, 8]) (by kernel_rfl) (by simp) ?_
        refine AllReadyH.cons (o := { dst := some 103, op := _, type := _, pos := _, after := _, guard := none }) rfl (fun K hK => ?_) (AllReadyH.cons (o := { dst := some 21, op := _, type := _, pos := _, after := _, guard := none }) rfl (fun K hK => ?_) AllReadyH.nil)
        · go_simp
          refine (HCkb.out _ (Below.refl _ _)).mono ?_
          rintro e x1kb ⟨rfl, hb⟩
          refine hK.out _ _ ⟨hRkb _ (HSDkb.out.below hb).rules, (hb.cell (p := ⟨lbkb, lokb, none⟩) hltkb).trans hcekb⟩ (fun hHeld => ?_)
          clear hK K
          try simp only [Act.put, List.setIfInBounds_toArray, List.set_cons_zero, List.set_cons_succ]
          refine wpAnyH_take (i := 5) (oi := { dst := some 98, op := _, type := _, pos := _, after := _, guard := none }) (v := ?v5kbp) rfl (by kernel_rfl) (by kernel_rfl) (by kernel_rfl) (fun _ _ _ h => h) (Or.inl ⟨by rfl, ?y5kbp⟩) (by assumption) ?r5kbp
          (case y5kbp => intro w hSw; (try dsimp only at hSw); go_simp; try with_reducible rfl)
          try simp only [Act.put, List.setIfInBounds_toArray, List.set_cons_zero, List.set_cons_succ]
          refine wpAnyH_take (i := 6) (oi := { dst := some 104, op := _, type := _, pos := _, after := _, guard := none }) (v := ?v6kbp) rfl (by kernel_rfl) (by kernel_rfl) (by kernel_rfl) (fun _ _ _ h => h) (Or.inl ⟨by rfl, ?y6kbp⟩) (by assumption) ?r6kbp
          (case y6kbp => intro w hSw; (try dsimp only at hSw); go_simp; try with_reducible rfl)
          try simp only [Act.put, List.setIfInBounds_toArray, List.set_cons_zero, List.set_cons_succ]
          refine wpAnyH_take (i := 7) (oi := { dst := some 105, op := _, type := _, pos := _, after := _, guard := none }) (v := ?v7kbp) rfl (by kernel_rfl) (by kernel_rfl) (by kernel_rfl) (fun _ _ _ h => h) (Or.inl ⟨by rfl, ?y7kbp⟩) (by assumption) ?r7kbp
          (case y7kbp => intro w hSw; (try dsimp only at hSw); go_simp; try with_reducible rfl)
          try simp only [Act.put, List.setIfInBounds_toArray, List.set_cons_zero, List.set_cons_succ]
          refine wpAnyH_ready (rs := [8]) (by kernel_rfl) (by simp) ?_
          refine AllReadyH.cons (o := { dst := some 21, op := _, type := _, pos := _, after := _, guard := none }) rfl (fun K hK => ?_) AllReadyH.nil
          go_simp
          have hk := Blk.new x1kb #[.int .i64 0, .slice none 0 0, .slice none 0 0, .bool false, .bool false, .slice none 0 0] 40
          have hb2 : Below Ukb.heap.size Ukb (x1kb.alloc (.cells #[.int .i64 0, .slice none 0 0, .slice none 0 0, .bool false, .bool false, .slice none 0 0] 40)) := hb.alloc hb.size _
          have hge := hb.size
          refine hK.out _ _ ⟨hRkb _ (HSDkb.out.below hb2).rules, (hb2.cell (p := ⟨lbkb, lokb, none⟩) hltkb).trans hcekb⟩ (fun hHeld2 => ?_)
          clear hK K hHeld hHeld2
          try simp only [Act.put, List.setIfInBounds_toArray, List.set_cons_zero, List.set_cons_succ]
          generalize x1kb.alloc _ = x2kb at *
          generalize x1kb.heap.size = pskb at *
          exact REST pskb x2kb ⟨hk, hge, hb2⟩
        · go_simp
          have hk := Blk.new Ukb #[.int .i64 0, .slice none 0 0, .slice none 0 0, .bool false, .bool false, .slice none 0 0] 40
          have hb1 : Below Ukb.heap.size Ukb (Ukb.alloc (.cells #[.int .i64 0, .slice none 0 0, .slice none 0 0, .bool false, .bool false, .slice none 0 0] 40)) := (Below.refl _ _).alloc (Nat.le_refl _) _
          refine hK.out _ _ ⟨hRkb _ (HSDkb.out.below hb1).rules, (hb1.cell (p := ⟨lbkb, lokb, none⟩) hltkb).trans hcekb⟩ (fun hHeld => ?_)
          clear hK K
          try simp only [Act.put, List.setIfInBounds_toArray, List.set_cons_zero, List.set_cons_succ]
          have HCx := Lib.hid (HCkb.out _ hb1)
          have hlk := hk.lt
          have z1 := hb1.size
          generalize Ukb.alloc _ = x1kb at *
          refine wpAnyH_ready (rs := [4]) (by kernel_rfl) (by simp) ?_
          refine AllReadyH.cons (o := { dst := some 103, op := _, type := _, pos := _, after := _, guard := none }) rfl (fun K hK => ?_) AllReadyH.nil
          go_simp
          refine HCx.out.mono ?_
          rintro e x2kb ⟨rfl, hb⟩
          have hb2 := hb1.trans (hb.mono z1)
          refine hK.out _ _ ⟨hRkb _ (HSDkb.out.below hb2).rules, (hb2.cell (p := ⟨lbkb, lokb, none⟩) hltkb).trans hcekb⟩ (fun hHeld2 => ?_)
          clear hK K hHeld
          try simp only [Act.put, List.setIfInBounds_toArray, List.set_cons_zero, List.set_cons_succ]
          refine wpAnyH_take (i := 5) (oi := { dst := some 98, op := _, type := _, pos := _, after := _, guard := none }) (v := ?v5kbq) rfl (by kernel_rfl) (by kernel_rfl) (by kernel_rfl) (fun _ _ _ h => h) (Or.inl ⟨by rfl, ?y5kbq⟩) (by assumption) ?r5kbq
          (case y5kbq => intro w hSw; (try dsimp only at hSw); go_simp; try with_reducible rfl)
          try simp only [Act.put, List.setIfInBounds_toArray, List.set_cons_zero, List.set_cons_succ]
          refine wpAnyH_take (i := 6) (oi := { dst := some 104, op := _, type := _, pos := _, after := _, guard := none }) (v := ?v6kbq) rfl (by kernel_rfl) (by kernel_rfl) (by kernel_rfl) (fun _ _ _ h => h) (Or.inl ⟨by rfl, ?y6kbq⟩) (by assumption) ?r6kbq
          (case y6kbq => intro w hSw; (try dsimp only at hSw); go_simp; try with_reducible rfl)
          try simp only [Act.put, List.setIfInBounds_toArray, List.set_cons_zero, List.set_cons_succ]
          refine wpAnyH_take (i := 7) (oi := { dst := some 105, op := _, type := _, pos := _, after := _, guard := none }) (v := ?v7kbq) rfl (by kernel_rfl) (by kernel_rfl) (by kernel_rfl) (fun _ _ _ h => h) (Or.inl ⟨by rfl, ?y7kbq⟩) (by assumption) ?r7kbq
          (case y7kbq => intro w hSw; (try dsimp only at hSw); go_simp; try with_reducible rfl)
          try simp only [Act.put, List.setIfInBounds_toArray, List.set_cons_zero, List.set_cons_succ]
          exact REST Ukb.heap.size x2kb ⟨hk.below hb hlk, Nat.le_refl _, hb2⟩
      case rest =>
      rintro pskb x2kb ⟨hk, hge, hbx⟩
      have hHeld : x2kb.rangeAt pm 0 (rucells (mB 65535 0 ⟨0, 0, 0, 0, 0⟩)).toList ∧ x2kb.cell? ⟨lbkb, lokb, none⟩ = some (.slice lAkb (26 + Z) lCkb) := ⟨hRkb _ (HSDkb.out.below hbx).rules, (hbx.cell (p := ⟨lbkb, lokb, none⟩) hltkb).trans hcekb⟩
      refine wpAnyH_ready (rs := [9]) (by kernel_rfl) (by simp) ?_
      refine AllReadyH.cons (o := { dst := none, op := _, type := _, pos := _, after := _, guard := none }) rfl (fun K hK => as_wanted rfl (wp_store_blk x2kb 40 (.tmp 21) (.tmp 104) rfl pskb _ rfl rfl 40 #[.int .i64 0, .slice none 0 0, .slice none 0 0, .bool false, .bool false, .slice none 0 0] hk (by kernel_rfl) rfl (by kernel_rfl) (fun x3kb hk3 hg3 => ?_))) AllReadyH.nil
      have hb3 : Below Ukb.heap.size Ukb x3kb := Below.grown hbx hg3 hbx.size (by intro k hk; injection hk with hk; omega)
      refine hK.out _ _ ⟨hRkb _ (HSDkb.out.below hb3).rules, (hb3.cell (p := ⟨lbkb, lokb, none⟩) hltkb).trans hcekb⟩ (fun hHeld3 => ?_)
      clear hK K hHeld
      try simp only [Act.put, List.setIfInBounds_toArray, List.set_cons_zero, List.set_cons_succ]
      refine wpAnyH_take (i := 10) (oi := { dst := some 22, op := _, type := _, pos := _, after := _, guard := none }) (v := ?v10kbr) rfl (by kernel_rfl) (by kernel_rfl) (by kernel_rfl) (fun _ _ _ h => h) (Or.inl ⟨by rfl, ?y10kbr⟩) (by assumption) ?r10kbr
      (case y10kbr => intro w hSw; (try dsimp only at hSw); go_simp; try with_reducible rfl)
      try simp only [Act.put, List.setIfInBounds_toArray, List.set_cons_zero, List.set_cons_succ]
      refine wpAnyH_done (by kernel_rfl) ?_ _
      have HSkb := Lib.hid (HSDkb.out.below hb3)
      clear hHeld3 hk hk3 hg3 hb3 hbx hge hltkb hcekb hRkb
      have gq := fun w => err_guard E none (.tmp 108) .nilIface w
      have gq2 := fun w => err_guard E none (.tmp 120) .nilIface w
      have ge := fun w => err_isnil E none w
      simp only [errO] at gq gq2 ge
      have sI : ∀ k, k ∈ allErr → ∀ i, some k = some i → i ∈ allErr := by intro k hk i e; injection e with e; subst e; exact hk
      go_wp2_with fail
      refine (is_any (HSkb.out.errs HE.out) (some 3) (sI 3 (by decide)) 104).mono ?_
      rintro e w16 ⟨rfl, hb16⟩
      have HS16 := Lib.hid (HSkb.out.below hb16)
      clear hb16
      rw [show (errCode (some 3) == 104) = true by decide]
      go_wp2_with fail
      refine (is_any (HS16.out.errs HE.out) (some 11) (sI 11 (by decide)) 112).mono ?_
      rintro e w17 ⟨rfl, hb17⟩
      have HS17 := Lib.hid (HS16.out.below hb17)
      clear hb17
      rw [show (errCode (some 11) == 112) = true by decide]
      go_wp2_with fail
      refine (is_any (HS17.out.errs HE.out) (some 11) (sI 11 (by decide)) 112).mono ?_
      rintro e w18 ⟨rfl, hb18⟩
      have HS18 := Lib.hid (HS17.out.below hb18)
      clear hb18
      rw [show (errCode (some 11) == 112) = true by decide]
      go_wp2_with fail
      go_ret
      exact ⟨rfl, HS18.out.bel⟩
end Go.Proofs.YtoagmehgiaamlaaDoor
