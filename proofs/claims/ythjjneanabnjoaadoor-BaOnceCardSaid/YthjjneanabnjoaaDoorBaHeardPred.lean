/-
  ba.Heard's two predicates.
-/
import Derived.Test.YthjjneanabnjoaaDoorBaWentOk
namespace Go.Proofs.YthjjneanabnjoaaDoor
open Go.ChangeShapes Go.WideShapes Go.ChangeAt Go.RowKit
set_option linter.unusedVariables false

/-- within a board's reach, and under way -/
def nearP (aseq : Int) (x : Fm) : Bool := x.fl && decide ((x.m.seq - aseq) % 4096 < 64)
/-- its bit is set -/
def ackP (aseq M : Int) (x : Fm) : Bool := nearP aseq x && decide (M / 2 ^ ((x.m.seq - aseq) % 4096).toNat % 2 = 1)
set_option maxHeartbeats 1600000 in
theorem near_any {W : World} {b : Nat} {q : Int} (x : Fm) (hb : W.cell? ⟨b, 13, none⟩ = some (.int .i64 q)) :
    Calls Tryd.prog 46 #[.agg (fmC x).toArray, .pointer (some ⟨b, 0, none⟩)] W fun e W' => e = .returned (.bool (nearP q x)) ∧ Below W.heap.size W W' := by
  have hlt := World.block_lt_of_cell? W _ hb
  have c1 : (W.alloc (.cells (fmC x).toArray 81)).cell? ⟨b, 13, none⟩ = some (.int .i64 q) := (World.cell?_alloc_past _ _ _ hlt).trans hb
  have c8 := bx8 W x
  have c5 := bx5 W x
  rcases hfl : x.fl
  · rw [hfl] at c8
    have HR := Lib.hid (show nearP q x = false by unfold nearP; rw [hfl]; rfl)
    go_enter Tryd.func46, Tryd.ntmps46
    go_wp2_with fail
    go_ret
    exact ⟨ret_bool HR.out.symm, (Below.refl _ _).alloc (Nat.le_refl _) _⟩
  · rw [hfl] at c8
    have HR := Lib.hid (show nearP q x = decide ((x.m.seq - q) % 4096 < 64) by unfold nearP; rw [hfl]; rfl)
    go_enter Tryd.func46, Tryd.ntmps46
    go_wp2_with fail
    refine (dist_any q x.m.seq _).mono ?_
    rintro e w1 ⟨rfl, rfl⟩
    go_wp2_with fail
    go_ret
    exact ⟨ret_bool HR.out.symm, (Below.refl _ _).alloc (Nat.le_refl _) _⟩
theorem pred_near {w : World} {b : Nat} {q : Int} (hb : w.cell? ⟨b, 13, none⟩ = some (.int .i64 q)) : PredF 46 #[.pointer (some ⟨b, 0, none⟩)] (nearP q) w :=
  ⟨enters_of Tryd.func46 (by kernel_rfl) rfl, fun W x hW => near_any x ((hW.cell (p := ⟨b, 13, none⟩) (World.block_lt_of_cell? w _ hb)).trans hb)⟩
set_option maxHeartbeats 3200000 in
theorem acked_any {W : World} {b c : Nat} {q M : Int} (x : Fm) (hb : W.cell? ⟨b, 13, none⟩ = some (.int .i64 q)) (hM : W.cell? ⟨b, 14, none⟩ = some (.int .u64 M)) (h0 : 0 ≤ M) (h1 : M < 18446744073709551616)
    (hc : W.cell? ⟨c, 0, none⟩ = some (.func (.func 46) #[] #[.pointer (some ⟨b, 0, none⟩)])) :
    Calls Tryd.prog 48 #[.agg (fmC x).toArray, .pointer (some ⟨c, 0, none⟩), .pointer (some ⟨b, 0, none⟩)] W fun e W' => e = .returned (.bool (ackP q M x)) ∧ Below W.heap.size W W' := by
  have hlt := World.block_lt_of_cell? W _ hb
  have hltc := World.block_lt_of_cell? W _ hc
  simp only [] at hlt hltc
  obtain ⟨W1, hW1⟩ : ∃ W1, W1 = W.alloc (.cells (fmC x).toArray 81) := ⟨_, rfl⟩
  have hB1 : Below W.heap.size W W1 := by rw [hW1]; exact (Below.refl _ _).alloc (Nat.le_refl _) _
  have hk1 : Blk W1 W.heap.size (fmC x).toArray 81 := by rw [hW1]; exact Blk.new _ _ _
  have HSB := Lib.hid (fun (y : World) (hy : Below W1.heap.size W1 y) => show y.cell? ⟨c, 0, none⟩ = some (.func (.func 46) #[] #[.pointer (some ⟨b, 0, none⟩)]) ∧ y.cell? ⟨b, 13, none⟩ = some (.int .i64 q) ∧ y.cell? ⟨b, 14, none⟩ = some (.int .u64 M) ∧ y.cell? ⟨W.heap.size, 5, none⟩ = some (.int .i64 x.m.seq) ∧ y.rangeAt W.heap.size 0 (fmC x) ∧ Below W1.heap.size W1 y from
    ⟨(hy.cell (p := ⟨c, 0, none⟩) (Nat.lt_of_lt_of_le hltc hB1.size)).trans ((hB1.cell (p := ⟨c, 0, none⟩) hltc).trans hc), (hy.cell (p := ⟨b, 13, none⟩) (Nat.lt_of_lt_of_le hlt hB1.size)).trans ((hB1.cell (p := ⟨b, 13, none⟩) hlt).trans hb), (hy.cell (p := ⟨b, 14, none⟩) (Nat.lt_of_lt_of_le hlt hB1.size)).trans ((hB1.cell (p := ⟨b, 14, none⟩) hlt).trans hM), (hk1.below hy hk1.lt).cell 5, (fun j v hv => by rw [Nat.zero_add, (hk1.below hy hk1.lt).cell j]; simpa using hv), hy⟩)
  have HB1 := Lib.hid hB1
  clear hB1 hk1 hb hM hc
  have b0 : Below W1.heap.size W1 W1.drew := below_drewN 1
  cases hn : nearP q x with
  | false =>
    have HR := Lib.hid (show ackP q M x = false by unfold ackP; rw [hn]; rfl)
    go_enter Tryd.func48, Tryd.ntmps48
    go_wp2_with fail
    rw [← hW1]
    clear hW1
--R1false
    refine wp_region_held_drew (S := (fun y => y.cell? ⟨c, 0, none⟩ = some (.func (.func 46) #[] #[.pointer (some ⟨b, 0, none⟩)]) ∧ y.cell? ⟨b, 13, none⟩ = some (.int .i64 q) ∧ y.cell? ⟨b, 14, none⟩ = some (.int .u64 M) ∧ y.cell? ⟨W.heap.size, 5, none⟩ = some (.int .i64 x.m.seq) ∧ y.rangeAt W.heap.size 0 (fmC x) ∧ Below W1.heap.size W1 y)) (by kernel_rfl) ?_ (fun hHeld => ?_)
    · exact HSB.out _ b0
    refine wpAnyH_take (i := 0) (oi := { dst := some 5, op := _, type := _, pos := _, after := _, guard := none }) (v := ?v0f) rfl (by kernel_rfl) (by kernel_rfl) (by kernel_rfl) (fun _ _ _ h => h) (Or.inl ⟨by rfl, ?y0f⟩) (by assumption) ?r0f
    (case y0f => intro w hSw; obtain ⟨s0, s1, s2, s3, -, -⟩ := hSw; go_simp; try with_reducible rfl)
    try simp only [Act.put, List.setIfInBounds_toArray, List.set_cons_zero, List.set_cons_succ]
    refine wpAnyH_take (i := 1) (oi := { dst := some 6, op := _, type := _, pos := _, after := _, guard := none }) (v := Value.agg (fmC x).toArray) rfl (by kernel_rfl) (by kernel_rfl) (by kernel_rfl) (fun _ _ _ h => h) ?y1f (by assumption) ?r1f
    (case y1f => exact yieldsIf_load_mid (S := (fun y => y.cell? ⟨c, 0, none⟩ = some (.func (.func 46) #[] #[.pointer (some ⟨b, 0, none⟩)]) ∧ y.cell? ⟨b, 13, none⟩ = some (.int .i64 q) ∧ y.cell? ⟨b, 14, none⟩ = some (.int .u64 M) ∧ y.cell? ⟨W.heap.size, 5, none⟩ = some (.int .i64 x.m.seq) ∧ y.rangeAt W.heap.size 0 (fmC x) ∧ Below W1.heap.size W1 y)) (by rfl) 81 (.tmp 3) rfl W.heap.size 0 rfl (fmC x) _ (fun w hw => hw.2.2.2.2.1) Tryd.underlying81 rfl (by kernel_rfl))
    try simp only [Act.put, List.setIfInBounds_toArray, List.set_cons_zero, List.set_cons_succ]
    refine wpAnyH_ready (rs := [2]) (by kernel_rfl) (by simp) ?_
    refine AllReadyH.cons (o := { dst := some 7, op := _, type := _, pos := _, after := _, guard := none }) rfl (fun K hK => ?_) AllReadyH.nil
    go_simp
    refine (near_any (W := W1.drew) x hHeld.2.1).mono ?_
    rintro e w2 ⟨rfl, hb2⟩
    rw [hn]
    have b2 := b0.trans (hb2.mono b0.size)
    refine hK.out _ _ (HSB.out _ b2) (fun hHeld2 => ?_)
    clear hK K
    try simp only [Act.put, List.setIfInBounds_toArray, List.set_cons_zero, List.set_cons_succ]
    refine wpAnyH_take (i := 3) (oi := { dst := some 8, op := _, type := _, pos := _, after := _, guard := none }) (v := ?v3f) rfl (by kernel_rfl) (by kernel_rfl) (by kernel_rfl) (fun _ _ _ h => h) (Or.inl ⟨by rfl, ?y3f⟩) (by assumption) ?r3f
    (case y3f => intro w hSw; obtain ⟨s0, s1, s2, s3, -, -⟩ := hSw; go_simp; try with_reducible rfl)
    try simp only [Act.put, List.setIfInBounds_toArray, List.set_cons_zero, List.set_cons_succ]
    refine wpAnyH_take (i := 4) (oi := { dst := some 9, op := _, type := _, pos := _, after := _, guard := some (3, true) }) (v := undef) rfl (by kernel_rfl) (by kernel_rfl) (by kernel_rfl) (fun _ _ _ h => h) (Or.inr ⟨by rfl, rfl⟩) (by assumption) ?_
    try simp only [Act.put, List.setIfInBounds_toArray, List.set_cons_zero, List.set_cons_succ]
    refine wpAnyH_take (i := 5) (oi := { dst := some 10, op := _, type := _, pos := _, after := _, guard := some (3, true) }) (v := undef) rfl (by kernel_rfl) (by kernel_rfl) (by kernel_rfl) (fun _ _ _ h => h) (Or.inr ⟨by rfl, rfl⟩) (by assumption) ?_
    try simp only [Act.put, List.setIfInBounds_toArray, List.set_cons_zero, List.set_cons_succ]
    refine wpAnyH_take (i := 6) (oi := { dst := some 11, op := _, type := _, pos := _, after := _, guard := some (3, true) }) (v := undef) rfl (by kernel_rfl) (by kernel_rfl) (by kernel_rfl) (fun _ _ _ h => h) (Or.inr ⟨by rfl, rfl⟩) (by assumption) ?_
    try simp only [Act.put, List.setIfInBounds_toArray, List.set_cons_zero, List.set_cons_succ]
    refine wpAnyH_take (i := 7) (oi := { dst := some 12, op := _, type := _, pos := _, after := _, guard := some (3, true) }) (v := undef) rfl (by kernel_rfl) (by kernel_rfl) (by kernel_rfl) (fun _ _ _ h => h) (Or.inr ⟨by rfl, rfl⟩) (by assumption) ?_
    try simp only [Act.put, List.setIfInBounds_toArray, List.set_cons_zero, List.set_cons_succ]
    refine wpAnyH_take (i := 8) (oi := { dst := some 13, op := _, type := _, pos := _, after := _, guard := some (3, true) }) (v := undef) rfl (by kernel_rfl) (by kernel_rfl) (by kernel_rfl) (fun _ _ _ h => h) (Or.inr ⟨by rfl, rfl⟩) (by assumption) ?_
    try simp only [Act.put, List.setIfInBounds_toArray, List.set_cons_zero, List.set_cons_succ]
    refine wpAnyH_take (i := 9) (oi := { dst := some 14, op := _, type := _, pos := _, after := _, guard := some (3, true) }) (v := undef) rfl (by kernel_rfl) (by kernel_rfl) (by kernel_rfl) (fun _ _ _ h => h) (Or.inr ⟨by rfl, rfl⟩) (by assumption) ?_
    try simp only [Act.put, List.setIfInBounds_toArray, List.set_cons_zero, List.set_cons_succ]
    refine wpAnyH_take (i := 10) (oi := { dst := some 15, op := _, type := _, pos := _, after := _, guard := some (3, true) }) (v := undef) rfl (by kernel_rfl) (by kernel_rfl) (by kernel_rfl) (fun _ _ _ h => h) (Or.inr ⟨by rfl, rfl⟩) (by assumption) ?_
    try simp only [Act.put, List.setIfInBounds_toArray, List.set_cons_zero, List.set_cons_succ]
    refine wpAnyH_take (i := 11) (oi := { dst := some 16, op := _, type := _, pos := _, after := _, guard := some (3, true) }) (v := undef) rfl (by kernel_rfl) (by kernel_rfl) (by kernel_rfl) (fun _ _ _ h => h) (Or.inr ⟨by rfl, rfl⟩) (by assumption) ?_
    try simp only [Act.put, List.setIfInBounds_toArray, List.set_cons_zero, List.set_cons_succ]
    refine wpAnyH_take (i := 12) (oi := { dst := some 17, op := _, type := _, pos := _, after := _, guard := some (3, true) }) (v := undef) rfl (by kernel_rfl) (by kernel_rfl) (by kernel_rfl) (fun _ _ _ h => h) (Or.inr ⟨by rfl, rfl⟩) (by assumption) ?_
    try simp only [Act.put, List.setIfInBounds_toArray, List.set_cons_zero, List.set_cons_succ]
    refine wpAnyH_take (i := 13) (oi := { dst := some 18, op := _, type := _, pos := _, after := _, guard := some (3, true) }) (v := undef) rfl (by kernel_rfl) (by kernel_rfl) (by kernel_rfl) (fun _ _ _ h => h) (Or.inr ⟨by rfl, rfl⟩) (by assumption) ?_
    try simp only [Act.put, List.setIfInBounds_toArray, List.set_cons_zero, List.set_cons_succ]
    refine wpAnyH_take (i := 14) (oi := { dst := some 19, op := _, type := _, pos := _, after := _, guard := some (3, true) }) (v := undef) rfl (by kernel_rfl) (by kernel_rfl) (by kernel_rfl) (fun _ _ _ h => h) (Or.inr ⟨by rfl, rfl⟩) (by assumption) ?_
    try simp only [Act.put, List.setIfInBounds_toArray, List.set_cons_zero, List.set_cons_succ]
    refine wpAnyH_take (i := 15) (oi := { dst := some 20, op := _, type := _, pos := _, after := _, guard := none }) (v := ?v15f) rfl (by kernel_rfl) (by kernel_rfl) (by kernel_rfl) (fun _ _ _ h => h) (Or.inl ⟨by rfl, ?y15f⟩) (by assumption) ?r15f
    (case y15f => intro w hSw; obtain ⟨s0, s1, s2, s3, -, -⟩ := hSw; go_simp; try with_reducible rfl)
    try simp only [Act.put, List.setIfInBounds_toArray, List.set_cons_zero, List.set_cons_succ]
    refine wpAnyH_take (i := 16) (oi := { dst := some 4, op := _, type := _, pos := _, after := _, guard := none }) (v := ?v16f) rfl (by kernel_rfl) (by kernel_rfl) (by kernel_rfl) (fun _ _ _ h => h) (Or.inl ⟨by rfl, ?y16f⟩) (by assumption) ?r16f
    (case y16f => intro w hSw; obtain ⟨s0, s1, s2, s3, -, -⟩ := hSw; go_simp; try with_reducible rfl)
    try simp only [Act.put, List.setIfInBounds_toArray, List.set_cons_zero, List.set_cons_succ]
    refine wpAnyH_done (by kernel_rfl) ?_ _
--R1falseEND
    go_wp2_with fail
    go_ret
    exact ⟨ret_bool HR.out.symm, HB1.out.trans (b2.mono HB1.out.size)⟩
  | true =>
    obtain ⟨d, hd⟩ : ∃ d, (x.m.seq - q) % 4096 = d := ⟨_, rfl⟩
    have d0 : 0 ≤ d := by omega
    have d1 : d ≤ 64 := by
      have := hn
      unfold nearP at this
      rw [Bool.and_eq_true, decide_eq_true_eq, hd] at this
      omega
    have HD := Lib.hid hd
    have hy0 : 0 ≤ M / 2 ^ d.toNat := Int.ediv_nonneg h0 (Int.pow_nonneg (by decide))
    have hy1 : M / 2 ^ d.toNat < 18446744073709551616 := Int.lt_of_le_of_lt (Int.ediv_le_self _ h0) h1
    have hand : bits .and .u64 (M / 2 ^ d.toNat) 1 = M / 2 ^ d.toNat % 2 := by
      rw [u64_and _ _ hy0 hy1 (by decide) (by decide)]
      have e : (1 : Int).toNat = 1 := rfl
      rw [e, Nat.and_one_is_mod]
      omega
    have HR := Lib.hid (show ackP q M x = decide (0 < M / 2 ^ d.toNat % 2) by
      unfold ackP; rw [hn, hd, Bool.true_and, decide_eq_decide]; omega)
    clear hd hy0 hy1
    go_enter Tryd.func48, Tryd.ntmps48
    go_wp2_with fail
    rw [← hW1]
    clear hW1
--R1true
    refine wp_region_held_drew (S := (fun y => y.cell? ⟨c, 0, none⟩ = some (.func (.func 46) #[] #[.pointer (some ⟨b, 0, none⟩)]) ∧ y.cell? ⟨b, 13, none⟩ = some (.int .i64 q) ∧ y.cell? ⟨b, 14, none⟩ = some (.int .u64 M) ∧ y.cell? ⟨W.heap.size, 5, none⟩ = some (.int .i64 x.m.seq) ∧ y.rangeAt W.heap.size 0 (fmC x) ∧ Below W1.heap.size W1 y)) (by kernel_rfl) ?_ (fun hHeld => ?_)
    · exact HSB.out _ b0
    refine wpAnyH_take (i := 0) (oi := { dst := some 5, op := _, type := _, pos := _, after := _, guard := none }) (v := ?v0t) rfl (by kernel_rfl) (by kernel_rfl) (by kernel_rfl) (fun _ _ _ h => h) (Or.inl ⟨by rfl, ?y0t⟩) (by assumption) ?r0t
    (case y0t => intro w hSw; obtain ⟨s0, s1, s2, s3, -, -⟩ := hSw; go_simp; try with_reducible rfl)
    try simp only [Act.put, List.setIfInBounds_toArray, List.set_cons_zero, List.set_cons_succ]
    refine wpAnyH_take (i := 1) (oi := { dst := some 6, op := _, type := _, pos := _, after := _, guard := none }) (v := Value.agg (fmC x).toArray) rfl (by kernel_rfl) (by kernel_rfl) (by kernel_rfl) (fun _ _ _ h => h) ?y1t (by assumption) ?r1t
    (case y1t => exact yieldsIf_load_mid (S := (fun y => y.cell? ⟨c, 0, none⟩ = some (.func (.func 46) #[] #[.pointer (some ⟨b, 0, none⟩)]) ∧ y.cell? ⟨b, 13, none⟩ = some (.int .i64 q) ∧ y.cell? ⟨b, 14, none⟩ = some (.int .u64 M) ∧ y.cell? ⟨W.heap.size, 5, none⟩ = some (.int .i64 x.m.seq) ∧ y.rangeAt W.heap.size 0 (fmC x) ∧ Below W1.heap.size W1 y)) (by rfl) 81 (.tmp 3) rfl W.heap.size 0 rfl (fmC x) _ (fun w hw => hw.2.2.2.2.1) Tryd.underlying81 rfl (by kernel_rfl))
    try simp only [Act.put, List.setIfInBounds_toArray, List.set_cons_zero, List.set_cons_succ]
    refine wpAnyH_ready (rs := [2]) (by kernel_rfl) (by simp) ?_
    refine AllReadyH.cons (o := { dst := some 7, op := _, type := _, pos := _, after := _, guard := none }) rfl (fun K hK => ?_) AllReadyH.nil
    go_simp
    refine (near_any (W := W1.drew) x hHeld.2.1).mono ?_
    rintro e w2 ⟨rfl, hb2⟩
    rw [hn]
    have b2 := b0.trans (hb2.mono b0.size)
    refine hK.out _ _ (HSB.out _ b2) (fun hHeld2 => ?_)
    clear hK K
    try simp only [Act.put, List.setIfInBounds_toArray, List.set_cons_zero, List.set_cons_succ]
    refine wpAnyH_take (i := 3) (oi := { dst := some 8, op := _, type := _, pos := _, after := _, guard := none }) (v := ?v3t) rfl (by kernel_rfl) (by kernel_rfl) (by kernel_rfl) (fun _ _ _ h => h) (Or.inl ⟨by rfl, ?y3t⟩) (by assumption) ?r3t
    (case y3t => intro w hSw; obtain ⟨s0, s1, s2, s3, -, -⟩ := hSw; go_simp; try with_reducible rfl)
    try simp only [Act.put, List.setIfInBounds_toArray, List.set_cons_zero, List.set_cons_succ]
    refine wpAnyH_take (i := 4) (oi := { dst := some 9, op := _, type := _, pos := _, after := _, guard := some (3, true) }) (v := ?v4t) rfl (by kernel_rfl) (by kernel_rfl) (by kernel_rfl) (fun _ _ _ h => h) (Or.inl ⟨by rfl, ?y4t⟩) (by assumption) ?r4t
    (case y4t => intro w hSw; obtain ⟨s0, s1, s2, s3, -, -⟩ := hSw; go_simp; try with_reducible rfl)
    try simp only [Act.put, List.setIfInBounds_toArray, List.set_cons_zero, List.set_cons_succ]
    refine wpAnyH_take (i := 5) (oi := { dst := some 10, op := _, type := _, pos := _, after := _, guard := some (3, true) }) (v := ?v5t) rfl (by kernel_rfl) (by kernel_rfl) (by kernel_rfl) (fun _ _ _ h => h) (Or.inl ⟨by rfl, ?y5t⟩) (by assumption) ?r5t
    (case y5t => intro w hSw; obtain ⟨s0, s1, s2, s3, -, -⟩ := hSw; go_simp; try with_reducible rfl)
    try simp only [Act.put, List.setIfInBounds_toArray, List.set_cons_zero, List.set_cons_succ]
    refine wpAnyH_take (i := 6) (oi := { dst := some 11, op := _, type := _, pos := _, after := _, guard := some (3, true) }) (v := ?v6t) rfl (by kernel_rfl) (by kernel_rfl) (by kernel_rfl) (fun _ _ _ h => h) (Or.inl ⟨by rfl, ?y6t⟩) (by assumption) ?r6t
    (case y6t => intro w hSw; obtain ⟨s0, s1, s2, s3, -, -⟩ := hSw; go_simp; try with_reducible rfl)
    try simp only [Act.put, List.setIfInBounds_toArray, List.set_cons_zero, List.set_cons_succ]
    refine wpAnyH_take (i := 7) (oi := { dst := some 12, op := _, type := _, pos := _, after := _, guard := some (3, true) }) (v := ?v7t) rfl (by kernel_rfl) (by kernel_rfl) (by kernel_rfl) (fun _ _ _ h => h) (Or.inl ⟨by rfl, ?y7t⟩) (by assumption) ?r7t
    (case y7t => intro w hSw; obtain ⟨s0, s1, s2, s3, -, -⟩ := hSw; go_simp; try with_reducible rfl)
    try simp only [Act.put, List.setIfInBounds_toArray, List.set_cons_zero, List.set_cons_succ]
    refine wpAnyH_take (i := 8) (oi := { dst := some 13, op := _, type := _, pos := _, after := _, guard := some (3, true) }) (v := ?v8t) rfl (by kernel_rfl) (by kernel_rfl) (by kernel_rfl) (fun _ _ _ h => h) (Or.inl ⟨by rfl, ?y8t⟩) (by assumption) ?r8t
    (case y8t => intro w hSw; obtain ⟨s0, s1, s2, s3, -, -⟩ := hSw; go_simp; try with_reducible rfl)
    try simp only [Act.put, List.setIfInBounds_toArray, List.set_cons_zero, List.set_cons_succ]
    refine wpAnyH_take (i := 9) (oi := { dst := some 14, op := _, type := _, pos := _, after := _, guard := some (3, true) }) (v := ?v9t) rfl (by kernel_rfl) (by kernel_rfl) (by kernel_rfl) (fun _ _ _ h => h) (Or.inl ⟨by rfl, ?y9t⟩) (by assumption) ?r9t
    (case y9t => intro w hSw; obtain ⟨s0, s1, s2, s3, -, -⟩ := hSw; go_simp; try with_reducible rfl)
    try simp only [Act.put, List.setIfInBounds_toArray, List.set_cons_zero, List.set_cons_succ]
    refine wpAnyH_take (i := 10) (oi := { dst := some 15, op := _, type := _, pos := _, after := _, guard := some (3, true) }) (v := ?v10t) rfl (by kernel_rfl) (by kernel_rfl) (by kernel_rfl) (fun _ _ _ h => h) (Or.inl ⟨by rfl, ?y10t⟩) (by assumption) ?r10t
    (case y10t => intro w hSw; obtain ⟨s0, s1, s2, s3, -, -⟩ := hSw; go_simp; try with_reducible rfl)
    try simp only [Act.put, List.setIfInBounds_toArray, List.set_cons_zero, List.set_cons_succ]
    refine wpAnyH_ready (rs := [11]) (by kernel_rfl) (by simp) ?_
    refine AllReadyH.cons (o := { dst := some 16, op := _, type := _, pos := _, after := _, guard := some (3, true) }) rfl (fun K hK => ?_) AllReadyH.nil
    go_simp
    refine (dist_any q x.m.seq _).mono ?_
    rintro e w3 ⟨rfl, rfl⟩
    rw [HD.out]
    refine hK.out _ _ (HSB.out _ b2) (fun hHeld3 => ?_)
    clear hK K
    try simp only [Act.put, List.setIfInBounds_toArray, List.set_cons_zero, List.set_cons_succ]
    refine wpAnyH_take (i := 12) (oi := { dst := some 17, op := _, type := _, pos := _, after := _, guard := some (3, true) }) (v := ?v12t) rfl (by kernel_rfl) (by kernel_rfl) (by kernel_rfl) (fun _ _ _ h => h) (Or.inl ⟨by rfl, ?y12t⟩) (by assumption) ?r12t
    (case y12t => intro w hSw; obtain ⟨s0, s1, s2, s3, -, -⟩ := hSw; go_simp; try with_reducible rfl)
    try simp only [Act.put, List.setIfInBounds_toArray, List.set_cons_zero, List.set_cons_succ]
    refine wpAnyH_take (i := 13) (oi := { dst := some 18, op := _, type := _, pos := _, after := _, guard := some (3, true) }) (v := ?v13t) rfl (by kernel_rfl) (by kernel_rfl) (by kernel_rfl) (fun _ _ _ h => h) (Or.inl ⟨by rfl, ?y13t⟩) (by assumption) ?r13t
    (case y13t => intro w hSw; obtain ⟨s0, s1, s2, s3, -, -⟩ := hSw; go_simp; try with_reducible rfl)
    try simp only [Act.put, List.setIfInBounds_toArray, List.set_cons_zero, List.set_cons_succ]
    refine wpAnyH_take (i := 14) (oi := { dst := some 19, op := _, type := _, pos := _, after := _, guard := some (3, true) }) (v := ?v14t) rfl (by kernel_rfl) (by kernel_rfl) (by kernel_rfl) (fun _ _ _ h => h) (Or.inl ⟨by rfl, ?y14t⟩) (by assumption) ?r14t
    (case y14t => intro w hSw; obtain ⟨s0, s1, s2, s3, -, -⟩ := hSw; go_simp; try with_reducible rfl)
    try simp only [Act.put, List.setIfInBounds_toArray, List.set_cons_zero, List.set_cons_succ]
    refine wpAnyH_take (i := 15) (oi := { dst := some 20, op := _, type := _, pos := _, after := _, guard := none }) (v := ?v15t) rfl (by kernel_rfl) (by kernel_rfl) (by kernel_rfl) (fun _ _ _ h => h) (Or.inl ⟨by rfl, ?y15t⟩) (by assumption) ?r15t
    (case y15t => intro w hSw; obtain ⟨s0, s1, s2, s3, -, -⟩ := hSw; go_simp; try with_reducible rfl)
    try simp only [Act.put, List.setIfInBounds_toArray, List.set_cons_zero, List.set_cons_succ]
    refine wpAnyH_take (i := 16) (oi := { dst := some 4, op := _, type := _, pos := _, after := _, guard := none }) (v := ?v16t) rfl (by kernel_rfl) (by kernel_rfl) (by kernel_rfl) (fun _ _ _ h => h) (Or.inl ⟨by rfl, ?y16t⟩) (by assumption) ?r16t
    (case y16t => intro w hSw; obtain ⟨s0, s1, s2, s3, -, -⟩ := hSw; go_simp; try with_reducible rfl)
    try simp only [Act.put, List.setIfInBounds_toArray, List.set_cons_zero, List.set_cons_succ]
    refine wpAnyH_done (by kernel_rfl) ?_ _
--R1trueEND
    go_wp2_with fail
    go_ret
    exact ⟨ret_bool HR.out.symm, HB1.out.trans (b2.mono HB1.out.size)⟩
theorem pred_acked {w : World} {b c : Nat} {q M : Int} (hb : w.cell? ⟨b, 13, none⟩ = some (.int .i64 q)) (hM : w.cell? ⟨b, 14, none⟩ = some (.int .u64 M)) (h0 : 0 ≤ M) (h1 : M < 18446744073709551616)
    (hc : w.cell? ⟨c, 0, none⟩ = some (.func (.func 46) #[] #[.pointer (some ⟨b, 0, none⟩)])) :
    PredF 48 #[.pointer (some ⟨c, 0, none⟩), .pointer (some ⟨b, 0, none⟩)] (ackP q M) w :=
  ⟨enters_of Tryd.func48 (by kernel_rfl) rfl, fun W x hW => acked_any x ((hW.cell (p := ⟨b, 13, none⟩) (World.block_lt_of_cell? w _ hb)).trans hb) ((hW.cell (p := ⟨b, 14, none⟩) (World.block_lt_of_cell? w _ hM)).trans hM) h0 h1 ((hW.cell (p := ⟨c, 0, none⟩) (World.block_lt_of_cell? w _ hc)).trans hc)⟩
end Go.Proofs.YthjjneanabnjoaaDoor
