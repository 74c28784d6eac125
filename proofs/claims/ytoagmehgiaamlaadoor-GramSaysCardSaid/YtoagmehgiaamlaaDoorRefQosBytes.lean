/-
  muezzinref1.QoSBytes.
-/
import Derived.Test.YtoagmehgiaamlaaDoorMf
import Derived.Test.YtoagmehgiaamlaaDoorMc
import Derived.Deep.RegionHeld3
namespace Go.Proofs.YtoagmehgiaamlaaDoor
open Go.ChangeShapes Go.WideShapes Go.ChangeAt Go.RowKit
set_option linter.unusedVariables false

set_option maxRecDepth 100000 in
set_option maxHeartbeats 1000000 in
theorem rqosBytes_no (a : Nat → UInt8) (tid seq : Int) (r m e : Bool) (A : Option Addr) (n C : Nat) (w : World) (hn : n ≤ maxLen) (hno : ¬ qok tid seq n) :
    Calls Tryd.prog 10 #[qv a tid seq r m e A n C] w fun en w' => en = .returned (.tuple #[.slice none 0 0, .int .i64 103]) ∧ Below w.heap.size w w' := by
  have hk := Blk.new w (qcells a tid seq r m e A n C) 35
  have c18 : (w.alloc (.cells (qcells a tid seq r m e A n C) 35)).cell? ⟨w.heap.size, 18, none⟩ = some (.int .i64 tid) := hk.cell 18
  have c19 : (w.alloc (.cells (qcells a tid seq r m e A n C) 35)).cell? ⟨w.heap.size, 19, none⟩ = some (.int .i64 seq) := hk.cell 19
  have c23 : (w.alloc (.cells (qcells a tid seq r m e A n C) 35)).cell? ⟨w.heap.size, 23, none⟩ = some (.slice A n C) := hk.cell 23
  have hb0 : Below w.heap.size w (w.alloc (.cells (qcells a tid seq r m e A n C) 35)) := (Below.refl _ _).alloc (Nat.le_refl _) _
  clear hk
  unfold qv
  by_cases h1 : tid < 0 ∨ 7 < tid
  · have e1 : (decide (tid < 0) || decide (7 < tid)) = true := by simpa using h1
    have E1 := Lib.hid e1
    clear h1 hno e1
    go_enter Tryd.func10, Tryd.ntmps10
    go_wp2_with fail
    refine (out_any tid 7 _).mono ?_
    rintro en w2 ⟨rfl, rfl⟩
    rw [E1.out]
    go_wp2_with fail
    go_ret2
    exact ⟨rfl, hb0⟩
  have e1 : (decide (tid < 0) || decide (7 < tid)) = false := by simp; omega
  have E1 := Lib.hid e1
  by_cases h2 : seq < 0 ∨ 4095 < seq
  · have e2 : (decide (seq < 0) || decide (4095 < seq)) = true := by simpa using h2
    have E2 := Lib.hid e2
    clear h1 hno e1 h2 e2
    go_enter Tryd.func10, Tryd.ntmps10
    go_wp2_with fail
    refine (out_any tid 7 _).mono ?_
    rintro en w2 ⟨rfl, rfl⟩
    rw [E1.out]
    go_wp2_with fail
    refine (out_any seq 4095 _).mono ?_
    rintro en w2 ⟨rfl, rfl⟩
    rw [E2.out]
    go_wp2_with fail
    go_ret2
    exact ⟨rfl, hb0⟩
  have e2 : (decide (seq < 0) || decide (4095 < seq)) = false := by simp; omega
  have E2 := Lib.hid e2
  have h3 : 1500 < (n : Int) := by unfold qok at hno; omega
  clear h1 hno e1 h2 e2
  go_enter Tryd.func10, Tryd.ntmps10
  go_wp2_with fail
  refine (out_any tid 7 _).mono ?_
  rintro en w2 ⟨rfl, rfl⟩
  rw [E1.out]
  go_wp2_with fail
  refine (out_any seq 4095 _).mono ?_
  rintro en w2 ⟨rfl, rfl⟩
  rw [E2.out]
  go_wp2_with fail
  go_ret2
  exact ⟨rfl, hb0⟩

/-- the head's first four bytes as a slice just made -/
theorem own_four (w : World) (base : Nat) (hb : base ≤ w.heap.size) (z : Int) (x : UInt8) (hz : z = (x.toNat : Int)) : OwnU8 (w.alloc (.cells #[.int .u8 136, .int .u8 z, .int .u8 0, .int .u8 0] 5)) base (some ⟨w.heap.size, 0, none⟩) 4 4 [0x88, x, 0, 0] := by
  subst hz
  refine ⟨rfl, .inr ⟨w.heap.size, 4, _, rfl, hb, Blk.new _ _ _, Nat.le_refl _, by simp [maxLen], rfl, ?_⟩⟩
  simp [u8v]

theorem row_tid (w : World) (z : Int) (x : UInt8) (t : TypeId) (hz : z = (x.toNat : Int)) : Row (w.alloc (.cells #[.int .u8 z, .int .u8 0] t)) 1 (some ⟨w.heap.size, 0, none⟩) 2 2 ([x, 0].map u8v) := by
  subst hz
  rcases row_new w #[.int .u8 (x.toNat : Int), .int .u8 0] t with h | h
  · exact h
  · simp [maxLen] at h

set_option maxRecDepth 100000 in
set_option maxHeartbeats 8000000 in
theorem rqosBytes_yes (a : Nat → UInt8) (tid seq : Int) (r m e : Bool) (A : Option Addr) (n C : Nat) (body : List UInt8) (w : World) (hb : Row w 1 A n C (body.map u8v)) (hok : qok tid seq n) :
    Calls Tryd.prog 10 #[qv a tid seq r m e A n C] w fun en w' => ∃ A2 n2 C2, en = .returned (.tuple #[.slice A2 n2 C2, .int .i64 0]) ∧ OwnU8 w' w.heap.size A2 n2 C2 (qbytes a tid seq r m e body) ∧ Below w.heap.size w w' := by
  obtain ⟨h0, h1, h2, h3, h4⟩ := hok
  obtain ⟨sq, rfl⟩ : ∃ sq : Nat, seq = sq := ⟨seq.toNat, by omega⟩
  obtain ⟨td, rfl⟩ : ∃ td : Nat, tid = td := ⟨tid.toNat, by omega⟩
  have hk := Blk.new w (qcells a td sq r m e A n C) 35
  have hb1 := hb.alloc (.cells (qcells a td sq r m e A n C) 35)
  have hb0 : Below w.heap.size w (w.alloc (.cells (qcells a td sq r m e A n C) 35)) := (Below.refl _ _).alloc (Nat.le_refl _) _
  have E1 := Lib.hid (show (decide ((td : Int) < 0) || decide (7 < (td : Int))) = false by simp; omega)
  have E2 := Lib.hid (show (decide ((sq : Int) < 0) || decide (4095 < (sq : Int))) = false by simp; omega)
  obtain ⟨F1, hF1⟩ : ∃ F1 : Int, (bif r then (8 : Int) else 0) = F1 := ⟨_, rfl⟩
  obtain ⟨F2, hF2⟩ : ∃ F2 : Int, (bif m then (32 : Int) else 0) = F2 := ⟨_, rfl⟩
  have hF : 0 ≤ F1 ∧ F1 ≤ 8 ∧ 0 ≤ F2 ∧ F2 ≤ 32 ∧ 2 + F1 + F2 = ((UInt8.ofNat (qflags r m)).toNat : Int) := by
    subst hF1 hF2
    cases r <;> cases m <;> decide
  have HF1 := Lib.hid hF1
  have HF2 := Lib.hid hF2
  obtain ⟨f1, f2, f3, f4, f5⟩ := hF
  have HF := Lib.hid f5
  have q1 : IntKind.i64.wrap (2 + F1) = 2 + F1 := IntWalk.i64_in _ (by omega)
  have q2 : IntKind.i64.wrap (2 + F1 + F2) = 2 + F1 + F2 := IntWalk.i64_in _ (by omega)
  have q3 : IntKind.u8.wrap (2 + F1 + F2) = 2 + F1 + F2 := by rw [IntKind.wrap_u8]; omega
  have c18 : (w.alloc (.cells (qcells a td sq r m e A n C) 35)).cell? ⟨w.heap.size, 18, none⟩ = some (.int .i64 (td : Int)) := hk.cell 18
  have c19 : (w.alloc (.cells (qcells a td sq r m e A n C) 35)).cell? ⟨w.heap.size, 19, none⟩ = some (.int .i64 (sq : Int)) := hk.cell 19
  have c20 : (w.alloc (.cells (qcells a td sq r m e A n C) 35)).cell? ⟨w.heap.size, 20, none⟩ = some (.bool r) := hk.cell 20
  have c21 : (w.alloc (.cells (qcells a td sq r m e A n C) 35)).cell? ⟨w.heap.size, 21, none⟩ = some (.bool m) := hk.cell 21
  have c23 : (w.alloc (.cells (qcells a td sq r m e A n C) 35)).cell? ⟨w.heap.size, 23, none⟩ = some (.slice A n C) := hk.cell 23
  have hlt := hk.lt
  have h4' : (n : Int) ≤ 1500 := by omega
  clear hF1 hF2 f5
  unfold qv
  go_enter Tryd.func10, Tryd.ntmps10
  go_wp2_with fail
  refine (out_any td 7 _).mono ?_
  rintro en w2 ⟨rfl, rfl⟩
  rw [E1.out]
  go_wp2_with fail
  refine (out_any sq 4095 _).mono ?_
  rintro en w2 ⟨rfl, rfl⟩
  rw [E2.out]
  go_wp2_with fail
  generalize w.alloc _ = W at *
  go_region_held3 (fun w' => w'.cell? ⟨w.heap.size, 20, none⟩ = some (.bool r) ∧ w'.cell? ⟨w.heap.size, 21, none⟩ = some (.bool m))
    (first | exact ⟨c20, c21⟩ | exact ⟨(World.cell?_alloc_lt _ _ _ hlt).trans c20, (World.cell?_alloc_lt _ _ _ hlt).trans c21⟩)
    (first
      | (refine (flag_any r 8 W.drew).mono ?_; rintro e w2 ⟨rfl, rfl⟩; rw [HF1.out])
      | (refine (flag_any m 32 W.drew).mono ?_; rintro e w2 ⟨rfl, rfl⟩; rw [HF2.out]))
  have hs1 : w.heap.size + 1 ≤ W.heap.size := hlt
  have ho1 : OwnU8 (W.alloc (.cells #[.int .u8 136, .int .u8 (2 + F1 + F2), .int .u8 0, .int .u8 0] 5)).drew (w.heap.size + 1) (some ⟨W.heap.size, 0, none⟩) 4 4 [0x88, UInt8.ofNat (qflags r m), 0, 0] := own_four W _ hs1 _ _ HF.out
  have hk1 : Blk (W.alloc (.cells #[.int .u8 136, .int .u8 (2 + F1 + F2), .int .u8 0, .int .u8 0] 5)).drew w.heap.size (qcells a td sq r m e A n C) 35 := hk.alloc _
  have hbA : Below w.heap.size w (W.alloc (.cells #[.int .u8 136, .int .u8 (2 + F1 + F2), .int .u8 0, .int .u8 0] 5)).drew := (hb0.alloc (by omega) _).trans (below_drewN 1)
  have hrA : Row (W.alloc (.cells #[.int .u8 136, .int .u8 (2 + F1 + F2), .int .u8 0, .int .u8 0] 5)).drew 1 A n C (body.map u8v) := hb1.alloc _
  clear hk hb1 hb0 c18 c19 c20 c21 c23 q1 q2 q3
  generalize hV : (W.alloc _).drew = V at *
  have hsV : w.heap.size + 1 ≤ V.heap.size := by have := hk1.lt; omega
  go_wp2_with fail
  refine wp_region_held_drew (S := fun w' => Blk w' w.heap.size (qcells a td sq r m e A n C) 35) (by kernel_rfl) hk1 (fun hHeld => ?_)
  refine wpAnyH_take (i := 0) (oi := { dst := some 29, op := _, type := _, pos := _, after := _, guard := none }) (v := ?v0) rfl (by kernel_rfl) (by kernel_rfl) (by kernel_rfl) (fun _ _ _ h => h) (Or.inl ⟨by rfl, ?y0⟩) (by assumption) ?r0
  case y0 => intro w hSw; clear hSw; go_simp; try with_reducible rfl
  simp only [Act.put, List.setIfInBounds_toArray, List.set_cons_zero, List.set_cons_succ]
  refine wpAnyH_take (i := 1) (oi := { dst := some 30, op := _, type := _, pos := _, after := _, guard := none }) (v := ?v1) rfl (by kernel_rfl) (by kernel_rfl) (by kernel_rfl) (fun _ _ _ h => h) (Or.inl ⟨by rfl, ?y1⟩) (by assumption) ?r1
  case y1 => intro w hSw; clear hSw; go_simp; try with_reducible rfl
  simp only [Act.put, List.setIfInBounds_toArray, List.set_cons_zero, List.set_cons_succ]
  refine wpAnyH_take (i := 2) (oi := { dst := some 31, op := _, type := _, pos := _, after := _, guard := none }) (v := .agg (sixL a).toArray) rfl (by kernel_rfl) (by kernel_rfl) (by kernel_rfl) (fun _ _ _ h => h) (yieldsIf_load_mid (by rfl) 26 _ rfl w.heap.size 0 rfl (sixL a) _ (fun w' h => Blk.range h 0 _ (by rfl)) Tryd.underlying26 rfl (by kernel_rfl)) (by assumption) ?r2
  simp only [Act.put, List.setIfInBounds_toArray, List.set_cons_zero, List.set_cons_succ]
  refine wpAnyH_take (i := 4) (oi := { dst := some 33, op := _, type := _, pos := _, after := _, guard := none }) (v := ?v4) rfl (by kernel_rfl) (by kernel_rfl) (by kernel_rfl) (fun _ _ _ h => h) (Or.inl ⟨by rfl, ?y4⟩) (by assumption) ?r4
  case y4 => intro w hSw; clear hSw; go_simp; try with_reducible rfl
  simp only [Act.put, List.setIfInBounds_toArray, List.set_cons_zero, List.set_cons_succ]
  refine wpAnyH_take (i := 5) (oi := { dst := some 34, op := _, type := _, pos := _, after := _, guard := none }) (v := .agg (sixL (fun i => a (6 + i))).toArray) rfl (by kernel_rfl) (by kernel_rfl) (by kernel_rfl) (fun _ _ _ h => h) (yieldsIf_load_mid (by rfl) 26 _ rfl w.heap.size 6 rfl (sixL (fun i => a (6 + i))) _ (fun w' h => Blk.range h 6 _ (by rfl)) Tryd.underlying26 rfl (by kernel_rfl)) (by assumption) ?r5
  simp only [Act.put, List.setIfInBounds_toArray, List.set_cons_zero, List.set_cons_succ]
  refine wpAnyH_take (i := 7) (oi := { dst := some 36, op := _, type := _, pos := _, after := _, guard := none }) (v := ?v7) rfl (by kernel_rfl) (by kernel_rfl) (by kernel_rfl) (fun _ _ _ h => h) (Or.inl ⟨by rfl, ?y7⟩) (by assumption) ?r7
  case y7 => intro w hSw; clear hSw; go_simp; try with_reducible rfl
  simp only [Act.put, List.setIfInBounds_toArray, List.set_cons_zero, List.set_cons_succ]
  refine wpAnyH_take (i := 8) (oi := { dst := some 37, op := _, type := _, pos := _, after := _, guard := none }) (v := .agg (sixL (fun i => a (12 + i))).toArray) rfl (by kernel_rfl) (by kernel_rfl) (by kernel_rfl) (fun _ _ _ h => h) (yieldsIf_load_mid (by rfl) 26 _ rfl w.heap.size 12 rfl (sixL (fun i => a (12 + i))) _ (fun w' h => Blk.range h 12 _ (by rfl)) Tryd.underlying26 rfl (by kernel_rfl)) (by assumption) ?r8
  simp only [Act.put, List.setIfInBounds_toArray, List.set_cons_zero, List.set_cons_succ]
  refine wpAnyH_ready (rs := [3]) (by kernel_rfl) (by simp) ?_
  refine AllReadyH.cons (o := { dst := some 32, op := _, type := _, pos := _, after := _, guard := none }) rfl (fun K hK => ?_) AllReadyH.nil
  go_simp
  refine (addr_any (w.heap.size + 1) (some ⟨W.heap.size, 0, none⟩) 4 4 _ a V.drew ho1 (by omega) hsV).mono ?_
  rintro e2 w2 ⟨A2, C2, rfl, ho2, hb2⟩
  go_wp2_with fail
  have hk2 := Blk.below (w := V.drew) hk1 hb2 (by omega)
  have hs2 := hb2.size
  refine hK.out _ _ hk2 (fun hHeld2 => ?_)
  clear hK
  try simp only [Act.put, List.setIfInBounds_toArray, List.set_cons_zero, List.set_cons_succ]
  refine wpAnyH_ready (rs := [6]) (by kernel_rfl) (by simp) ?_
  refine AllReadyH.cons (o := { dst := some 35, op := _, type := _, pos := _, after := _, guard := none }) rfl (fun K hK => ?_) AllReadyH.nil
  go_simp
  refine (addr_any (w.heap.size + 1) A2 (4 + 6) C2 _ (fun i => a (6 + i)) w2 ho2 (by omega) (Nat.le_trans hsV hs2)).mono ?_
  rintro e3 w3 ⟨A3, C3, rfl, ho3, hb3⟩
  go_wp2_with fail
  have hk3 := Blk.below (w := w2) hk2 hb3 (by omega)
  have hs3 := hb3.size
  refine hK.out _ _ hk3 (fun hHeld3 => ?_)
  clear hK
  try simp only [Act.put, List.setIfInBounds_toArray, List.set_cons_zero, List.set_cons_succ]
  refine wpAnyH_ready (rs := [9]) (by kernel_rfl) (by simp) ?_
  refine AllReadyH.cons (o := { dst := some 38, op := _, type := _, pos := _, after := _, guard := none }) rfl (fun K hK => ?_) AllReadyH.nil
  go_simp
  refine (addr_any (w.heap.size + 1) A3 (4 + 6 + 6) C3 _ (fun i => a (12 + i)) w3 ho3 (by omega) (Nat.le_trans (Nat.le_trans hsV hs2) hs3)).mono ?_
  rintro e4 w4 ⟨A4, C4, rfl, ho4, hb4⟩
  go_wp2_with fail
  have hk4 := Blk.below (w := w3) hk3 hb4 (by omega)
  have hs4 := hb4.size
  refine hK.out _ _ hk4 (fun hHeld4 => ?_)
  clear hK
  try simp only [Act.put, List.setIfInBounds_toArray, List.set_cons_zero, List.set_cons_succ]
  refine wpAnyH_take (i := 10) (oi := { dst := some 4, op := _, type := _, pos := _, after := _, guard := none }) (v := ?v10) rfl (by kernel_rfl) (by kernel_rfl) (by kernel_rfl) (fun _ _ _ h => h) (Or.inl ⟨by rfl, ?y10⟩) (by assumption) ?r10
  case y10 => intro w hSw; clear hSw; go_simp; try with_reducible rfl
  simp only [Act.put, List.setIfInBounds_toArray, List.set_cons_zero, List.set_cons_succ]
  refine wpAnyH_done (by kernel_rfl) ?_ _
  have hb14 : Below w.heap.size w w4 := ((hbA.trans ((below_drewN (w := V) 1).trans (hb2.mono (by omega)))).trans (hb3.mono (by omega))).trans (hb4.mono (by omega))
  have hr4 : Row w4 1 A n C (body.map u8v) := hb.below hb14 (Nat.le_refl _)
  have c18 : w4.cell? ⟨w.heap.size, 18, none⟩ = some (.int .i64 (td : Int)) := hk4.cell 18
  have c19 : w4.cell? ⟨w.heap.size, 19, none⟩ = some (.int .i64 (sq : Int)) := hk4.cell 19
  have c22 : w4.cell? ⟨w.heap.size, 22, none⟩ = some (.bool e) := hk4.cell 22
  have hs14 : w.heap.size + 1 ≤ w4.heap.size := Nat.le_trans (Nat.le_trans (Nat.le_trans hsV hs2) hs3) hs4
  clear ho1 ho2 ho3 hk1 hk2 hk3 hHeld hHeld2 hHeld3 hHeld4 hbA hrA hb2 hb3 hb4
  have HTWO := Lib.hid (two_any (w.heap.size + 1) A4 (4 + 6 + 6 + 6) C4 _ (sq * 16) (by omega) w4 ho4 (by omega) hs14)
  rw [show ((sq * 16 : Nat) : Int) = (sq : Int) * 16 by omega] at HTWO
  clear ho4
  go_wp2_with fail
  refine HTWO.out.mono ?_
  rintro e5 w5 ⟨A5, C5, rfl, ho5, hb5⟩
  have hk5 := hk4.below hb5 (by omega)
  have hs5 := hb5.size
  have hb15 : Below w.heap.size w w5 := hb14.trans (hb5.mono (by omega))
  have d18 : w5.cell? ⟨w.heap.size, 18, none⟩ = some (.int .i64 (td : Int)) := hk5.cell 18
  have d22 : w5.cell? ⟨w.heap.size, 22, none⟩ = some (.bool e) := hk5.cell 22
  have hr5 : Row w5 1 A n C (body.map u8v) := hb.below hb15 (Nat.le_refl _)
  clear hk4 c18 c19 c22 hr4 hb5
  go_wp2_with fail
  obtain ⟨F3, hF3⟩ : ∃ F3 : Int, (bif e then (16 : Int) else 0) = F3 := ⟨_, rfl⟩
  have hG : 0 ≤ F3 ∧ F3 ≤ 16 ∧ (td : Int) + F3 = ((UInt8.ofNat (qtid td e)).toNat : Int) := by
    subst hF3
    unfold qtid
    rw [UInt8.toNat_ofNat']
    cases e <;> simp <;> omega
  have HF3 := Lib.hid hF3
  obtain ⟨k1, k2, k3⟩ := hG
  have HG3 := Lib.hid k3
  have q5 : IntKind.i64.wrap ((td : Int) + F3) = (td : Int) + F3 := IntWalk.i64_in _ (by omega)
  have q6 : IntKind.u8.wrap ((td : Int) + F3) = (td : Int) + F3 := by rw [IntKind.wrap_u8]; omega
  have hlt5 := hk5.lt
  have HNE5 := Lib.hid (show some w.heap.size ≠ blk A5 from fun e => by have := (ho5.blk_ge _ e.symm).1; omega)
  have HO5 := Lib.hid ho5
  have hs15 : w.heap.size + 1 ≤ w5.heap.size := Nat.le_trans hs14 hs5
  clear hF3 k3 ho5
  go_region_held3 (fun w' => w'.cell? ⟨w.heap.size, 18, none⟩ = some (.int .i64 (td : Int)) ∧ w'.cell? ⟨w.heap.size, 22, none⟩ = some (.bool e))
    (first
      | go_keep
      | exact ⟨d18, d22⟩
      | exact ⟨(World.cell?_alloc_lt _ _ _ hlt5).trans d18, (World.cell?_alloc_lt _ _ _ hlt5).trans d22⟩
      | (go_split_ands
         refine ⟨?_, ?_⟩
         · (rw [hg6.cell_far _ (by simp; omega) HNE5.out]; assumption)
         · (rw [hg6.cell_far _ (by simp; omega) HNE5.out]; assumption)))
    (first
      | (refine (flag_any e 16 w5.drew).mono ?_; rintro e w2 ⟨rfl, rfl⟩; rw [HF3.out])
      | (refine step_append_u8 _ (by rfl) (.tmp 44) (.tmp 52) rfl (w.heap.size + 1) A5 (4 + 6 + 6 + 6 + 2) C5 _ (by rfl) (HO5.out.alloc _) _ 2 2 [UInt8.ofNat (qtid td e), 0] (by rfl) (row_tid _ _ _ _ HG3.out) (by omega) (by simp; omega) ?_; intro A6 C6 w6 hown6 hg6 hat6))
  have hk6 : Blk w6 w.heap.size (qcells a td sq r m e A n C) 35 := ((hk5.alloc _).drew).grown hg6 HNE5.out
  have hb16 : Below w.heap.size w w6 := below_grown ((hb15.alloc (Nat.le_trans (Nat.le_succ _) hs15) _).drew) (HO5.out.alloc _) (Nat.le_succ _) (Nat.le_trans (Nat.le_of_lt hlt5) (Below.alloc (Below.refl 0 w5) (Nat.zero_le _) _).size) hg6
  have hs16 : w.heap.size + 1 ≤ w6.heap.size := Nat.le_trans (Nat.le_trans hs15 (Below.alloc (Below.refl 0 w5) (Nat.zero_le _) _).size) hg6.size
  have hr6 : Row w6 1 A n C (body.map u8v) := hb.below hb16 (Nat.le_refl _)
  have x23 : w6.cell? ⟨w.heap.size, 23, none⟩ = some (.slice A n C) := hk6.cell 23
  have HO6 := Lib.hid hown6
  have HB16 := Lib.hid hb16
  have HR6 := Lib.hid hr6
  clear hg6 hat6 hown6 hb16 hr6 d18 d22 hk5 hk6
  go_wp2_with (at_builtin; refine append_u8 _ rfl (.tmp 54) (.tmp 56) rfl (w.heap.size + 1) A6 26 C6 _ rfl HO6.out A n C body rfl HR6.out (by omega) hs16 ?_; intro A7 C7 w7 hown7 hg7 hat7; have HO7 := Lib.hid hown7; have HB7 := Lib.hid (below_grown HB16.out HO6.out (Nat.le_succ _) (Nat.le_trans (Nat.le_succ _) hs16) hg7); clear hown7 hg7 hat7)
  go_ret2
  refine ⟨A7, _, C7, rfl, ?_, HB7.out⟩
  have ho := OwnU8.base_le HO7.out (Nat.le_succ w.heap.size)
  have e16 : sq * 16 / 256 = sq / 16 := by omega
  rw [e16] at ho
  exact ho
end Go.Proofs.YtoagmehgiaamlaaDoor
