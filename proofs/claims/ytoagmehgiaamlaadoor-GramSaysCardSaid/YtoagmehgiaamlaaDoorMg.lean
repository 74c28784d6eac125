/-
  QosRead  AmRows  QosReadAny  SameParts  RefParts  RefLens  Bools  Till.
-/
import Derived.Test.YtoagmehgiaamlaaDoorMf
import Derived.Test.YtoagmehgiaamlaaDoorMb
import Derived.Laws.CopyRow
import Derived.Deep.RegionLaw
import Derived.Test.YtoagmehgiaamlaaDoorMc
import Derived.Test.YtoagmehgiaamlaaDoorMa
import Derived.Test.YtoagmehgiaamlaaDoorMe
namespace Go.Proofs.YtoagmehgiaamlaaDoor
open Go.ChangeShapes Go.WideShapes Go.ChangeAt Go.RowKit
set_option linter.unusedVariables false

/-- 'copy' into a block that is known whole, as one step of a region that draws. -/
theorem step_copy_blk {P : Program} {ops : Array Oper} {o : Oper} {a : Act} {w : World} {K : Act → World → Prop} {Q : Exit → Act → World → Prop} {E : Prop} (hg : o.guard = none) (d s : Operand) (dT sT : TypeId)
    (hop : o.op = Op.call { callee := Callee.builtin Builtin.copy, args := #[d, s], argTypes := #[dT, sT] }) (elem : TypeId) (hu : P.underlying dT = some (.slice elem)) (hs : (P.info? elem).map (·.size) = some 1)
    (g off dLen dCap : Nat) (hd : a.eval d = .slice (some ⟨g, off, none⟩) dLen dCap) (ad : Addr) (sLen sCap : Nat) (hx : a.eval s = .slice (some ad) sLen sCap) (cur new : Array Value) (t : TypeId) (cs : List Value)
    (hk : Blk w g cur t) (hn : cs.length = Nat.min sLen dLen) (hsrc : ∀ j v, cs[j]? = some v → w.cell? (ad.add j) = some v) (hfit : off + cs.length ≤ cur.size) (h1 : ∀ v ∈ cs, v.oneCell' = true)
    (hnew : (cur.toList.take off ++ cs ++ cur.toList.drop (off + cs.length)).toArray = new)
    (hK : ∀ w', Blk w' g new t → w.grownBy w' (some g) → K (a.put o.dst (goInt cs.length)) w') : if Region.wanted o (yielded ops a.tmps) = true then Oper.wp P o a w K Q else E := by
  rw [if_pos (by simp [Region.wanted, hg])]
  have hrun := run_copy_row (P := P) w dT sT o.type elem g off dLen dCap ad sLen sCap cur t cs hu hs hk hn hsrc hfit h1
  rw [hnew] at hrun
  have := hK _ (setRow_heap w g cur new t (0, 0) hk) (setRow_grown w g new)
  unfold Oper.wp
  simp [execOp, hop, resolve, invoke, builtin, hd, hx, hrun, Result.andThen]
  exact this

theorem head_src {w : World} {b off n C : Nat} {xs : List UInt8} (h : Row w 1 (some ⟨b, off, none⟩) n C (xs.map u8v)) (hl : xs.length = n) (o : Nat) (ho : 4 + o + 6 ≤ n) :
    ∀ j v, [u8v (rdA xs o), u8v (rdA xs (o + 1)), u8v (rdA xs (o + 2)), u8v (rdA xs (o + 3)), u8v (rdA xs (o + 4)), u8v (rdA xs (o + 5))][j]? = some v → w.cell? (Addr.add ⟨b, off + (4 + o), none⟩ j) = some v := by
  obtain ⟨b', off', e, hb, hc⟩ := h.at_ (by omega)
  obtain ⟨rfl, rfl⟩ : b = b' ∧ off = off' := by injection e with e; injection e with e1 e2 e3; exact ⟨e1, e2⟩
  intro j v hv
  have hj : j < 6 := by have := (List.getElem?_eq_some_iff.1 hv).1; simpa using this
  have : v = u8v (rdA xs (o + j)) := by
    rcases (show j = 0 ∨ j = 1 ∨ j = 2 ∨ j = 3 ∨ j = 4 ∨ j = 5 by omega) with rfl | rfl | rfl | rfl | rfl | rfl <;> simpa using hv.symm
  subst this
  have := hc (4 + (o + j)) (u8v (rdA xs (o + j))) (by rw [List.getElem?_map, List.getElem?_eq_getElem (show 4 + (o + j) < xs.length by omega)]; simp [rdA, List.getD_eq_getElem?_getD, List.getElem?_eq_getElem (show 4 + (o + j) < xs.length by omega)])
  rw [← this]
  by_cases hj0 : j = 0
  · subst hj0; rfl
  · simp only [Addr.add, if_neg hj0, Nat.add_assoc]

theorem tid_form {x1 x2 x3 x22 x24 x25 : UInt8} (hs : shapeOk x1 x2 x3 x22 x24 x25 = true) : IntKind.i64.wrap (bits .andNot .u8 (x24.toNat : Int) 16) = rdTid x24 := by
  have h : x24.toNat < 8 ∨ (16 ≤ x24.toNat ∧ x24.toNat < 24) := by
    unfold shapeOk at hs
    revert hs
    by_cases h : x24.toNat < 8 ∨ (16 ≤ x24.toNat ∧ x24.toNat < 24)
    · exact fun _ => h
    · simp [h]
  have := UInt8.toNat_lt x24
  rw [go_form24v x24 h, IntWalk.i64_in _ (by omega)]; rfl

theorem seq_form {sq : Nat} {x22 x23 : UInt8} (h : sq = x22.toNat + 256 * x23.toNat) : IntKind.i64.wrap ((sq : Int) / 16) = rdSeq x22 x23 := by
  have h1 := UInt8.toNat_lt x22
  have h2 := UInt8.toNat_lt x23
  rw [IntWalk.i64_in _ (by omega), h]; unfold rdSeq; omega

set_option maxRecDepth 100000 in
set_option maxHeartbeats 1000000 in
theorem qosRead_yes (A : Option Addr) (n C : Nat) (xs : List UInt8) (w : World) (hb : Row w 1 A n C (xs.map u8v)) (hi : rdErr xs = none) :
    Calls Tryd.prog 26 #[.slice A n C] w fun e w' => ∃ A2 n2 C2, e = .returned (.tuple #[qv (rdA xs) (rdTid (xs.getD 24 0)) (rdSeq (xs.getD 22 0) (xs.getD 23 0)) (bitAt (xs.getD 1 0) 3) (bitAt (xs.getD 1 0) 5) (bitAt (xs.getD 24 0) 4) A2 n2 C2, .nilIface]) ∧
      OwnU8 w' w.heap.size A2 n2 C2 (xs.drop 26) ∧ Below w.heap.size w w' := by
  have hlen : xs.length = n := by simpa using hb.length
  have hb1 := hb.alloc (.cells z0 35)
  have hk0 := Blk.new w z0 35
  have hb0 : Below w.heap.size w (w.alloc (.cells z0 35)) := (Below.refl _ _).alloc (Nat.le_refl _) _
  have h26 : ¬ n < 26 := fun h => by simp [rdErr, hlen, h] at hi
  simp only [rdErr, hlen, if_neg h26] at hi
  obtain ⟨b, off, rfl, hbb, hc⟩ := hb1.at_ (by omega)
  have hcell : ∀ k, k < 26 → (w.alloc (.cells z0 35)).cell? ⟨b, off + k, none⟩ = some (u8v (xs.getD k 0)) := fun k hk => hc k _ (by rw [List.getElem?_map, List.getElem?_eq_getElem (by omega)]; simp [List.getD_eq_getElem?_getD, List.getElem?_eq_getElem (show k < xs.length by omega)])
  clear hc
  have c0 := hcell 0 (by omega); rw [Nat.add_zero] at c0; have c1 := hcell 1 (by omega); have c2 := hcell 2 (by omega); have c3 := hcell 3 (by omega)
  have c22 := hcell 22 (by omega); have c23 := hcell 23 (by omega); have c24 := hcell 24 (by omega); have c25 := hcell 25 (by omega)
  clear hcell
  generalize xs.getD 0 0 = x0 at *
  generalize xs.getD 1 0 = x1 at *
  generalize xs.getD 2 0 = x2 at *
  generalize xs.getD 3 0 = x3 at *
  generalize xs.getD 22 0 = x22 at *
  generalize xs.getD 23 0 = x23 at *
  generalize xs.getD 24 0 = x24 at *
  generalize xs.getD 25 0 = x25 at *
  have tj := Lib.hid (go_join x22 x23)
  have hx0 : x0 = 136 := by by_cases h : x0 = 136; exact h; simp [h] at hi
  have hs : shapeOk x1 x2 x3 x22 x24 x25 = true := by cases h : shapeOk x1 x2 x3 x22 x24 x25 <;> simp [hx0, h] at hi ⊢
  have hmax : n ≤ 1526 := by simp [hx0, hs] at hi; omega
  have H0 := Lib.hid hx0
  have HS := Lib.hid hs
  clear hx0 hs hi
  rw [z0_eq] at c0 c1 c2 c3 c22 c23 c24 c25 hk0 hb0 hb1 hbb
  simp only [u8v] at c0 c1 c2 c3 c22 c23 c24 c25
  go_enter Tryd.func26, Tryd.ntmps26
  go_wp2_with fail
  all_goals (have hlt0 := hk0.lt; generalize w.alloc _ = W0 at *)
  · exfalso
    have hq : ((x0.toNat : Int) != 136) = true := by assumption
    rw [H0.out] at hq; simp at hq
  clear c0
  go_region
  have tj' : bits .or .i64 (wrap64 (x22.toNat : Int)) (wrap64 (wrap64 (x23.toNat : Int) * 256)) = ((x22.toNat + 256 * x23.toNat : Nat) : Int) := by
    have h1 := UInt8.toNat_lt x22
    have h2 := UInt8.toNat_lt x23
    rw [IntWalk.wrap64_in (x22.toNat : Int) (by omega), IntWalk.wrap64_in (x23.toNat : Int) (by omega), IntWalk.wrap64_in _ (by omega)]
    exact tj.out
  obtain ⟨sq, hsq⟩ : ∃ sq, sq = x22.toNat + 256 * x23.toNat := ⟨_, rfl⟩
  have hsq16 : sq % 16 = x22.toNat % 16 := by omega
  have hsqlt : sq < 65536 := by have h1 := UInt8.toNat_lt x22; have h2 := UInt8.toNat_lt x23; omega
  rw [tj', ← hsq]
  replace hb0 : Below w.heap.size w W0.drew := hb0.trans (below_drewN (w := W0) 1)
  replace hlt0 : w.heap.size < W0.drew.heap.size := hlt0
  replace hk0 : Blk W0.drew w.heap.size _ 35 := hk0
  replace hb1 : Row W0.drew 1 (some ⟨b, off, none⟩) n C (xs.map u8v) := hb1
  replace hbb : b < W0.drew.heap.size := hbb
  replace c1 : W0.drew.cell? ⟨b, off + 1, none⟩ = some (.int .u8 (x1.toNat : Int)) := c1
  replace c24 : W0.drew.cell? ⟨b, off + 24, none⟩ = some (.int .u8 (x24.toNat : Int)) := c24
  have Hsq := Lib.hid hsq
  clear tj tj' hsq
  go_wp2_with fail
  all_goals (try (go_simp; go_wp2_with fail))
  iterate 6
    (· exfalso
       have hs := HS.out
       have hs2 : shapeOk x1 x2 x3 x22 x24 x25 = false := by
         first
         | exact shape_no1 (by assumption)
         | exact shape_no2 (by assumption)
         | exact shape_no3 (by assumption)
         | exact shape_no25 (by assumption)
         | exact shape_no22 hsq16 (by assumption)
         | exact shape_no24 (by assumption)
       rw [hs] at hs2; exact Bool.noConfusion hs2)
  clear c2 c3 c22 c23 c25
  have hlc := hb1.len_cap
  have g24 : (24 : Int) < n := by omega
  have g1 : (1 : Int) < n := by omega
  have g26 : (26 : Int) ≤ n := by omega
  have gC : (n : Int) ≤ C := by omega
  generalize W0.drew = W1 at *
  refine wp_region_held_drew (S := fun w' => w'.cell? ⟨b, off + 1, none⟩ = some (.int .u8 (x1.toNat : Int)) ∧ w'.cell? ⟨b, off + 24, none⟩ = some (.int .u8 (x24.toNat : Int))) (by kernel_rfl) ⟨c1, c24⟩ (fun hHeld => ?_)
  refine wpAnyH_take (i := 0) (oi := { dst := some 66, op := _, type := _, pos := _, after := _, guard := none }) (v := ?v0) rfl (by kernel_rfl) (by kernel_rfl) (by kernel_rfl) (fun _ _ _ h => h) (Or.inl ⟨by rfl, ?y0⟩) (by assumption) ?r0
  case y0 => intro w hSw; (try dsimp only at hSw); go_simp; try with_reducible rfl
  simp only [Act.put, List.setIfInBounds_toArray, List.set_cons_zero, List.set_cons_succ]
  refine wpAnyH_take (i := 1) (oi := { dst := some 67, op := _, type := _, pos := _, after := _, guard := none }) (v := ?v1) rfl (by kernel_rfl) (by kernel_rfl) (by kernel_rfl) (fun _ _ _ h => h) (Or.inl ⟨by rfl, ?y1⟩) (by assumption) ?r1
  case y1 => intro w hSw; (try dsimp only at hSw); go_simp; try with_reducible rfl
  simp only [Act.put, List.setIfInBounds_toArray, List.set_cons_zero, List.set_cons_succ]
  refine wpAnyH_take (i := 2) (oi := { dst := some 68, op := _, type := _, pos := _, after := _, guard := none }) (v := ?v2) rfl (by kernel_rfl) (by kernel_rfl) (by kernel_rfl) (fun _ _ _ h => h) (Or.inl ⟨by rfl, ?y2⟩) (by assumption) ?r2
  case y2 => intro w hSw; (try dsimp only at hSw); go_simp; try with_reducible rfl
  simp only [Act.put, List.setIfInBounds_toArray, List.set_cons_zero, List.set_cons_succ]
  refine wpAnyH_take (i := 3) (oi := { dst := some 69, op := _, type := _, pos := _, after := _, guard := none }) (v := ?v3) rfl (by kernel_rfl) (by kernel_rfl) (by kernel_rfl) (fun _ _ _ h => h) (Or.inl ⟨by rfl, ?y3⟩) (by assumption) ?r3
  case y3 => intro w hSw; (try dsimp only at hSw); go_simp; try with_reducible rfl
  simp only [Act.put, List.setIfInBounds_toArray, List.set_cons_zero, List.set_cons_succ]
  refine wpAnyH_take (i := 4) (oi := { dst := some 70, op := _, type := _, pos := _, after := _, guard := none }) (v := ?v4) rfl (by kernel_rfl) (by kernel_rfl) (by kernel_rfl) (fun _ _ _ h => h) (Or.inl ⟨by rfl, ?y4⟩) (by assumption) ?r4
  case y4 => intro w hSw; (try dsimp only at hSw); go_simp; try with_reducible rfl
  simp only [Act.put, List.setIfInBounds_toArray, List.set_cons_zero, List.set_cons_succ]
  refine wpAnyH_take (i := 5) (oi := { dst := some 71, op := _, type := _, pos := _, after := _, guard := none }) (v := ?v5) rfl (by kernel_rfl) (by kernel_rfl) (by kernel_rfl) (fun _ _ _ h => h) (Or.inl ⟨by rfl, ?y5⟩) (by assumption) ?r5
  case y5 => intro w hSw; (try dsimp only at hSw); go_simp; try with_reducible rfl
  simp only [Act.put, List.setIfInBounds_toArray, List.set_cons_zero, List.set_cons_succ]
  refine wpAnyH_take (i := 6) (oi := { dst := some 72, op := _, type := _, pos := _, after := _, guard := none }) (v := ?v6) rfl (by kernel_rfl) (by kernel_rfl) (by kernel_rfl) (fun _ _ _ h => h) (Or.inl ⟨by rfl, ?y6⟩) (by assumption) ?r6
  case y6 => intro w hSw; (try dsimp only at hSw); go_simp; try with_reducible rfl
  simp only [Act.put, List.setIfInBounds_toArray, List.set_cons_zero, List.set_cons_succ]
  refine wpAnyH_take (i := 7) (oi := { dst := some 73, op := _, type := _, pos := _, after := _, guard := none }) (v := ?v7) rfl (by kernel_rfl) (by kernel_rfl) (by kernel_rfl) (fun _ _ _ h => h) (Or.inl ⟨by rfl, ?y7⟩) (by assumption) ?r7
  case y7 => intro w hSw; (try dsimp only at hSw); go_simp; try with_reducible rfl
  simp only [Act.put, List.setIfInBounds_toArray, List.set_cons_zero, List.set_cons_succ]
  refine wpAnyH_take (i := 8) (oi := { dst := some 74, op := _, type := _, pos := _, after := _, guard := none }) (v := ?v8) rfl (by kernel_rfl) (by kernel_rfl) (by kernel_rfl) (fun _ _ _ h => h) (Or.inl ⟨by rfl, ?y8⟩) (by assumption) ?r8
  case y8 => intro w hSw; (try dsimp only at hSw); go_simp; try with_reducible rfl
  simp only [Act.put, List.setIfInBounds_toArray, List.set_cons_zero, List.set_cons_succ]
  refine wpAnyH_take (i := 9) (oi := { dst := some 75, op := _, type := _, pos := _, after := _, guard := none }) (v := ?v9) rfl (by kernel_rfl) (by kernel_rfl) (by kernel_rfl) (fun _ _ _ h => h) (Or.inl ⟨by rfl, ?y9⟩) (by assumption) ?r9
  case y9 => intro w hSw; (try dsimp only at hSw); go_simp; try with_reducible rfl
  simp only [Act.put, List.setIfInBounds_toArray, List.set_cons_zero, List.set_cons_succ]
  refine wpAnyH_take (i := 10) (oi := { dst := some 76, op := _, type := _, pos := _, after := _, guard := none }) (v := ?v10) rfl (by kernel_rfl) (by kernel_rfl) (by kernel_rfl) (fun _ _ _ h => h) (Or.inl ⟨by rfl, ?y10⟩) (by assumption) ?r10
  case y10 => intro w hSw; (try dsimp only at hSw); go_simp; try with_reducible rfl
  simp only [Act.put, List.setIfInBounds_toArray, List.set_cons_zero, List.set_cons_succ]
  refine wpAnyH_take (i := 11) (oi := { dst := some 77, op := _, type := _, pos := _, after := _, guard := none }) (v := ?v11) rfl (by kernel_rfl) (by kernel_rfl) (by kernel_rfl) (fun _ _ _ h => h) (Or.inl ⟨by rfl, ?y11⟩) (by assumption) ?r11
  case y11 => intro w hSw; (try dsimp only at hSw); go_simp; try with_reducible rfl
  simp only [Act.put, List.setIfInBounds_toArray, List.set_cons_zero, List.set_cons_succ]
  refine wpAnyH_take (i := 12) (oi := { dst := some 78, op := _, type := _, pos := _, after := _, guard := none }) (v := ?v12) rfl (by kernel_rfl) (by kernel_rfl) (by kernel_rfl) (fun _ _ _ h => h) (Or.inl ⟨by rfl, ?y12⟩) (by assumption) ?r12
  case y12 => intro w hSw; (try dsimp only at hSw); go_simp; try with_reducible rfl
  simp only [Act.put, List.setIfInBounds_toArray, List.set_cons_zero, List.set_cons_succ]
  refine wpAnyH_take (i := 13) (oi := { dst := some 79, op := _, type := _, pos := _, after := _, guard := none }) (v := ?v13) rfl (by kernel_rfl) (by kernel_rfl) (by kernel_rfl) (fun _ _ _ h => h) (Or.inl ⟨by rfl, ?y13⟩) (by assumption) ?r13
  case y13 => intro w hSw; (try dsimp only at hSw); go_simp; try with_reducible rfl
  simp only [Act.put, List.setIfInBounds_toArray, List.set_cons_zero, List.set_cons_succ]
  refine wpAnyH_take (i := 14) (oi := { dst := some 80, op := _, type := _, pos := _, after := _, guard := none }) (v := ?v14) rfl (by kernel_rfl) (by kernel_rfl) (by kernel_rfl) (fun _ _ _ h => h) (Or.inl ⟨by rfl, ?y14⟩) (by assumption) ?r14
  case y14 => intro w hSw; (try dsimp only at hSw); go_simp; try with_reducible rfl
  simp only [Act.put, List.setIfInBounds_toArray, List.set_cons_zero, List.set_cons_succ]
  refine wpAnyH_take (i := 15) (oi := { dst := some 81, op := _, type := _, pos := _, after := _, guard := none }) (v := ?v15) rfl (by kernel_rfl) (by kernel_rfl) (by kernel_rfl) (fun _ _ _ h => h) (Or.inl ⟨by rfl, ?y15⟩) (by assumption) ?r15
  case y15 => intro w hSw; (try dsimp only at hSw); go_simp; try with_reducible rfl
  simp only [Act.put, List.setIfInBounds_toArray, List.set_cons_zero, List.set_cons_succ]
  refine wpAnyH_take (i := 16) (oi := { dst := some 82, op := _, type := _, pos := _, after := _, guard := none }) (v := ?v16) rfl (by kernel_rfl) (by kernel_rfl) (by kernel_rfl) (fun _ _ _ h => h) (Or.inl ⟨by rfl, ?y16⟩) (by assumption) ?r16
  case y16 => intro w hSw; (try dsimp only at hSw); go_simp; try with_reducible rfl
  simp only [Act.put, List.setIfInBounds_toArray, List.set_cons_zero, List.set_cons_succ]
  refine wpAnyH_take (i := 17) (oi := { dst := some 83, op := _, type := _, pos := _, after := _, guard := none }) (v := ?v17) rfl (by kernel_rfl) (by kernel_rfl) (by kernel_rfl) (fun _ _ _ h => h) (Or.inl ⟨by rfl, ?y17⟩) (by assumption) ?r17
  case y17 => intro w hSw; (try dsimp only at hSw); go_simp; try with_reducible rfl
  simp only [Act.put, List.setIfInBounds_toArray, List.set_cons_zero, List.set_cons_succ]
  refine wpAnyH_take (i := 18) (oi := { dst := some 84, op := _, type := _, pos := _, after := _, guard := none }) (v := ?v18) rfl (by kernel_rfl) (by kernel_rfl) (by kernel_rfl) (fun _ _ _ h => h) (Or.inl ⟨by rfl, ?y18⟩) (by assumption) ?r18
  case y18 => intro w hSw; (try dsimp only at hSw); go_simp; try with_reducible rfl
  simp only [Act.put, List.setIfInBounds_toArray, List.set_cons_zero, List.set_cons_succ]
  refine wpAnyH_take (i := 19) (oi := { dst := some 85, op := _, type := _, pos := _, after := _, guard := none }) (v := ?v19) rfl (by kernel_rfl) (by kernel_rfl) (by kernel_rfl) (fun _ _ _ h => h) (Or.inl ⟨by rfl, ?y19⟩) (by assumption) ?r19
  case y19 => intro w hSw; (try dsimp only at hSw); go_simp; try with_reducible rfl
  simp only [Act.put, List.setIfInBounds_toArray, List.set_cons_zero, List.set_cons_succ]
  refine wpAnyH_take (i := 20) (oi := { dst := some 86, op := _, type := _, pos := _, after := _, guard := none }) (v := ?v20) rfl (by kernel_rfl) (by kernel_rfl) (by kernel_rfl) (fun _ _ _ h => h) (Or.inl ⟨by rfl, ?y20⟩) (by assumption) ?r20
  case y20 => intro w hSw; (try dsimp only at hSw); go_simp; try with_reducible rfl
  simp only [Act.put, List.setIfInBounds_toArray, List.set_cons_zero, List.set_cons_succ]
  refine wpAnyH_take (i := 21) (oi := { dst := some 87, op := _, type := _, pos := _, after := _, guard := none }) (v := ?v21) rfl (by kernel_rfl) (by kernel_rfl) (by kernel_rfl) (fun _ _ _ h => h) (Or.inl ⟨by rfl, ?y21⟩) (by assumption) ?r21
  case y21 => intro w hSw; (try dsimp only at hSw); go_simp; try with_reducible rfl
  simp only [Act.put, List.setIfInBounds_toArray, List.set_cons_zero, List.set_cons_succ]
  refine wpAnyH_take (i := 22) (oi := { dst := some 88, op := _, type := _, pos := _, after := _, guard := none }) (v := ?v22) rfl (by kernel_rfl) (by kernel_rfl) (by kernel_rfl) (fun _ _ _ h => h) (Or.inl ⟨by rfl, ?y22⟩) (by assumption) ?r22
  case y22 => intro w hSw; (try dsimp only at hSw); go_simp; try with_reducible rfl
  simp only [Act.put, List.setIfInBounds_toArray, List.set_cons_zero, List.set_cons_succ]
  refine wpAnyH_take (i := 23) (oi := { dst := some 89, op := _, type := _, pos := _, after := _, guard := none }) (v := ?v23) rfl (by kernel_rfl) (by kernel_rfl) (by kernel_rfl) (fun _ _ _ h => h) (Or.inl ⟨by rfl, ?y23⟩) (by assumption) ?r23
  case y23 => intro w hSw; (try dsimp only at hSw); go_simp; try with_reducible rfl
  simp only [Act.put, List.setIfInBounds_toArray, List.set_cons_zero, List.set_cons_succ]
  replace hb0 : Below w.heap.size w W1.drew := hb0.drew
  replace hlt0 : w.heap.size < W1.drew.heap.size := hlt0
  replace hk0 : Blk W1.drew w.heap.size _ 35 := hk0
  replace hb1 : Row W1.drew 1 (some ⟨b, off, none⟩) n C (xs.map u8v) := hb1
  replace hbb : b < W1.drew.heap.size := hbb
  clear c1 c24
  obtain ⟨c1, c24⟩ := hHeld
  generalize W1.drew = W2 at *
  simp only [tid_form HS.out, seq_form Hsq.out, go_bit3, go_bit5, go_bit4]
  have hrow := hb1.cut (n := 26) (by omega)
  generalize (if C = 26 then some (⟨b, off, none⟩ : Addr) else some ⟨b, off + 26, none⟩) = PA at *
  rw [← List.map_drop] at hrow
  refine wpAnyH_ready (rs := [24, 26]) (by kernel_rfl) (by simp) ?_
  refine AllReadyH.cons (o := { dst := some 90, op := _, type := _, pos := _, after := _, guard := none }) rfl (fun K hK => ?_) (AllReadyH.cons (o := { dst := some 5, op := _, type := _, pos := _, after := _, guard := none }) rfl (fun K hK => ?_) AllReadyH.nil)
  · go_simp
    refine (clone_any PA (n - 26) (C - 26) (xs.drop 26) _ hrow (by omega)).mono ?_
    rintro e w2 ⟨⟨A2, n2, C2, rfl, hown, hb2⟩, -⟩
    go_wp2_with fail
    refine hK.out _ _ ?_ (fun hHeld => ?_)
    · exact ⟨(hb2.cell (p := ⟨b, off + 1, none⟩) hbb).trans c1, (hb2.cell (p := ⟨b, off + 24, none⟩) hbb).trans c24⟩
    refine wpAnyH_take (i := 25) (oi := { dst := some 91, op := _, type := _, pos := _, after := _, guard := none }) (v := ?v25) rfl (by kernel_rfl) (by kernel_rfl) (by kernel_rfl) (fun _ _ _ h => h) (Or.inl ⟨by rfl, ?y25⟩) (by assumption) ?r25
    case y25 => intro w hSw; clear hSw; go_simp; try with_reducible rfl
    simp only [Act.put, List.setIfInBounds_toArray, List.set_cons_zero, List.set_cons_succ]
    refine wpAnyH_ready (rs := [26]) (by kernel_rfl) (by simp) ?_
    refine AllReadyH.cons (o := { dst := some 5, op := _, type := _, pos := _, after := _, guard := none }) rfl (fun K hK => ?_) AllReadyH.nil
    go_simp
    have hbA : Below w.heap.size w w2 := hb0.trans (hb2.mono (by omega))
    have hkA := (hk0.below hb2 (by omega))
    have hrA := hb1.belowAt hb2 (fun b' e => by simp [blk] at e; omega)
    have hbbA : b < w2.heap.size := by have := hb2.size; omega
    have hltA : w.heap.size < w2.heap.size := by have := hb2.size; omega
    have hszA : W2.heap.size ≤ w2.heap.size := hb2.size
    refine hK.out _ (w2.alloc (.cells z0 35)) ⟨(World.cell?_alloc_lt _ _ _ hbbA).trans hHeld.1, (World.cell?_alloc_lt _ _ _ hbbA).trans hHeld.2⟩ (fun hHeld => ?_)
    refine wpAnyH_ready (rs := [27]) (by kernel_rfl) (by simp) ?_
    refine AllReadyH.cons (o := { dst := none, op := _, type := _, pos := _, after := _, guard := none }) rfl (fun K hK => as_wanted rfl (wp_store_blk _ _ _ _ rfl w2.heap.size (qcells (fun _ => 0) (rdTid x24) (rdSeq x22 x23) (bitAt x1 3) (bitAt x1 5) (bitAt x24 4) A2 n2 C2) rfl rfl 35 z0 (Blk.new w2 z0 35) (by kernel_rfl) rfl (qcells_one _ _ _ _ _ _ _ _ _) ?_)) AllReadyH.nil
    intro W hkf hgf
    refine hK.out _ _ ?_ (fun _ => ?_)
    · exact ⟨(hgf.cell hHeld.1 (by simp; omega)), (hgf.cell hHeld.2 (by simp; omega))⟩
    simp only [Act.put, List.setIfInBounds_toArray, List.set_cons_zero, List.set_cons_succ]
    refine wpAnyH_done (by kernel_rfl) ?_ _
    have hkr : Blk W w.heap.size _ 35 := Blk.grown (hkA.alloc _) hgf (by simp; omega)
    have hrowb : Row W 1 (some ⟨b, off, none⟩) n C (xs.map u8v) := Row.grown (hrA.alloc _) hgf (by simp [blk]; omega)
    have hownf : OwnU8 W w.heap.size A2 n2 C2 (xs.drop 26) := (OwnU8.keep (hown.alloc _) hgf (by right; intro e; exact (OwnU8.ne_blk (hown.alloc _) (Blk.new w2 z0 35) (by decide)) e.symm)).base_le (by omega)
    have hbel : Below w.heap.size w W := Below.grown (hbA.alloc (by omega) _) hgf (by simp; omega) (by simp; omega)
    have hpb : w.heap.size < w2.heap.size := hltA
    have hbpb : b ≠ w2.heap.size := by omega
    generalize w2.heap.size = pb at *
    have g4 : (4 : Int) ≤ n := by omega
    have g10 : (10 : Int) ≤ n := by omega
    have g16 : (16 : Int) ≤ n := by omega
    have wz0 : IntKind.i64.wrap 0 = 0 := by decide
    have wz6 : IntKind.i64.wrap 6 = 6 := by decide
    have wz12 : IntKind.i64.wrap 12 = 12 := by decide
    have wz4 : IntKind.i64.wrap 4 = 4 := by decide
    have wz10 : IntKind.i64.wrap 10 = 10 := by decide
    have wz16 : IntKind.i64.wrap 16 = 16 := by decide
    have hC4 : ¬ C = 4 := by omega
    have hC10 : ¬ C = 10 := by omega
    have hC16 : ¬ C = 16 := by omega
    go_wp2_with fail
    rename_i KE hKend
    have HK := Lib.hid hKend
    clear hKend
    have hkf0 := hkf
    have hkp := Blk.new W #[.pointer (some ⟨pb, 0, none⟩), .pointer (some ⟨pb, 6, none⟩), .pointer (some ⟨pb, 12, none⟩)] 100
    replace hkf := hkf.alloc (.cells #[.pointer (some ⟨pb, 0, none⟩), .pointer (some ⟨pb, 6, none⟩), .pointer (some ⟨pb, 12, none⟩)] 100)
    replace hkr := hkr.alloc (.cells #[.pointer (some ⟨pb, 0, none⟩), .pointer (some ⟨pb, 6, none⟩), .pointer (some ⟨pb, 12, none⟩)] 100)
    replace hrowb := hrowb.alloc (.cells #[.pointer (some ⟨pb, 0, none⟩), .pointer (some ⟨pb, 6, none⟩), .pointer (some ⟨pb, 12, none⟩)] 100)
    replace hownf := hownf.alloc (.cells #[.pointer (some ⟨pb, 0, none⟩), .pointer (some ⟨pb, 6, none⟩), .pointer (some ⟨pb, 12, none⟩)] 100)
    have hgp : pb < W.heap.size := hkf0.lt
    have hW : w.heap.size ≤ W.heap.size := by omega
    replace hbel := hbel.alloc (by omega) (.cells #[.pointer (some ⟨pb, 0, none⟩), .pointer (some ⟨pb, 6, none⟩), .pointer (some ⟨pb, 12, none⟩)] 100)
    clear hkf0 hgf hown hb2 hb0 hbA hkA hrA hk0 hb1 c1 c24 hrow hb hHeld hbb hlt0
    generalize W.alloc _ = W3 at *
    generalize W.heap.size = pp at *
    go_loopw [97] (fun i wr => ∃ k : Nat, k ≤ 3 ∧ i = .int .i64 k ∧ Blk wr pb (qcells (fun i => if i < 6 * k then rdA xs i else 0) (rdTid x24) (rdSeq x22 x23) (bitAt x1 3) (bitAt x1 5) (bitAt x24 4) A2 n2 C2) 35 ∧
      Blk wr pp #[.pointer (some ⟨pb, 0, none⟩), .pointer (some ⟨pb, 6, none⟩), .pointer (some ⟨pb, 12, none⟩)] 100 ∧ Blk wr w.heap.size z0 35 ∧ Row wr 1 (some ⟨b, off, none⟩) n C (xs.map u8v) ∧
      OwnU8 wr w.heap.size A2 n2 C2 (xs.drop 26) ∧ Below w.heap.size w wr) (fun i _ => 3 - (intOf i).toNat)
    case atStart => exact ⟨0, by omega, rfl, hkf, hkp, hkr, hrowb, hownf, hbel⟩
    case round =>
      obtain ⟨k, hk, rfl, hkx, hpx, hrx, hrowx, hownx, hbx⟩ := hrel
      rcases (show k = 3 ∨ k = 0 ∨ k = 1 ∨ k = 2 by omega) with h3 | h0 | h1 | h2
      · subst h3
        go_wp2_with fail
        refine HK.out _ _ ?_
        have hq : qcells (fun i => if i < 6 * 3 then rdA xs i else 0) (rdTid x24) (rdSeq x22 x23) (bitAt x1 3) (bitAt x1 5) (bitAt x24 4) A2 n2 C2 = qcells (rdA xs) (rdTid x24) (rdSeq x22 x23) (bitAt x1 3) (bitAt x1 5) (bitAt x24 4) A2 n2 C2 := by kernel_rfl
        rw [hq] at hkx
        apply wp_seq_k; intro KS hKS
        apply wp_region_lit
        refine wpList_load_blk wr (by rfl) _ _ rfl pb rfl 35 _ _ hkx Tryd.underlying35 rfl (by kernel_rfl) ?_
        refine wpList_store_blk wr (by rfl) _ _ _ rfl w.heap.size _ rfl rfl 35 z0 hrx (by kernel_rfl) rfl (qcells_one _ _ _ _ _ _ _ _ _) ?_
        intro w4 hk4 hg4
        go_wp2_with fail
        exact ret_cell_tmp rfl _ _ (qcells (rdA xs) (rdTid x24) (rdSeq x22 x23) (bitAt x1 3) (bitAt x1 5) (bitAt x24 4) A2 n2 C2) .nilIface rfl hk4 (by kernel_rfl) (by kernel_rfl) rfl rfl
          ⟨A2, n2, C2, rfl, OwnU8.keep hownx hg4 (by right; intro e; exact (OwnU8.ne_blk hownx hrx (by decide)) e.symm), hbx.grown hg4 hbx.size (by simp)⟩
      · subst h0
        have d0 : wr.cell? ⟨pp, 0, none⟩ = some (.pointer (some ⟨pb, 0, none⟩)) := hpx.cell 0
        go_wp2_with fail
        go_region_held3 (fun _ => True) (trivial) ((refine step_copy_blk rfl _ _ _ _ rfl 5 ?h1_1 ?h2_1 pb 0 6 6 ?h3_1 ⟨b, off + (4 + 0), none⟩ (n - 4) (C - 4) ?h4_1 _ (qcells (fun i => if i < 6 * 1 then rdA xs i else 0) (rdTid x24) (rdSeq x22 x23) (bitAt x1 3) (bitAt x1 5) (bitAt x24 4) A2 n2 C2) _ [u8v (rdA xs 0), u8v (rdA xs 1), u8v (rdA xs 2), u8v (rdA xs 3), u8v (rdA xs 4), u8v (rdA xs 5)] hkx.drew ?h5_1 (head_src hrowx.drew hlen 0 (by omega)) ?h6_1 ?h7_1 ?h8_1 ?h9_1; (case h1_1 => kernel_rfl); (case h2_1 => kernel_rfl); (case h3_1 => rfl); (case h4_1 => rfl); (case h5_1 => (show 6 = min (n - 4) 6 ; (try omega))); (case h6_1 => (show 0 + 6 ≤ 24 ; (try decide))); (case h7_1 => simp [u8v, Value.oneCell']); (case h8_1 => kernel_rfl); intro w3 hkn hgn))
        go_wp2_with fail
        go_roundw
        case rel => exact ⟨1, by omega, rfl, hkn, hpx.drew.grown hgn (by simp; omega), hrx.drew.grown hgn (by simp; omega), hrowx.drew.grown hgn (by simp [blk]; omega), OwnU8.keep (w := wr.drew) hownx hgn (by right; intro e; exact (OwnU8.ne_blk hownx hkx (by decide)) e.symm), hbx.drew.grown hgn (by have := hbx.size; exact this) (by simp; omega)⟩
        case measure => simp [intOf]
      · subst h1
        have d0 : wr.cell? ⟨pp, 1, none⟩ = some (.pointer (some ⟨pb, 6, none⟩)) := hpx.cell 1
        go_wp2_with fail
        go_region_held3 (fun _ => True) (trivial) ((refine step_copy_blk rfl _ _ _ _ rfl 5 ?h1_2 ?h2_2 pb 6 6 6 ?h3_2 ⟨b, off + (4 + 6), none⟩ (n - 10) (C - 10) ?h4_2 _ (qcells (fun i => if i < 6 * 2 then rdA xs i else 0) (rdTid x24) (rdSeq x22 x23) (bitAt x1 3) (bitAt x1 5) (bitAt x24 4) A2 n2 C2) _ [u8v (rdA xs 6), u8v (rdA xs 7), u8v (rdA xs 8), u8v (rdA xs 9), u8v (rdA xs 10), u8v (rdA xs 11)] hkx.drew ?h5_2 (head_src hrowx.drew hlen 6 (by omega)) ?h6_2 ?h7_2 ?h8_2 ?h9_2; (case h1_2 => kernel_rfl); (case h2_2 => kernel_rfl); (case h3_2 => rfl); (case h4_2 => rfl); (case h5_2 => (show 6 = min (n - 10) 6 ; (try omega))); (case h6_2 => (show 6 + 6 ≤ 24 ; (try decide))); (case h7_2 => simp [u8v, Value.oneCell']); (case h8_2 => kernel_rfl); intro w3 hkn hgn))
        go_wp2_with fail
        go_roundw
        case rel => exact ⟨2, by omega, rfl, hkn, hpx.drew.grown hgn (by simp; omega), hrx.drew.grown hgn (by simp; omega), hrowx.drew.grown hgn (by simp [blk]; omega), OwnU8.keep (w := wr.drew) hownx hgn (by right; intro e; exact (OwnU8.ne_blk hownx hkx (by decide)) e.symm), hbx.drew.grown hgn (by have := hbx.size; exact this) (by simp; omega)⟩
        case measure => simp [intOf]
      · subst h2
        have d0 : wr.cell? ⟨pp, 2, none⟩ = some (.pointer (some ⟨pb, 12, none⟩)) := hpx.cell 2
        go_wp2_with fail
        go_region_held3 (fun _ => True) (trivial) ((refine step_copy_blk rfl _ _ _ _ rfl 5 ?h1_3 ?h2_3 pb 12 6 6 ?h3_3 ⟨b, off + (4 + 12), none⟩ (n - 16) (C - 16) ?h4_3 _ (qcells (fun i => if i < 6 * 3 then rdA xs i else 0) (rdTid x24) (rdSeq x22 x23) (bitAt x1 3) (bitAt x1 5) (bitAt x24 4) A2 n2 C2) _ [u8v (rdA xs 12), u8v (rdA xs 13), u8v (rdA xs 14), u8v (rdA xs 15), u8v (rdA xs 16), u8v (rdA xs 17)] hkx.drew ?h5_3 (head_src hrowx.drew hlen 12 (by omega)) ?h6_3 ?h7_3 ?h8_3 ?h9_3; (case h1_3 => kernel_rfl); (case h2_3 => kernel_rfl); (case h3_3 => rfl); (case h4_3 => rfl); (case h5_3 => (show 6 = min (n - 16) 6 ; (try omega))); (case h6_3 => (show 12 + 6 ≤ 24 ; (try decide))); (case h7_3 => simp [u8v, Value.oneCell']); (case h8_3 => kernel_rfl); intro w3 hkn hgn))
        go_wp2_with fail
        go_roundw
        case rel => exact ⟨3, by omega, rfl, hkn, hpx.drew.grown hgn (by simp; omega), hrx.drew.grown hgn (by simp; omega), hrowx.drew.grown hgn (by simp [blk]; omega), OwnU8.keep (w := wr.drew) hownx hgn (by right; intro e; exact (OwnU8.ne_blk hownx hkx (by decide)) e.symm), hbx.drew.grown hgn (by have := hbx.size; exact this) (by simp; omega)⟩
        case measure => simp [intOf]

  · go_simp
    have hb0B : Below w.heap.size w (W2.alloc (.cells z0 35)) := hb0.alloc (by omega) _
    have hkB := Blk.new W2 z0 35
    have hk0B := hk0.alloc (.cells z0 35)
    have hb1B := hb1.alloc (.cells z0 35)
    have hrowB := hrow.alloc (.cells z0 35)
    have hltB : W2.heap.size < (W2.alloc (.cells z0 35)).heap.size := hkB.lt
    refine hK.out _ (W2.alloc (.cells z0 35)) ⟨(World.cell?_alloc_lt _ _ _ hbb).trans c1, (World.cell?_alloc_lt _ _ _ hbb).trans c24⟩ (fun hHeld => ?_)
    try simp only [Act.put, List.setIfInBounds_toArray, List.set_cons_zero, List.set_cons_succ]
    clear hk0 hb1 hrow c1 c24 hb0 hK
    have hwm : w.heap.size < W2.heap.size := hlt0
    have hbm : b < W2.heap.size := hbb
    generalize W2.alloc _ = W4 at *
    generalize W2.heap.size = pb at *
    refine wpAnyH_ready (rs := [24]) (by kernel_rfl) (by simp) ?_
    refine AllReadyH.cons (o := { dst := some 90, op := _, type := _, pos := _, after := _, guard := none }) rfl (fun K hK => ?_) AllReadyH.nil
    go_simp
    refine (clone_any PA (n - 26) (C - 26) (xs.drop 26) _ hrowB (by omega)).mono ?_
    rintro e w2 ⟨⟨A2, n2, C2, rfl, hown, hb2⟩, -⟩
    go_wp2_with fail
    have hbbB : b < W4.heap.size := by omega
    refine hK.out _ _ ?_ (fun hHeld2 => ?_)
    · exact ⟨(hb2.cell (p := ⟨b, off + 1, none⟩) hbbB).trans hHeld.1, (hb2.cell (p := ⟨b, off + 24, none⟩) hbbB).trans hHeld.2⟩
    clear hHeld
    refine wpAnyH_take (i := 25) (oi := { dst := some 91, op := _, type := _, pos := _, after := _, guard := none }) (v := ?v25b) rfl (by kernel_rfl) (by kernel_rfl) (by kernel_rfl) (fun _ _ _ h => h) (Or.inl ⟨by rfl, ?y25b⟩) (by assumption) ?r25b
    case y25b => intro w hSw; clear hSw; go_simp; try with_reducible rfl
    try simp only [Act.put, List.setIfInBounds_toArray, List.set_cons_zero, List.set_cons_succ]
    have hbA : Below w.heap.size w w2 := hb0B.trans (hb2.mono (by omega))
    have hkA := hk0B.below hb2 (by omega)
    have hkC := hkB.below hb2 hltB
    have hrA := hb1B.belowAt hb2 (fun b' e => by simp [blk] at e; omega)
    have hszA : W4.heap.size ≤ w2.heap.size := hb2.size
    refine wpAnyH_ready (rs := [27]) (by kernel_rfl) (by simp) ?_
    refine AllReadyH.cons (o := { dst := none, op := _, type := _, pos := _, after := _, guard := none }) rfl (fun K hK => as_wanted rfl (wp_store_blk _ _ _ _ rfl pb (qcells (fun _ => 0) (rdTid x24) (rdSeq x22 x23) (bitAt x1 3) (bitAt x1 5) (bitAt x24 4) A2 n2 C2) rfl rfl 35 z0 hkC (by kernel_rfl) rfl (qcells_one _ _ _ _ _ _ _ _ _) ?_)) AllReadyH.nil
    intro W hkf hgf
    refine hK.out _ _ ?_ (fun _ => ?_)
    · exact ⟨(hgf.cell hHeld2.1 (by simp; omega)), (hgf.cell hHeld2.2 (by simp; omega))⟩
    simp only [Act.put, List.setIfInBounds_toArray, List.set_cons_zero, List.set_cons_succ]
    refine wpAnyH_done (by kernel_rfl) ?_ _
    have hkr : Blk W w.heap.size _ 35 := Blk.grown hkA hgf (by simp; omega)
    have hrowb : Row W 1 (some ⟨b, off, none⟩) n C (xs.map u8v) := Row.grown hrA hgf (by simp [blk]; omega)
    have hownf : OwnU8 W w.heap.size A2 n2 C2 (xs.drop 26) := (OwnU8.keep hown hgf (by right; intro e; exact (OwnU8.ne_blk hown hkC (by decide)) e.symm)).base_le (by omega)
    have hbel : Below w.heap.size w W := Below.grown hbA hgf (by omega) (by simp; omega)
    have hpb : w.heap.size < pb := hwm
    have hbpb : b ≠ pb := by omega
    have g4 : (4 : Int) ≤ n := by omega
    have g10 : (10 : Int) ≤ n := by omega
    have g16 : (16 : Int) ≤ n := by omega
    have wz0 : IntKind.i64.wrap 0 = 0 := by decide
    have wz6 : IntKind.i64.wrap 6 = 6 := by decide
    have wz12 : IntKind.i64.wrap 12 = 12 := by decide
    have wz4 : IntKind.i64.wrap 4 = 4 := by decide
    have wz10 : IntKind.i64.wrap 10 = 10 := by decide
    have wz16 : IntKind.i64.wrap 16 = 16 := by decide
    have hC4 : ¬ C = 4 := by omega
    have hC10 : ¬ C = 10 := by omega
    have hC16 : ¬ C = 16 := by omega
    go_wp2_with fail
    rename_i KE hKend
    have HK := Lib.hid hKend
    clear hKend
    have hkf0 := hkf
    have hkp := Blk.new W #[.pointer (some ⟨pb, 0, none⟩), .pointer (some ⟨pb, 6, none⟩), .pointer (some ⟨pb, 12, none⟩)] 100
    replace hkf := hkf.alloc (.cells #[.pointer (some ⟨pb, 0, none⟩), .pointer (some ⟨pb, 6, none⟩), .pointer (some ⟨pb, 12, none⟩)] 100)
    replace hkr := hkr.alloc (.cells #[.pointer (some ⟨pb, 0, none⟩), .pointer (some ⟨pb, 6, none⟩), .pointer (some ⟨pb, 12, none⟩)] 100)
    replace hrowb := hrowb.alloc (.cells #[.pointer (some ⟨pb, 0, none⟩), .pointer (some ⟨pb, 6, none⟩), .pointer (some ⟨pb, 12, none⟩)] 100)
    replace hownf := hownf.alloc (.cells #[.pointer (some ⟨pb, 0, none⟩), .pointer (some ⟨pb, 6, none⟩), .pointer (some ⟨pb, 12, none⟩)] 100)
    have hgp : pb < W.heap.size := hkf0.lt
    have hW : w.heap.size ≤ W.heap.size := by omega
    replace hbel := hbel.alloc (by omega) (.cells #[.pointer (some ⟨pb, 0, none⟩), .pointer (some ⟨pb, 6, none⟩), .pointer (some ⟨pb, 12, none⟩)] 100)
    clear hkf0 hgf hown hb2 hb0B hbA hkA hrA hk0B hb1B hrowB hkB hkC hb hHeld2 hbb hlt0
    generalize W.alloc _ = W3 at *
    generalize W.heap.size = pp at *
    go_loopw [97] (fun i wr => ∃ k : Nat, k ≤ 3 ∧ i = .int .i64 k ∧ Blk wr pb (qcells (fun i => if i < 6 * k then rdA xs i else 0) (rdTid x24) (rdSeq x22 x23) (bitAt x1 3) (bitAt x1 5) (bitAt x24 4) A2 n2 C2) 35 ∧
      Blk wr pp #[.pointer (some ⟨pb, 0, none⟩), .pointer (some ⟨pb, 6, none⟩), .pointer (some ⟨pb, 12, none⟩)] 100 ∧ Blk wr w.heap.size z0 35 ∧ Row wr 1 (some ⟨b, off, none⟩) n C (xs.map u8v) ∧
      OwnU8 wr w.heap.size A2 n2 C2 (xs.drop 26) ∧ Below w.heap.size w wr) (fun i _ => 3 - (intOf i).toNat)
    case atStart => exact ⟨0, by omega, rfl, hkf, hkp, hkr, hrowb, hownf, hbel⟩
    case round =>
      obtain ⟨k, hk, rfl, hkx, hpx, hrx, hrowx, hownx, hbx⟩ := hrel
      rcases (show k = 3 ∨ k = 0 ∨ k = 1 ∨ k = 2 by omega) with h3 | h0 | h1 | h2
      · subst h3
        go_wp2_with fail
        refine HK.out _ _ ?_
        have hq : qcells (fun i => if i < 6 * 3 then rdA xs i else 0) (rdTid x24) (rdSeq x22 x23) (bitAt x1 3) (bitAt x1 5) (bitAt x24 4) A2 n2 C2 = qcells (rdA xs) (rdTid x24) (rdSeq x22 x23) (bitAt x1 3) (bitAt x1 5) (bitAt x24 4) A2 n2 C2 := by kernel_rfl
        rw [hq] at hkx
        apply wp_seq_k; intro KS hKS
        apply wp_region_lit
        refine wpList_load_blk wr (by rfl) _ _ rfl pb rfl 35 _ _ hkx Tryd.underlying35 rfl (by kernel_rfl) ?_
        refine wpList_store_blk wr (by rfl) _ _ _ rfl w.heap.size _ rfl rfl 35 z0 hrx (by kernel_rfl) rfl (qcells_one _ _ _ _ _ _ _ _ _) ?_
        intro w4 hk4 hg4
        go_wp2_with fail
        exact ret_cell_tmp rfl _ _ (qcells (rdA xs) (rdTid x24) (rdSeq x22 x23) (bitAt x1 3) (bitAt x1 5) (bitAt x24 4) A2 n2 C2) .nilIface rfl hk4 (by kernel_rfl) (by kernel_rfl) rfl rfl
          ⟨A2, n2, C2, rfl, OwnU8.keep hownx hg4 (by right; intro e; exact (OwnU8.ne_blk hownx hrx (by decide)) e.symm), hbx.grown hg4 hbx.size (by simp)⟩
      · subst h0
        have d0 : wr.cell? ⟨pp, 0, none⟩ = some (.pointer (some ⟨pb, 0, none⟩)) := hpx.cell 0
        go_wp2_with fail
        go_region_held3 (fun _ => True) (trivial) ((refine step_copy_blk rfl _ _ _ _ rfl 5 ?h1_1b ?h2_1b pb 0 6 6 ?h3_1b ⟨b, off + (4 + 0), none⟩ (n - 4) (C - 4) ?h4_1b _ (qcells (fun i => if i < 6 * 1 then rdA xs i else 0) (rdTid x24) (rdSeq x22 x23) (bitAt x1 3) (bitAt x1 5) (bitAt x24 4) A2 n2 C2) _ [u8v (rdA xs 0), u8v (rdA xs 1), u8v (rdA xs 2), u8v (rdA xs 3), u8v (rdA xs 4), u8v (rdA xs 5)] hkx.drew ?h5_1b (head_src hrowx.drew hlen 0 (by omega)) ?h6_1b ?h7_1b ?h8_1b ?h9_1b; (case h1_1b => kernel_rfl); (case h2_1b => kernel_rfl); (case h3_1b => rfl); (case h4_1b => rfl); (case h5_1b => (show 6 = min (n - 4) 6 ; (try omega))); (case h6_1b => (show 0 + 6 ≤ 24 ; (try decide))); (case h7_1b => simp [u8v, Value.oneCell']); (case h8_1b => kernel_rfl); intro w3 hkn hgn))
        go_wp2_with fail
        go_roundw
        case rel => exact ⟨1, by omega, rfl, hkn, hpx.drew.grown hgn (by simp; omega), hrx.drew.grown hgn (by simp; omega), hrowx.drew.grown hgn (by simp [blk]; omega), OwnU8.keep (w := wr.drew) hownx hgn (by right; intro e; exact (OwnU8.ne_blk hownx hkx (by decide)) e.symm), hbx.drew.grown hgn (by have := hbx.size; exact this) (by simp; omega)⟩
        case measure => simp [intOf]
      · subst h1
        have d0 : wr.cell? ⟨pp, 1, none⟩ = some (.pointer (some ⟨pb, 6, none⟩)) := hpx.cell 1
        go_wp2_with fail
        go_region_held3 (fun _ => True) (trivial) ((refine step_copy_blk rfl _ _ _ _ rfl 5 ?h1_2b ?h2_2b pb 6 6 6 ?h3_2b ⟨b, off + (4 + 6), none⟩ (n - 10) (C - 10) ?h4_2b _ (qcells (fun i => if i < 6 * 2 then rdA xs i else 0) (rdTid x24) (rdSeq x22 x23) (bitAt x1 3) (bitAt x1 5) (bitAt x24 4) A2 n2 C2) _ [u8v (rdA xs 6), u8v (rdA xs 7), u8v (rdA xs 8), u8v (rdA xs 9), u8v (rdA xs 10), u8v (rdA xs 11)] hkx.drew ?h5_2b (head_src hrowx.drew hlen 6 (by omega)) ?h6_2b ?h7_2b ?h8_2b ?h9_2b; (case h1_2b => kernel_rfl); (case h2_2b => kernel_rfl); (case h3_2b => rfl); (case h4_2b => rfl); (case h5_2b => (show 6 = min (n - 10) 6 ; (try omega))); (case h6_2b => (show 6 + 6 ≤ 24 ; (try decide))); (case h7_2b => simp [u8v, Value.oneCell']); (case h8_2b => kernel_rfl); intro w3 hkn hgn))
        go_wp2_with fail
        go_roundw
        case rel => exact ⟨2, by omega, rfl, hkn, hpx.drew.grown hgn (by simp; omega), hrx.drew.grown hgn (by simp; omega), hrowx.drew.grown hgn (by simp [blk]; omega), OwnU8.keep (w := wr.drew) hownx hgn (by right; intro e; exact (OwnU8.ne_blk hownx hkx (by decide)) e.symm), hbx.drew.grown hgn (by have := hbx.size; exact this) (by simp; omega)⟩
        case measure => simp [intOf]
      · subst h2
        have d0 : wr.cell? ⟨pp, 2, none⟩ = some (.pointer (some ⟨pb, 12, none⟩)) := hpx.cell 2
        go_wp2_with fail
        go_region_held3 (fun _ => True) (trivial) ((refine step_copy_blk rfl _ _ _ _ rfl 5 ?h1_3b ?h2_3b pb 12 6 6 ?h3_3b ⟨b, off + (4 + 12), none⟩ (n - 16) (C - 16) ?h4_3b _ (qcells (fun i => if i < 6 * 3 then rdA xs i else 0) (rdTid x24) (rdSeq x22 x23) (bitAt x1 3) (bitAt x1 5) (bitAt x24 4) A2 n2 C2) _ [u8v (rdA xs 12), u8v (rdA xs 13), u8v (rdA xs 14), u8v (rdA xs 15), u8v (rdA xs 16), u8v (rdA xs 17)] hkx.drew ?h5_3b (head_src hrowx.drew hlen 12 (by omega)) ?h6_3b ?h7_3b ?h8_3b ?h9_3b; (case h1_3b => kernel_rfl); (case h2_3b => kernel_rfl); (case h3_3b => rfl); (case h4_3b => rfl); (case h5_3b => (show 6 = min (n - 16) 6 ; (try omega))); (case h6_3b => (show 12 + 6 ≤ 24 ; (try decide))); (case h7_3b => simp [u8v, Value.oneCell']); (case h8_3b => kernel_rfl); intro w3 hkn hgn))
        go_wp2_with fail
        go_roundw
        case rel => exact ⟨3, by omega, rfl, hkn, hpx.drew.grown hgn (by simp; omega), hrx.drew.grown hgn (by simp; omega), hrowx.drew.grown hgn (by simp [blk]; omega), OwnU8.keep (w := wr.drew) hownx hgn (by right; intro e; exact (OwnU8.ne_blk hownx hkx (by decide)) e.symm), hbx.drew.grown hgn (by have := hbx.size; exact this) (by simp; omega)⟩
        case measure => simp [intOf]

end Go.Proofs.YtoagmehgiaamlaaDoor

namespace Go.Proofs.YtoagmehgiaamlaaDoor
open Go.ChangeShapes Go.WideShapes Go.ChangeAt Go.RowKit
set_option linter.unusedVariables false

theorem rowP_nil (w : World) : RowP w none 0 0 [] := ⟨rfl, [], row_nil _ _, fun i u x hu _ => by simp at hu⟩
theorem rowP_one (w : World) (A : Option Addr) (n C : Nat) (x : List UInt8) (hn : x.length = n) (h : Row w 1 A n C (x.map u8v)) (t : TypeId) : RowP (w.alloc (.cells #[.slice A n C] t)) (some ⟨w.heap.size, 0, none⟩) 1 1 [x] := by
  subst hn
  refine ⟨rfl, [.slice A x.length C], row_one w _ t, fun i u y hu hy => ?_⟩
  rcases i with _ | i
  · simp at hu hy
    subst hu hy
    exact ⟨A, C, rfl, h.alloc _⟩
  · simp at hu
theorem rowP_two (w : World) (A A2 : Option Addr) (n C n2 C2 : Nat) (x y : List UInt8) (hn : x.length = n) (h : Row w 1 A n C (x.map u8v)) (hn2 : y.length = n2) (h2 : Row w 1 A2 n2 C2 (y.map u8v)) (t : TypeId) : RowP (w.alloc (.cells #[.slice A n C, .slice A2 n2 C2] t)) (some ⟨w.heap.size, 0, none⟩) 2 2 [x, y] := by
  subst hn hn2
  refine ⟨rfl, [.slice A x.length C, .slice A2 y.length C2], ?_, fun i u z hu hz => ?_⟩
  · rcases row_new w #[.slice A x.length C, .slice A2 y.length C2] t with h | h
    · exact h
    · simp [maxLen] at h
  · rcases i with _ | _ | i
    · simp at hu hz
      subst hu hz
      exact ⟨A, C, rfl, h.alloc _⟩
    · simp at hu hz
      subst hu hz
      exact ⟨A2, C2, rfl, h2.alloc _⟩
    · simp at hu
theorem row_three8 (w : World) (a b c : UInt8) (t : TypeId) : Row (w.alloc (.cells #[.int .u8 (a.toNat : Int), .int .u8 (b.toNat : Int), .int .u8 (c.toNat : Int)] t)) 1 (some ⟨w.heap.size, 0, none⟩) 3 3 ([a, b, c].map u8v) := by
  rcases row_new w #[.int .u8 (a.toNat : Int), .int .u8 (b.toNat : Int), .int .u8 (c.toNat : Int)] t with h | h
  · exact h
  · simp [maxLen] at h

theorem agg_pack (L : List (List UInt8)) : aggP (lensP L) = ((packP L).length : Int) := by
  refine snoc_ind (P := fun L => aggP (lensP L) = ((packP L).length : Int)) rfl (fun L x ih => ?_) L
  show _ = _
  rw [lens_snoc rfl, agg_snoc, ih, pack_snoc]
  simp only [List.length_append, pad4_len, delim_len, aggS, upP]
  have := up4_le (packP L).length
  unfold up4 at *
  omega
theorem flat_rep (x : List UInt8) (k : Nat) : ((List.replicate k x).flatMap encp).length = k * (4 + up4 x.length) := by
  induction k with
  | zero => simp
  | succ k ih => rw [List.replicate_succ, List.flatMap_cons, List.length_append, ih, encp_len, Nat.succ_mul]; omega
theorem pack_rep (x : List UInt8) (k : Nat) : (packP (List.replicate (k + 1) x)).length = k * (4 + up4 x.length) + 4 + x.length := by
  rw [List.replicate_succ', pack_last, List.length_append, flat_rep, enc_len]; omega
theorem packR_yes {L : List (List UInt8)} (hg : goodL L) (h0 : L ≠ []) (h1 : L.length ≤ 64) (h2 : (packP L).length ≤ 65535) : packR L = .ok (packP L) := by
  rw [packR, if_neg, if_neg h0, if_neg]
  · rw [agg_pack]; omega
  · rw [List.any_eq_true]
    rintro ⟨x, hx, hb⟩
    obtain ⟨a, b⟩ := hg x hx
    simp only [badX, Bool.or_eq_true, decide_eq_true_eq] at hb
    omega
theorem packR_many {L : List (List UInt8)} (hg : goodL L) (h0 : L ≠ []) (h1 : 64 < L.length ∨ 65535 < (packP L).length) : packR L = .error 3 := by
  rw [packR, if_neg, if_neg h0, if_pos]
  · rw [agg_pack]; omega
  · rw [List.any_eq_true]
    rintro ⟨x, hx, hb⟩
    obtain ⟨a, b⟩ := hg x hx
    simp only [badX, Bool.or_eq_true, decide_eq_true_eq] at hb
    omega
theorem packR_bad {L : List (List UInt8)} (x : List UInt8) (hx : x ∈ L) (hb : badX x = true) : packR L = .error 2 := by
  rw [packR, if_pos (List.any_eq_true.2 ⟨x, hx, hb⟩)]
theorem packR_nil : packR [] = .error 2 := rfl
theorem packR_take_err {w w' : World} {E : Nat → Addr} {r : Except Nat (List UInt8)} {e : Ending} (h : PackR w E r e w') {i : Nat} (hr : r = .error i) : e = .returned (.tuple #[.slice none 0 0, errV E i]) ∧ Below w.heap.size w w' := by
  subst hr; exact h
theorem packR_take_ok {w w' : World} {E : Nat → Addr} {r : Except Nat (List UInt8)} {e : Ending} (h : PackR w E r e w') {b : List UInt8} (hr : r = .ok b) : ∃ A C, e = .returned (.tuple #[.slice A b.length C, .nilIface]) ∧ OwnU8 w' w.heap.size A b.length C b ∧ Below w.heap.size w w' := by
  subst hr; exact h
end Go.Proofs.YtoagmehgiaamlaaDoor

namespace Go.Proofs.YtoagmehgiaamlaaDoor
open Go.ChangeShapes Go.WideShapes Go.ChangeAt Go.RowKit
set_option linter.unusedVariables false

/-- what is read of bytes that are a frame -/
def QRead (xs : List UInt8) (a : Nat → UInt8) (tid seq : Int) (r m e : Bool) (body : List UInt8) : Prop :=
  rdErr xs = none → a = rdA xs ∧ tid = rdTid (xs.getD 24 0) ∧ seq = rdSeq (xs.getD 22 0) (xs.getD 23 0) ∧ r = bitAt (xs.getD 1 0) 3 ∧ m = bitAt (xs.getD 1 0) 5 ∧ e = bitAt (xs.getD 24 0) 4 ∧ body = xs.drop 26

theorem qosRead_any (A : Option Addr) (n C : Nat) (xs : List UInt8) (w : World) {E : Nat → Addr} (hE : Errs [0, 1, 2, 4] w E) (hb : Row w 1 A n C (xs.map u8v)) :
    Calls Tryd.prog 26 #[.slice A n C] w fun en w' => ∃ a tid seq r m e A2 n2 C2 body, en = .returned (.tuple #[qv a tid seq r m e A2 n2 C2, errO E (rdErr xs)]) ∧
      OwnU8 w' w.heap.size A2 n2 C2 body ∧ QRead xs a tid seq r m e body ∧ Below w.heap.size w w' := by
  cases h : rdErr xs with
  | none =>
    refine (qosRead_yes A n C xs w hb h).mono ?_
    rintro en w' ⟨A2, n2, C2, rfl, ho, hbw⟩
    exact ⟨_, _, _, _, _, _, A2, n2, C2, _, rfl, ho, fun _ => ⟨rfl, rfl, rfl, rfl, rfl, rfl, rfl⟩, hbw⟩
  | some i =>
    refine (qosRead_no A n C xs w hE hb i h).mono ?_
    rintro en w' ⟨rfl, hbw⟩
    refine ⟨fun _ => 0, 0, 0, false, false, false, none, 0, 0, [], rfl, ownU8_nil _ _, fun hn => ?_, hbw⟩
    rw [h] at hn; cases hn

theorem rdErr_in {xs : List UInt8} (i : Nat) (h : rdErr xs = some i) : i ∈ [0, 1, 2, 4] := by
  unfold rdErr at h
  split at h
  · injection h with h; subst h; decide
  · split at h
    · injection h with h; subst h; decide
    · split at h
      · injection h with h; subst h; decide
      · split at h
        · injection h with h; subst h; decide
        · cases h
theorem rdErr_all {xs : List UInt8} (i : Nat) (h : rdErr xs = some i) : i ∈ allErr := by
  have := rdErr_in i h
  simp only [List.mem_cons, List.not_mem_nil, or_false] at this
  rcases this with rfl | rfl | rfl | rfl <;> decide

theorem qhead_end (tid : Int) (e : Bool) (h0 : 0 ≤ tid) (h1 : tid < 8) : (UInt8.ofNat (qtid tid e)).toNat = tid.toNat + (if e then 16 else 0) := by
  have := qtid_lt h0 h1 e
  rw [UInt8.toNat_ofNat']; unfold qtid at *; omega

/-- the error of a frame's bytes whose first two may be turned, and whose rest may be anything -/
theorem rdErr_turned (a : Nat → UInt8) (tid seq : Int) (r m e : Bool) (rest : List UInt8) (h0 : 0 ≤ tid) (h1 : tid < 8) (x y : UInt8) :
    rdErr (x :: y :: ((qhead a tid seq r m e).drop 2 ++ rest)) =
      if x ≠ 0x88 then some 4 else if (y == 2 || y == 10 || y == 34 || y == 42) = false then some 1 else if 1500 < rest.length then some 2 else none := by
  have hl : (x :: y :: ((qhead a tid seq r m e).drop 2 ++ rest)).length = 26 + rest.length := by
    simp [qhead, addrs]; omega
  have ht := qhead_end tid e h0 h1
  have hs : shapeOk y 0 0 (UInt8.ofNat (seq.toNat * 16 % 256)) (UInt8.ofNat (qtid tid e)) 0 = (y == 2 || y == 10 || y == 34 || y == 42) := by
    unfold shapeOk
    rw [ht, UInt8.toNat_ofNat']
    have g : (seq.toNat * 16 % 256) % 2 ^ 8 % 16 = 0 := by omega
    rw [g]
    cases e
    · have : tid.toNat < 8 := by omega
      simp [this]
    · have : ¬ tid.toNat + 16 < 8 := by omega
      have h2 : tid.toNat + 16 < 24 := by omega
      have h3 : 16 ≤ tid.toNat + 16 := by omega
      simp [this, h2, h3]
  unfold rdErr
  rw [if_neg (by rw [hl]; omega), hl]
  have e0 : (x :: y :: ((qhead a tid seq r m e).drop 2 ++ rest)).getD 0 0 = x := rfl
  have e1 : (x :: y :: ((qhead a tid seq r m e).drop 2 ++ rest)).getD 1 0 = y := rfl
  have e2 : (x :: y :: ((qhead a tid seq r m e).drop 2 ++ rest)).getD 2 0 = 0 := rfl
  have e3 : (x :: y :: ((qhead a tid seq r m e).drop 2 ++ rest)).getD 3 0 = 0 := rfl
  have e22 : (x :: y :: ((qhead a tid seq r m e).drop 2 ++ rest)).getD 22 0 = UInt8.ofNat (seq.toNat * 16 % 256) := rfl
  have e24 : (x :: y :: ((qhead a tid seq r m e).drop 2 ++ rest)).getD 24 0 = UInt8.ofNat (qtid tid e) := rfl
  have e25 : (x :: y :: ((qhead a tid seq r m e).drop 2 ++ rest)).getD 25 0 = 0 := rfl
  rw [e0, e1, e2, e3, e22, e24, e25, hs]
  by_cases hr : 1500 < rest.length
  · rw [if_pos (show 1526 < 26 + rest.length by omega), if_pos hr]
  · rw [if_neg (show ¬ 1526 < 26 + rest.length by omega), if_neg hr]

theorem qflags_form (r m : Bool) : (UInt8.ofNat (qflags r m) == 2 || UInt8.ofNat (qflags r m) == 10 || UInt8.ofNat (qflags r m) == 34 || UInt8.ofNat (qflags r m) == 42) = true := by
  cases r <;> cases m <;> decide
/-- the error of a frame's own bytes with more behind them -/
theorem rdErr_own (a : Nat → UInt8) (tid seq : Int) (r m e : Bool) (rest : List UInt8) (h0 : 0 ≤ tid) (h1 : tid < 8) :
    rdErr (qhead a tid seq r m e ++ rest) = if 1500 < rest.length then some 2 else none := by
  have := rdErr_turned a tid seq r m e rest h0 h1 0x88 (UInt8.ofNat (qflags r m))
  rw [if_neg (by simp), if_neg (by rw [qflags_form]; simp)] at this
  exact this
theorem rdErr_short {xs : List UInt8} (h : xs.length < 26) : rdErr xs = some 0 := by unfold rdErr; rw [if_pos h]
theorem u8_of_wf {z : Int} (h : (Lit.int .u8 z).wf = true) : ∃ x : UInt8, z = (x.toNat : Int) := by
  have hb := bounds_u8 h
  refine ⟨UInt8.ofNat z.toNat, ?_⟩
  rw [UInt8.toNat_ofNat']
  omega
theorem Row.pre {w : World} {A : Option Addr} {len cap : Nat} {vs : List Value} (h : Row w 1 A len cap vs) {k : Nat} (hk : k ≤ len) : Row w 1 A k cap (vs.take k) := by
  obtain ⟨h1, h2, h3, h4, h5⟩ := h
  refine ⟨by simp; omega, by omega, h3, h4, fun hl => ?_⟩
  obtain ⟨b, off, e, hb, hc⟩ := h5 (by omega)
  refine ⟨b, off, e, hb, fun i u hu => hc i u ?_⟩
  rw [List.getElem?_take] at hu
  split at hu
  · exact hu
  · cases hu
end Go.Proofs.YtoagmehgiaamlaaDoor

namespace Go.Proofs.YtoagmehgiaamlaaDoor
open Go.ChangeShapes Go.WideShapes Go.ChangeAt Go.RowKit
set_option linter.unusedVariables false

theorem RowP.at2 {w : World} {A : Option Addr} {n C : Nat} {L : List (List UInt8)} {k : Nat} {x : List UInt8} (h : RowP w A n C L) (hx : L[k]? = some x) : ∃ b off A' C', A = some ⟨b, off, none⟩ ∧ b < w.heap.size ∧ w.cell? ⟨b, off + k, none⟩ = some (.slice A' x.length C') ∧ Row w 1 A' x.length C' (x.map u8v) := by
  have hk : k < n := by rw [h.1]; exact (List.getElem?_eq_some_iff.1 hx).1
  obtain ⟨b, off, y, A', C', e1, e2, e3, e4, e5⟩ := h.at_ hk
  rw [hx] at e3
  injection e3 with e3
  subst e3
  exact ⟨b, off, A', C', e1, e2, e4, e5⟩
theorem RowP.len_le {w : World} {A : Option Addr} {n C : Nat} {L : List (List UInt8)} (h : RowP w A n C L) : n ≤ C ∧ C ≤ 9223372036854775807 := by
  obtain ⟨h1, vs, h2, h3⟩ := h
  exact h2.len_cap

set_option maxHeartbeats 1600000 in
theorem sameParts_yes (A1 A2 : Option Addr) (n C1 C2 : Nat) (L : List (List UInt8)) (w : World) (h1 : RowP w A1 n C1 L) (h2 : RowP w A2 n C2 L) :
    Calls Tryd.prog 41 #[.slice A1 n C1, .slice A2 n C2] w fun e w' => e = .returned (.bool true) ∧ Below w.heap.size w w' := by
  have hm := h1.len_le
  have HL := Lib.hid h1.1
  have H1 := Lib.hid h1
  have H2 := Lib.hid h2
  clear h1 h2
  go_enter Tryd.func41, Tryd.ntmps41
  go_wp2_with fail
  go_loopw [5] (fun i wr => ∃ k : Nat, k ≤ n ∧ i = .int .i64 k ∧ RowP wr A1 n C1 L ∧ RowP wr A2 n C2 L ∧ Below w.heap.size w wr) (fun i _ => n - (intOf i).toNat)
  case atStart => exact ⟨0, Nat.zero_le _, rfl, H1.out, H2.out, Below.refl _ _⟩
  case round =>
    obtain ⟨k, hk, rfl, hr1, hr2, hb⟩ := hrel
    have R1 := Lib.hid hr1
    have R2 := Lib.hid hr2
    have HB := Lib.hid hb
    clear hr1 hr2 hb H1 H2
    by_cases hkn : k < n
    · obtain ⟨x, hx⟩ : ∃ x, L[k]? = some x := ⟨_, List.getElem?_eq_getElem (by rw [← HL.out]; exact hkn)⟩
      obtain ⟨b1, o1, A3, C3, rfl, l1, e0, r1⟩ := R1.out.at2 hx
      obtain ⟨b2, o2, A4, C4, rfl, l2, f0, r2⟩ := R2.out.at2 hx
      have zB := HB.out.size
      have HT := Lib.hid (show sameB x x = true by simp [sameB])
      have HC := Lib.hid (sameBytes_any A3 x.length C3 x A4 x.length C4 x wr.drew r1.drew r2.drew)
      clear hx r1 r2
      generalize x.length = nx at *
      go_wp2_with fail
      go_region_held3 (fun y => y.cell? ⟨b1, o1 + k, none⟩ = some (.slice A3 nx C3) ∧ y.cell? ⟨b2, o2 + k, none⟩ = some (.slice A4 nx C4))
        (first | exact ⟨e0, f0⟩ | exact ⟨(bw.cell (p := ⟨b1, _, none⟩) l1).trans e0, (bw.cell (p := ⟨b2, _, none⟩) l2).trans f0⟩)
        ((go_at_call 15; refine HC.out.mono ?_; rintro e wa ⟨rfl, hh⟩; have bw : Below wr.heap.size wr wa := (by obtain ⟨n, rfl⟩ := hh; exact (Below.drew (Below.refl _ wr)).trans (below_drewN _)); clear hh))
      rw [HT.out]
      have R1' := Lib.hid (R1.out.below bw (Nat.le_refl _))
      have R2' := Lib.hid (R2.out.below bw (Nat.le_refl _))
      have HB' := Lib.hid (HB.out.trans (bw.mono zB))
      clear bw e0 f0
      go_wp2_with fail
      go_roundw
      case rel => exact ⟨k + 1, by omega, by go_num, R1'.out, R2'.out, HB'.out⟩
      case measure => simp [intOf]; omega
    · go_wp2_with fail
      go_ret
      exact ⟨rfl, HB.out⟩
end Go.Proofs.YtoagmehgiaamlaaDoor

namespace Go.Proofs.YtoagmehgiaamlaaDoor
open Go.ChangeShapes Go.WideShapes Go.ChangeAt Go.RowKit
set_option linter.unusedVariables false

/-- what the document's Parts gives back -/
def RPartsR (w : World) (r : Except Nat (List (List UInt8))) (e : Ending) (w' : World) : Prop := match r with
  | .error i => e = .returned (.tuple #[.slice none 0 0, .int .i64 (101 + (i : Int))]) ∧ Below w.heap.size w w'
  | .ok L => ∃ v, e = .returned (.tuple #[v, .int .i64 0]) ∧ OwnP w' w.heap.size v L ∧ Below w.heap.size w w'
theorem rparts_err {w w' : World} {r : Except Nat (List (List UInt8))} {i : Nat} {c : Int} (h : r = .error i) (hc : c = 101 + (i : Int)) {e : Ending} (he : e = .returned (.tuple #[.slice none 0 0, .int .i64 c])) (hb : Below w.heap.size w w') : RPartsR w r e w' := by
  subst h hc; exact ⟨he, hb⟩
theorem rparts_ok {w w' : World} {r : Except Nat (List (List UInt8))} {L : List (List UInt8)} (h : r = .ok L) {e : Ending} {v : Value} (he : e = .returned (.tuple #[v, .int .i64 0])) (ho : OwnP w' w.heap.size v L) (hb : Below w.heap.size w w') : RPartsR w r e w' := by
  subst h; exact ⟨v, he, ho, hb⟩
theorem any_next (s : List UInt8) (f : UInt8 → Bool) (t : Nat) (h : t < s.length) : (s.take (t + 1)).any f = ((s.take t).any f || f (s.getD t 0)) := by
  rw [List.take_succ_eq_append_getElem h, List.any_append, List.getD_eq_getElem?_getD, List.getElem?_eq_getElem h]
  simp
theorem any_hit (s : List UInt8) (f : UInt8 → Bool) (t m : Nat) (h : t < s.length) (hm : t < m) (hf : f (s.getD t 0) = true) : (s.take m).any f = true := by
  rw [List.getD_eq_getElem?_getD, List.getElem?_eq_getElem h, Option.getD_some] at hf
  refine List.any_eq_true.2 ⟨s[t], ?_, hf⟩
  rw [List.mem_iff_getElem?]
  exact ⟨t, by rw [List.getElem?_take, if_pos hm, List.getElem?_eq_getElem h]⟩

set_option maxRecDepth 100000 in
set_option maxHeartbeats 3000000 in
theorem refParts_any {w : World} (A : Option Addr) (n C : Nat) (b : List UInt8) (h : Row w 1 A n C (b.map u8v)) (hn : n ≤ 1048576) :
    Calls Tryd.prog 33 #[.slice A n C] w fun e w' => RPartsR w (partsP b) e w' := by
  have hm := h.len_cap
  have H := Lib.hid h
  have HBL := Lib.hid (show b.length = n by simpa using h.1)
  clear h
  go_enter Tryd.func33, Tryd.ntmps33
  by_cases hn0 : n = 0
  case pos =>
    subst hn0
    have hb : b = [] := List.eq_nil_of_length_eq_zero HBL.out
    have HP := Lib.hid (show partsP b = .error 1 by rw [hb]; rfl)
    clear hb
    go_wp2_with fail
    go_ret2
    exact rparts_err HP.out rfl rfl (Below.refl _ _)
  case neg =>
  have hb : b ≠ [] := by intro e; have := HBL.out; rw [e] at this; exact hn0 this.symm
  have HBN := Lib.hid hb
  have e0 : ((n : Int) == 0) = false := by simp; omega
  clear hb
  go_wp2_with fail
  clear e0
  go_loopw [4, 5] (fun out at_ wr => ∃ (k : Nat) (L : List (List UInt8)), at_ = .int .i64 k ∧ k ≤ n ∧ (k % 4 = 0 ∨ k = n) ∧ OwnP wr w.heap.size out L ∧ L.length ≤ k ∧ ptsP b = thenP L (ptsP (b.drop k)) ∧ Below w.heap.size w wr)
    (fun _ at_ _ => n - (intOf at_).toNat)
  case atStart => exact ⟨0, [], rfl, Nat.zero_le _, .inl rfl, ownP_nil _ _, by simp, (then_nil _).symm, Below.refl _ _⟩
  case round =>
    obtain ⟨k, L, rfl, hk, hk4, ho, hLk, hU, hb⟩ := hrel
    have HO := Lib.hid ho
    have HU := Lib.hid hU
    have HB := Lib.hid hb
    have HK4 := Lib.hid hk4
    have zB := hb.size
    clear ho hU hb hk4
    by_cases hkn : k < n
    case neg =>
      obtain rfl : k = n := by omega
      have HP := Lib.hid (show ptsP b = .ok L by rw [HU.out, List.drop_of_length_le (by rw [HBL.out]; exact Nat.le_refl _), pts_nil]; simp [thenP])
      obtain ⟨Ao, Co, vs, rfl, how⟩ := HO.out
      have HOW := Lib.hid (show OwnP wr w.heap.size (.slice Ao L.length Co) L from ⟨Ao, Co, vs, rfl, how⟩)
      clear how
      by_cases q1 : 64 < L.length
      case pos =>
        have HF := Lib.hid (parts_many HBN.out HP.out (.inl q1))
        go_wp2_with fail
        go_ret2
        exact rparts_err HF.out rfl rfl HB.out
      case neg =>
      by_cases q2 : 65535 < k
      case pos =>
        have HF := Lib.hid (parts_many HBN.out HP.out (.inr (by rw [HBL.out]; exact q2)))
        go_wp2_with fail
        go_ret2
        exact rparts_err HF.out rfl rfl HB.out
      case neg =>
        have HF := Lib.hid (parts_ok HBN.out HP.out (by rw [HBL.out]; omega))
        go_wp2_with fail
        go_ret2
        exact rparts_ok HF.out rfl HOW.out HB.out
    case pos =>
    have hdl : (b.drop k).length = n - k := by rw [List.length_drop, HBL.out]
    have hdn : b.drop k ≠ [] := by intro e; rw [e] at hdl; simp at hdl; omega
    have HERR := Lib.hid (fun (i : Nat) (hp : partP (b.drop k) = .error i) => (show partsP b = .error i from parts_err HBN.out (by rw [HU.out, pts_err hdn hp]; rfl)))
    by_cases h4 : k + 4 ≤ n
    case neg =>
      have HF := Lib.hid (HERR.out 0 (by unfold partP; rw [if_pos (by rw [hdl]; omega)]))
      clear HERR hdl hdn
      go_wp2_with fail
      go_ret2
      exact rparts_err HF.out rfl rfl HB.out
    case pos =>
    have HRW := Lib.hid (H.out.below HB.out (Nat.le_refl _))
    obtain ⟨bb, off, rfl, hlt, -⟩ := HRW.out.at_ (by omega)
    obtain ⟨x0, x1, x2, x3, t, hr⟩ := four_of (r := b.drop k) (by rw [hdl]; omega)
    have HD := row_drop8 HRW.out (k := k) (by omega)
    have hCk : ¬ C = k := by omega
    have htl : t.length = n - k - 4 := by
      rw [hr] at hdl
      simp only [List.length_cons] at hdl
      omega
    rw [if_neg hCk, hr] at HD
    have c0 := cell4 HD (j := 0) (by omega)
    have c1 := cell4 HD (j := 1) (by omega)
    have c2 := cell4 HD (j := 2) (by omega)
    have c3 := cell4 HD (j := 3) (by omega)
    simp only [Nat.add_zero, List.getD_cons_zero, List.getD_cons_succ] at c0 c1 c2 c3
    have HS2 := Lib.hid (row_take8 HD (k := 2) (by omega))
    have HN := Lib.hid (fun m => num_any bb (off + k) 4 (C - k) x0 x1 (wr.drewN m) (by omega) c0 c1)
    have HP := Lib.hid (part_doc x0 x1 x2 x3 t)
    have HRD := Lib.hid hr
    have HTD := Lib.hid (show t = b.drop (k + 4) by rw [← List.drop_drop, hr]; rfl)
    have e15 : bits .and .u8 (x0.toNat : Int) 15 = ((x0.toNat % 16 : Nat) : Int) := and15 x0
    have hx0 := UInt8.toNat_lt x0
    have hx1 := UInt8.toNat_lt x1
    have hx2 := UInt8.toNat_lt x2
    have hx3 := UInt8.toNat_lt x3
    obtain ⟨v, hv⟩ : ∃ v, x0.toNat + 256 * x1.toNat = v := ⟨_, rfl⟩
    rw [hv] at HN HP
    obtain ⟨q, hqv⟩ : ∃ q, v / 16 = q := ⟨_, rfl⟩
    rw [hqv] at HP
    obtain ⟨lo, hlo⟩ : ∃ lo, x0.toNat % 16 = lo := ⟨_, rfl⟩
    rw [hlo] at HP e15
    have hq1 : q ≤ 4095 := by omega
    have eq1 : (v : Int) / 16 = (q : Int) := by omega
    have hv6 : v < 65536 := by omega
    rw [hr] at HERR
    have HSUM := Lib.hid (show ∀ m, Calls Tryd.prog 44 #[.slice (some ⟨bb, off + k, none⟩) 2 (C - k)] (wr.drewN m) fun e w'' => e = .returned (.int .u8 ((Crc.sum [x0, x1]).toNat : Int)) ∧ ∃ n, w'' = wr.drewN n from fun m => quiet_same (refSum_any _ _ _ _ _ (HS2.out.drewN m)))
    have j0 : (0 : Int) < 4 := by omega
    have j2 : (2 : Int) < 4 := by omega
    have j3 : (3 : Int) < 4 := by omega
    have jc : (2 : Int) ≤ (C : Int) - (k : Int) := by omega
    have jC : ((C - k : Nat) : Int) = (C : Int) - (k : Int) := by omega
    clear hv hqv HD hlo hdl hdn hr
    by_cases q1 : Crc.sum [x0, x1] = x2
    case neg =>
      have HF := Lib.hid (HERR.out 5 (by rw [HP.out]; rw [if_pos q1]))
      have g1 : (((Crc.sum [x0, x1]).toNat : Int) != (x2.toNat : Int)) = true := by rw [bne, u8_eq]; simpa using q1
      clear HERR q1
      go_wp2_with fail
      go_quiet ((go_at_call 44; (with_reducible exact HSUM.out _)))
      go_wp2_with fail
      go_ret2
      exact rparts_err HF.out rfl rfl (HB.out.trans (by first | exact below_drewN _ | exact (below_drewN _).trans (below_drewN _)))
    case pos =>
    by_cases q2 : x3 = 78
    case neg =>
      have HF := Lib.hid (HERR.out 1 (by rw [HP.out]; rw [if_neg (by simpa using q1), if_pos (.inl q2)]))
      have g1 : (((Crc.sum [x0, x1]).toNat : Int) != (x2.toNat : Int)) = false := by rw [bne, u8_eq]; simpa using q1
      have g2 : ((x3.toNat : Int) != 78) = true := by rw [show (78 : Int) = ((78 : UInt8).toNat : Int) from rfl, bne, u8_eq]; simpa using q2
      clear HERR q1 q2
      go_wp2_with fail
      go_quiet ((go_at_call 44; (with_reducible exact HSUM.out _)))
      go_wp2_with fail
      refine (HN.out _).mono ?_
      rintro e w1 ⟨rfl, m1, rfl⟩
      go_wp2_with fail
      go_ret2
      exact rparts_err HF.out rfl rfl (HB.out.trans (by first | exact below_drewN _ | exact (below_drewN _).trans (below_drewN _)))
    case pos =>
    by_cases q3 : lo = 0
    case neg =>
      have HF := Lib.hid (HERR.out 1 (by rw [HP.out]; rw [if_neg (by simpa using q1), if_pos (.inr (.inl q3))]))
      have g1 : (((Crc.sum [x0, x1]).toNat : Int) != (x2.toNat : Int)) = false := by rw [bne, u8_eq]; simpa using q1
      have g2 : ((x3.toNat : Int) != 78) = false := by rw [show (78 : Int) = ((78 : UInt8).toNat : Int) from rfl, bne, u8_eq]; simpa using q2
      have g3 : ((lo : Int) != 0) = true := by simp; omega
      clear HERR q1 q2 q3
      go_wp2_with fail
      go_quiet ((go_at_call 44; (with_reducible exact HSUM.out _)))
      go_wp2_with fail
      refine (HN.out _).mono ?_
      rintro e w1 ⟨rfl, m1, rfl⟩
      go_wp2_with fail
      go_ret2
      exact rparts_err HF.out rfl rfl (HB.out.trans (by first | exact below_drewN _ | exact (below_drewN _).trans (below_drewN _)))
    case pos =>
    by_cases q4 : 0 < q
    case neg =>
      have HF := Lib.hid (HERR.out 1 (by rw [HP.out]; rw [if_neg (by simpa using q1), if_pos (.inr (.inr (by omega)))]))
      have g1 : (((Crc.sum [x0, x1]).toNat : Int) != (x2.toNat : Int)) = false := by rw [bne, u8_eq]; simpa using q1
      have g2 : ((x3.toNat : Int) != 78) = false := by rw [show (78 : Int) = ((78 : UInt8).toNat : Int) from rfl, bne, u8_eq]; simpa using q2
      have g3 : ((lo : Int) != 0) = false := by simp; omega
      have g4 : ((q : Int) == 0) = true := by simp; omega
      clear HERR q1 q2 q3
      go_wp2_with fail
      go_quiet ((go_at_call 44; (with_reducible exact HSUM.out _)))
      go_wp2_with fail
      refine (HN.out _).mono ?_
      rintro e w1 ⟨rfl, m1, rfl⟩
      go_wp2_with fail
      go_ret2
      exact rparts_err HF.out rfl rfl (HB.out.trans (by first | exact below_drewN _ | exact (below_drewN _).trans (below_drewN _)))
    case pos =>
    by_cases q5 : q ≤ n - k - 4
    case neg =>
      have HF := Lib.hid (HERR.out 0 (by rw [HP.out]; rw [if_neg (by simpa using q1), if_neg (by rintro (h | h | h); exact h q2; exact h q3; omega), if_pos (by rw [htl]; omega)]))
      have g1 : (((Crc.sum [x0, x1]).toNat : Int) != (x2.toNat : Int)) = false := by rw [bne, u8_eq]; simpa using q1
      have g2 : ((x3.toNat : Int) != 78) = false := by rw [show (78 : Int) = ((78 : UInt8).toNat : Int) from rfl, bne, u8_eq]; simpa using q2
      have g3 : ((lo : Int) != 0) = false := by simp; omega
      have g4 : ((q : Int) == 0) = false := by simp; omega
      have g5 : decide ((n : Int) - ((k : Int) + 4) < (q : Int)) = true := by simp; omega
      clear HERR q1 q2 q3
      go_wp2_with fail
      go_quiet ((go_at_call 44; (with_reducible exact HSUM.out _)))
      go_wp2_with fail
      refine (HN.out _).mono ?_
      rintro e w1 ⟨rfl, m1, rfl⟩
      go_wp2_with fail
      go_ret2
      exact rparts_err HF.out rfl rfl (HB.out.trans (by first | exact below_drewN _ | exact (below_drewN _).trans (below_drewN _)))
    case pos =>
      have g1 : (((Crc.sum [x0, x1]).toNat : Int) != (x2.toNat : Int)) = false := by rw [bne, u8_eq]; simpa using q1
      have g2 : ((x3.toNat : Int) != 78) = false := by rw [show (78 : Int) = ((78 : UInt8).toNat : Int) from rfl, bne, u8_eq]; simpa using q2
      have g3 : ((lo : Int) != 0) = false := by simp; omega
      have g4 : ((q : Int) == 0) = false := by simp; omega
      have g5 : decide ((n : Int) - ((k : Int) + 4) < (q : Int)) = false := by simp; omega
      have hok : partP (x0 :: x1 :: x2 :: x3 :: t) = .ok (t.take q) := by rw [HP.out, if_neg (by simpa using q1), if_neg (by rintro (h | h | h); exact h q2; exact h q3; omega), if_neg (by rw [htl]; omega)]
      obtain ⟨x, hx⟩ : ∃ x, t.take q = x := ⟨_, rfl⟩
      have hxl : x.length = q := by rw [← hx, List.length_take]; omega
      rw [hx] at hok
      subst hxl
      have HD4 := row_take8 (row_drop8 HRW.out (k := k + 4) (by omega)) (k := x.length) (by omega)
      have hC4 : ¬ C = k + 4 := by omega
      rw [if_neg hC4, ← HTD.out, hx] at HD4
      have HBY := Lib.hid (fun m => bytes_any _ _ _ x (wr.drewN m) (HD4.drewN m) (by omega))
      rw [← HRD.out] at hok
      obtain ⟨p, hp⟩ : ∃ p, k + 4 + x.length = p := ⟨_, rfl⟩
      have hpn : p ≤ n := by omega
      obtain ⟨m, hmin⟩ : ∃ m, min (n - p) (up4 x.length - x.length) = m := ⟨_, rfl⟩
      have HSD := Lib.hid (show (b.drop k).drop (4 + x.length) = b.drop p by rw [List.drop_drop, ← hp]; congr 1; omega)
      have HTH := pts_three (k1 := n - p) (m := m) HU.out hok (by rw [List.length_drop, HBL.out]; omega) (by rw [List.length_drop, HBL.out]; omega) hmin
      rw [HSD.out, List.drop_drop] at HTH
      have HT1 := Lib.hid HTH.1
      have HT2 := Lib.hid HTH.2.1
      have HT3 := Lib.hid HTH.2.2
      have hmp : (∀ t, t < m → ¬ (p + t) % 4 = 0) ∧ m ≤ n - p ∧ ((p + m) % 4 = 0 ∨ p + m = n) ∧ m ≤ 3 := by
        rcases HK4.out with h | h
        · unfold up4 at hmin; refine ⟨fun t ht => ?_, ?_, ?_, ?_⟩ <;> omega
        · omega
      obtain ⟨hm1, hm2, hm3, hm4⟩ := hmp
      have HM1 := Lib.hid hm1
      have HM3 := Lib.hid hm3
      have HPE := Lib.hid hp
      clear hp
      clear HERR q1 q2 q3 HD4 hok hx hmin HTH hm1 hm3
      go_wp2_with fail
      go_quiet ((go_at_call 44; (with_reducible exact HSUM.out _)))
      go_wp2_with fail
      refine (HN.out _).mono ?_
      rintro e w1 ⟨rfl, m1, rfl⟩
      go_wp2_with fail
      refine (HBY.out _).mono ?_
      rintro e w1 ⟨A2, n2, C2, rfl, hown, hb1⟩
      obtain rfl : n2 = x.length := hown.len.symm
      have ep : (k : Int) + 4 + (x.length : Int) = (p : Int) := by have := HPE.out; omega
      have HB1 := Lib.hid (HB.out.trans (Below.mono (Below.trans (below_drewN _) hb1) zB))
      have HO1 := Lib.hid (HO.out.below (Below.trans (below_drewN _) hb1) (Nat.le_refl _))
      have HY1 := Lib.hid (OwnU8.base_le hown zB)
      have z1 := HB1.out.size
      clear hown hb1
      go_wp2_with (at_builtin; refine append_part _ rfl (.tmp 58) (.tmp 66) rfl w.heap.size L (HO1.out.alloc _) (by omega) A2 C2 x (HY1.out.alloc _) w1.heap.size rfl (row_slice _ _ _) (by simp; omega) ?_; intro v' w2 ho2 hsh hb2 hk2; obtain ⟨A5, C5, rfl⟩ := hsh; have HO2 := Lib.hid ho2; have HB2 := Lib.hid ((HB1.out.alloc z1 _).trans hb2); clear ho2 hb2 hk2)
      have hlen : (L ++ [x]).length = L.length + 1 := by simp
      have HRX := Lib.hid (H.out.below HB2.out (Nat.le_refl _))
      clear c0 c1 c2 c3 hq1 eq1 hv6 j0 j2 j3 jc jC e15 hx0 hx1 hx2 hx3 g1 g2 g3 g4 g5 ep
      go_loopw [5] (fun at_ wi => ∃ u t : Nat, u = p + t ∧ at_ = .int .i64 u ∧ t ≤ m ∧ ((b.drop p).take t).any (fun c => c != 0) = false ∧ ¬ (0 < t ∧ t = n - p) ∧ wi = w2)
        (fun at_ _ => n - (intOf at_).toNat)
      case atStart => exact ⟨p, 0, rfl, rfl, Nat.zero_le _, rfl, by omega, rfl⟩
      case round =>
        obtain ⟨u, t', hu, rfl, htm, hz, hnt, rfl⟩ := hrel
        have HZ := Lib.hid hz
        clear hz
        by_cases htl' : t' < m
        case pos =>
          have hne : ¬ u % 4 = 0 := by rw [hu]; exact HM1.out t' htl'
          have hun : u < n := by omega
          have e1 : ((u : Int) % 4 != 0) = true := by simp; omega
          have e2 : decide ((u : Int) < (n : Int)) = true := decide_eq_true (by omega)
          have cu := cell4 HRX.out (j := u) hun
          have hsl : t' < (b.drop p).length := by rw [List.length_drop, HBL.out]; omega
          have hgd : b.getD u 0 = (b.drop p).getD t' 0 := by rw [List.getD_eq_getElem?_getD, List.getD_eq_getElem?_getD, List.getElem?_drop, hu]
          have HHIT := Lib.hid (fun (h : b.getD u 0 ≠ 0) => parts_err HBN.out (HT1.out (any_hit (b.drop p) (fun c => c != 0) t' m hsl htl' (by rw [← hgd]; simpa using h))))
          have HNX := Lib.hid (fun (h : b.getD u 0 = 0) => (show ((b.drop p).take (t' + 1)).any (fun c => c != 0) = false by rw [any_next _ _ _ hsl, HZ.out, ← hgd, h]; rfl))
          have HEND := Lib.hid (fun (h : b.getD u 0 = 0) (h1 : u + 1 = n) => parts_err HBN.out (HT2.out (by rw [show m = t' + 1 by omega]; exact HNX.out h) (by omega) (by omega)))
          clear hgd hne hsl
          generalize b.getD u 0 = y at *
          have hyl := UInt8.toNat_lt y
          by_cases hy : y = 0
          case pos =>
            have e3 : ((y.toNat : Int) != 0) = false := by rw [hy]; rfl
            by_cases hu1 : u + 1 = n
            case pos =>
              have HF := Lib.hid (HEND.out hy hu1)
              have e4 : ((u : Int) + 1 == (n : Int)) = true := by simp; omega
              clear hy HEND HNX HHIT hu hnt hu1
              go_wp2_with fail
              go_ret2
              exact rparts_err HF.out rfl rfl HB2.out
            case neg =>
              have HF := Lib.hid (HNX.out hy)
              have e4 : ((u : Int) + 1 == (n : Int)) = false := by simp; omega
              have HUE := Lib.hid hu
              have HNT := Lib.hid hnt
              clear hy HEND HNX HHIT hu hnt
              go_wp2_with fail
              go_roundw
              case rel => have hu := HUE.out; exact ⟨u + 1, t' + 1, by omega, by go_num, by omega, HF.out, by omega, by trivial⟩
              case measure => simp [intOf]; omega
          case neg =>
            have HF := Lib.hid (HHIT.out hy)
            have e3 : ((y.toNat : Int) != 0) = true := by
              have : y.toNat ≠ 0 := fun e => hy (UInt8.toNat_inj.1 e)
              simp; omega
            clear hy HEND HNX HHIT hu hnt
            go_wp2_with fail
            go_ret2
            exact rparts_err HF.out rfl rfl HB2.out
        case neg =>
          obtain rfl : t' = m := by omega
          have HPT := Lib.hid (show ptsP b = thenP (L ++ [x]) (ptsP (b.drop u)) by rw [hu]; exact HT3.out HZ.out (by omega))
          have HUE := Lib.hid hu
          have hun2 : u ≤ n := by omega
          by_cases h4' : u % 4 = 0
          case pos =>
            have e1 : ((u : Int) % 4 != 0) = false := by simp; omega
            clear hu hnt
            go_wp2_with fail
            go_roundw
            case rel => exact ⟨u, L ++ [x], rfl, by omega, .inl h4', HO2.out, by have := HPE.out; have := HUE.out; omega, HPT.out, HB2.out⟩
            case measure => have := HPE.out; have := HUE.out; simp [intOf]; omega
          case neg =>
            have hun : u = n := by have := HM3.out; omega
            have e1 : ((u : Int) % 4 != 0) = true := by simp; omega
            have e2 : decide ((u : Int) < (n : Int)) = false := decide_eq_false (by omega)
            clear hu hnt e2 HUE
            subst hun
            go_wp2_with fail
            go_roundw
            case rel => exact ⟨u, L ++ [x], rfl, by omega, .inr rfl, HO2.out, by have := HPE.out; omega, HPT.out, HB2.out⟩
            case measure => have := HPE.out; simp [intOf]; omega
end Go.Proofs.YtoagmehgiaamlaaDoor

namespace Go.Proofs.YtoagmehgiaamlaaDoor
open Go.ChangeShapes Go.WideShapes Go.ChangeAt Go.RowKit
set_option linter.unusedVariables false

theorem lens_take {L : List (List UInt8)} {k : Nat} {x : List UInt8} (h : L[k]? = some x) : lensP (L.take (k + 1)) = lensP (L.take k) ++ [(x.length : Int)] := by
  obtain ⟨hk, rfl⟩ := List.getElem?_eq_some_iff.1 h
  exact lens_snoc (List.take_succ_eq_append_getElem hk)

set_option maxHeartbeats 1600000 in
theorem refLens_any (A : Option Addr) (n C : Nat) (L : List (List UInt8)) (w : World) (h : RowP w A n C L) (hn : n ≤ 1000) :
    Calls Tryd.prog 43 #[.slice A n C] w fun e w' => ∃ A2 C2, e = .returned (.slice A2 n C2) ∧ OwnI w' w.heap.size A2 n C2 (lensP L) ∧ Below w.heap.size w w' := by
  have hm := h.len_le
  have H := Lib.hid h
  have HN := Lib.hid h.1
  clear h
  go_enter Tryd.func43, Tryd.ntmps43
  go_wp2_with fail
  go_loopw [3, 4] (fun t i wr => ∃ (k : Nat) (A2 : Option Addr) (C2 : Nat), k ≤ n ∧ i = .int .i64 k ∧ t = .slice A2 k C2 ∧ OwnI wr w.heap.size A2 k C2 (lensP (L.take k)) ∧ Below w.heap.size w wr) (fun _ i _ => n - (intOf i).toNat)
  case atStart => exact ⟨0, none, 0, Nat.zero_le _, rfl, rfl, ownI_nil _ _, Below.refl _ _⟩
  case round =>
    obtain ⟨k, A2, C2, hk, rfl, rfl, ho, hb⟩ := hrel
    have HO := Lib.hid ho
    have HB := Lib.hid hb
    have zB := hb.size
    clear ho hb
    by_cases hlt : k < n
    · obtain ⟨x, hx⟩ : ∃ x, L[k]? = some x := ⟨_, List.getElem?_eq_getElem (by rw [← HN.out]; exact hlt)⟩
      obtain ⟨b1, o1, A3, C3, rfl, l1, e0, r1⟩ := H.out.at2 hx
      have e1 : wr.cell? ⟨b1, o1 + k, none⟩ = some (.slice A3 x.length C3) := (HB.out.cell (p := ⟨b1, o1 + k, none⟩) l1).trans e0
      have HT := Lib.hid (lens_take hx)
      clear hx e0 r1
      generalize x.length = nx at *
      go_wp2_with (at_builtin; refine append_int _ rfl (.tmp 11) (.tmp 17) rfl w.heap.size A2 k C2 _ rfl (HO.out.alloc _) _ 1 1 [(nx : Int)] rfl (row_int1 _ _ _) (by omega) (by simp; omega) ?_; intro A5 C5 w2 hown2 hg2 hat2; have HO2 := Lib.hid hown2; have HB2 := Lib.hid ((HB.out.alloc zB _).trans (below_grown (Below.refl _ _) (HO.out.alloc _) (Nat.le_refl _) (by simp; omega) hg2)); clear hown2 hg2 hat2)
      go_roundw
      case rel => exact ⟨k + 1, A5, C5, by omega, by go_num, rfl, by rw [HT.out]; exact HO2.out, HB2.out⟩
      case measure => simp [intOf]; omega
    · obtain rfl : k = n := by omega
      have HF := Lib.hid (show L.take k = L by rw [List.take_of_length_le]; rw [HN.out]; exact Nat.le_refl _)
      go_wp2_with fail
      go_ret
      refine ⟨_, _, rfl, ?_, HB.out⟩
      have := HO.out
      rw [HF.out] at this
      exact this
end Go.Proofs.YtoagmehgiaamlaaDoor

namespace Go.Proofs.YtoagmehgiaamlaaDoor
open Go.ChangeShapes Go.WideShapes Go.ChangeAt Go.RowKit
set_option linter.unusedVariables false

theorem info_bool : (Tryd.prog.info? 4).map (fun i => (i.zero, i.size, i.bytes)) = some (some (.bool false), 1, 1) := by kernel_rfl

/-- a slice of ints of the call's own -/
def OwnB (w : World) (base : Nat) (A : Option Addr) (n C : Nat) (xs : List Bool) : Prop := w.ownsRow base 4 1 (.slice A n C) n (xs.map Value.bool)
section
variable {w w' : World} {base n C : Nat} {A : Option Addr} {xs : List Bool}
theorem OwnB.row (h : OwnB w base A n C xs) : Row w 1 A n C (xs.map Value.bool) := row_of_own h
theorem OwnB.alloc (h : OwnB w base A n C xs) (o : Obj) : OwnB (w.alloc o) base A n C xs := World.ownsRow.alloc h o
theorem OwnB.len (h : OwnB w base A n C xs) : xs.length = n := by have := h.1; simpa using this
theorem OwnB.below {B : Nat} (h : OwnB w base A n C xs) (hb : Below B w w') (hB : w.heap.size ≤ B) : OwnB w' base A n C xs := own_below h hb hB
theorem OwnB.touch {S : Nat → Prop} (h : OwnB w base A n C xs) (ht : Touch S w w') (hA : ∀ k, blk A = some k → ¬ S k) : OwnB w' base A n C xs := own_touch h ht hA
theorem OwnB.far (h : OwnB w base A n C xs) (p : Addr) (hp : some p.block ≠ blk A) (u : Value) : OwnB (w.setCell p u) base A n C xs := own_far h p hp u
theorem OwnB.base_le {b' : Nat} (h : OwnB w base A n C xs) (hb : b' ≤ base) : OwnB w b' A n C xs := by
  refine ⟨h.1, ?_⟩
  rcases h.2 with h2 | ⟨g, cap, cur, hv, hg, r⟩
  · exact .inl h2
  · exact .inr ⟨g, cap, cur, hv, by omega, r⟩
theorem OwnB.ge (h : OwnB w base A n C xs) : ∀ b, blk A = some b → base ≤ b ∧ b < w.heap.size := own_ge h
theorem ownB_nil (w : World) (base : Nat) : OwnB w base none 0 0 [] := World.ownsRow_nil w base _ 1
theorem OwnB.open_ (h : OwnB w base A n C xs) (hn : 0 < n) :
    ∃ g, A = some ⟨g, 0, none⟩ ∧ base ≤ g ∧ g < w.heap.size ∧ n ≤ C ∧ (∀ k z, xs[k]? = some z → w.cell? ⟨g, k, none⟩ = some (.bool z)) ∧
      (∀ k, w.frozen? ⟨g, k, none⟩ = false) ∧ ∀ k (z : Bool), OwnB (w.setCell ⟨g, k, none⟩ (.bool z)) base A n C (xs.set k z) := by
  obtain ⟨g, h1, h2, h3, h4, h5, h6, h7⟩ := own_open h hn
  refine ⟨g, h1, h2, h3, h4, fun k z hz => h5 k _ (by rw [List.getElem?_map, hz]; rfl), h6, fun k z => ?_⟩
  have := h7 k (.bool z)
  unfold OwnB
  rw [List.map_set]
  exact this
end
theorem ownB_made (w : World) : OwnB (w.alloc (.cells #[] 4)) w.heap.size (some ⟨w.heap.size, 0, none⟩) 0 0 [] :=
  World.ownsRow_made w #[] 0 (Nat.le_refl _) (by simp [maxLen]) (by simp)
/-- what a function hands back that makes a slice of ints of its own -/
def GivesB (w : World) (xs : List Bool) (e : Ending) (w' : World) : Prop :=
  ∃ A n C, e = .returned (.slice A n C) ∧ OwnB w' w.heap.size A n C xs ∧ Below w.heap.size w w'

theorem wp_append_bool (w : World) {o : Oper} {a : Act} {K : Act → World → Prop} {Q : Exit → Act → World → Prop} (s x : Operand)
    (ho : o.op = .call { callee := .builtin .append, args := #[s, x], argTypes := #[37, 37] })
    (base : Nat) (A : Option Addr) (n C : Nat) (xs : List Bool) (hs : a.eval s = .slice A n C) (hown : OwnB w base A n C xs)
    (A' : Option Addr) (m c : Nat) (ys : List Bool) (hx : a.eval x = .slice A' m c) (hr : Row w 1 A' m c (ys.map Value.bool))
    (hsmall : n + m ≤ 1000000000) (hbase : base ≤ w.heap.size)
    (h : ∀ A2 C2 w', OwnB w' base A2 (n + m) C2 (xs ++ ys) → w.grownBy w' (blk A) → (blk A2 = blk A ∨ blk A2 = some w.heap.size) → K (a.put o.dst (.slice A2 (n + m) C2)) w') : o.wp Tryd.prog a w K Q := by
  obtain ⟨i, hi, hz, hsz, hby⟩ := info_parts info_bool
  refine wp_append_row w s x _ ho base _ i _ 1 1 Tryd.underlying37 hi hz hsz hby rfl (by decide) A n C _ hs hown A' m c _ hx hr ?_ (by unfold maxLen; omega) (by omega) hbase ?_
  · intro u hu
    obtain ⟨b, _, rfl⟩ := List.mem_map.1 hu
    rfl
  · intro A2 C2 w' h1 h2 h3 _
    refine h A2 C2 w' ?_ h2 h3
    unfold OwnB
    rw [List.map_append]
    exact h1
theorem append_bool (w : World) {ops : Array Oper} {rest : List Oper} {o : Oper} {a : Act} {Q : Exit → Act → World → Prop} (hgd : Region.wanted o (yielded ops a.tmps) = true) (s x : Operand)
    (ho : o.op = .call { callee := .builtin .append, args := #[s, x], argTypes := #[37, 37] })
    (base : Nat) (A : Option Addr) (n C : Nat) (xs : List Bool) (hs : a.eval s = .slice A n C) (hown : OwnB w base A n C xs)
    (A' : Option Addr) (m c : Nat) (ys : List Bool) (hx : a.eval x = .slice A' m c) (hr : Row w 1 A' m c (ys.map Value.bool))
    (hsmall : n + m ≤ 1000000000) (hbase : base ≤ w.heap.size)
    (h : ∀ A2 C2 w', OwnB w' base A2 (n + m) C2 (xs ++ ys) → w.grownBy w' (blk A) → (blk A2 = blk A ∨ blk A2 = some w.heap.size) → wpList Tryd.prog ops Q rest (a.put o.dst (.slice A2 (n + m) C2)) w') :
    wpList Tryd.prog ops Q (o :: rest) a w := by
  refine wpList_step fun K hK => ?_
  rw [if_pos hgd]
  exact wp_append_bool w s x ho base A n C xs hs hown A' m c ys hx hr hsmall hbase fun A2 C2 w' r1 r2 r3 => hK _ _ (h A2 C2 w' r1 r2 r3)

theorem row_bool1 (w : World) (z : Bool) (e : TypeId) : Row (w.alloc (.cells #[.bool z] e)) 1 (some ⟨w.heap.size, 0, none⟩) 1 1 ([z].map Value.bool) := row_one w _ e
end Go.Proofs.YtoagmehgiaamlaaDoor

namespace Go.Proofs.YtoagmehgiaamlaaDoor
open Go.ChangeShapes Go.WideShapes Go.ChangeAt Go.RowKit
set_option linter.unusedVariables false
section
variable {P : Program} {ops : Array Oper} {Q : Exit → Act → World → Prop} {md : Region.Mode} {S : World → Prop} {st : Nat}

/-- any order; S behind each operation, until 'st' -/
def wpTill (P : Program) (md : Region.Mode) (ops : Array Oper) (Q : Exit → Act → World → Prop) (S : World → Prop) (st : Nat) : Nat → Array Bool → Act → World → Prop
  | 0, listed, a, w => Region.ready md ops listed = [] ∧ Q .normal a w
  | fuel + 1, listed, a, w => (Region.ready md ops listed = [] → Q .normal a w) ∧
    ∀ i ∈ Region.ready md ops listed, (i = st → wpOp P ops Q i (wpAny P md ops Q fuel (listed.setIfInBounds i true)) a w) ∧
      (i ≠ st → wpOp P ops Q i (fun a' w' => S w' ∧ wpTill P md ops Q S st fuel (listed.setIfInBounds i true) a' w') a w)
theorem till_sound : ∀ (fuel : Nat) (listed : Array Bool) (a : Act) (w : World), wpTill P md ops Q S st fuel listed a w → wpAny P md ops Q fuel listed a w := by
  intro fuel
  induction fuel with
  | zero => exact fun _ _ _ h => h
  | succ fuel ih =>
    refine fun listed a w h => ⟨h.1, fun i hi => ?_⟩
    by_cases e : i = st
    · exact (h.2 i hi).1 e
    · exact wpOp_mono (fun a' w' h' => ih _ a' w' h'.2) ((h.2 i hi).2 e)
/-- 'st' waits for 'i' -/
def waitsFor (md : Region.Mode) (ops : Array Oper) (st i : Nat) : Bool := match ops[st]? with
  | some o => o.after.any (fun e => Region.binds md e && e.on == i)
  | none => false
/-- 'st' waits for the first of the path, that for the next, .. the last for 'i' -/
def waitsBy (md : Region.Mode) (ops : Array Oper) : Nat → List Nat → Nat → Bool
  | st, [], i => waitsFor md ops st i
  | st, k :: ks, i => waitsFor md ops st k && waitsBy md ops k ks i
/-- all that a listed one waits for is listed -/
def closedB (md : Region.Mode) (ops : Array Oper) (listed : Array Bool) : Bool :=
  (List.range ops.size).all fun k => !(listed.getD k false) || match ops[k]? with
    | some o => o.after.all (fun e => !(Region.binds md e) || listed.getD e.on false)
    | none => true
def Closed (md : Region.Mode) (ops : Array Oper) (listed : Array Bool) : Prop := ∀ k o, ops[k]? = some o → listed.getD k false = true → ∀ e ∈ o.after, Region.binds md e = true → listed.getD e.on false = true
theorem closed_of {listed : Array Bool} (h : closedB md ops listed = true) : Closed md ops listed := by
  intro k o ho hk e he hb
  unfold closedB at h
  rw [List.all_eq_true] at h
  have h1 := h k (List.mem_range.2 (Array.getElem?_eq_some_iff.1 ho).1)
  rw [ho, hk] at h1
  simp only [Bool.not_true, Bool.false_or] at h1
  rw [Array.all_eq_true_iff_forall_mem] at h1
  have h2 := h1 e he
  rw [hb] at h2
  simpa using h2
theorem closed_set {listed : Array Bool} {j : Nat} (h : Closed md ops listed) (hj : j ∈ Region.ready md ops listed) : Closed md ops (listed.setIfInBounds j true) := by
  intro k o ho hk e he hb
  by_cases hjk : j = k
  · subst hjk
    obtain ⟨_, o', ho', hall⟩ := mem_ready.1 hj
    rw [ho] at ho'
    injection ho' with ho'
    subst ho'
    exact getD_set_true (hall e he hb)
  · rw [getD_set_ne false hjk] at hk
    exact getD_set_true (h k o ho hk e he hb)
theorem waits_listed {listed : Array Bool} {i k : Nat} (hc : Closed md ops listed) (hw : waitsFor md ops k i = true) (hk : listed.getD k false = true ∨ k ∈ Region.ready md ops listed) : listed.getD i false = true := by
  unfold waitsFor at hw
  rcases ho : ops[k]? with _ | o
  · rw [ho] at hw; cases hw
  · rw [ho] at hw
    simp only [Array.any_eq_true] at hw
    obtain ⟨n, hn, hb⟩ := hw
    rw [Bool.and_eq_true] at hb
    have e : (o.after[n]).on = i := by simpa using hb.2
    rw [← e]
    rcases hk with hk | hk
    · exact hc k o ho hk _ (Array.getElem_mem hn) hb.1
    · obtain ⟨_, o', ho', hall⟩ := mem_ready.1 hk
      rw [ho] at ho'
      injection ho' with ho'
      subst ho'
      exact hall _ (Array.getElem_mem hn) hb.1
theorem by_listed {listed : Array Bool} {i : Nat} (hc : Closed md ops listed) : ∀ (path : List Nat) (k : Nat), waitsBy md ops k path i = true → (listed.getD k false = true ∨ k ∈ Region.ready md ops listed) → listed.getD i false = true := by
  intro path
  induction path with
  | nil => exact fun k hw hk => waits_listed hc hw hk
  | cons a ks ih =>
    intro k hw hk
    unfold waitsBy at hw
    rw [Bool.and_eq_true] at hw
    exact ih a hw.2 (.inl (waits_listed hc hw.1 hk))
theorem unlisted_of {listed : Array Bool} {i : Nat} (hi : i ∈ Region.ready md ops listed) : ¬ listed.getD i false = true := by
  intro h1
  have h0 := (mem_ready.1 hi).1
  rcases Nat.lt_or_ge i listed.size with hlt | hge
  · simp [hlt] at h0 h1
    rw [h0] at h1
    cases h1
  · simp [Array.getElem?_eq_none hge] at h1
theorem not_yet {path : List Nat} {i : Nat} {listed : Array Bool} (hc : Closed md ops listed) (hw : waitsBy md ops st path i = true) (hi : i ∈ Region.ready md ops listed) : ¬ st ∈ Region.ready md ops listed :=
  fun hs => unlisted_of hi (by_listed hc path st hw (.inr hs))
/-- what yields its value wherever S holds may be taken first, if 'st' waits for it -/
theorem till_first {path : List Nat} {i : Nat} {oi : Oper} {v : Value} (hi : ops[i]? = some oi) (hsel : ∀ (j : Nat) (o : Oper) cs b, ops[j]? = some o → o.op ≠ .select cs b)
    (hQ : ∀ c a w, Q (.panic c) (a.put oi.dst v) w → Q (.panic c) a w) (hw : waitsBy md ops st path i = true) (fuel : Nat) :
    ∀ (listed : Array Bool) (a : Act) (w : World), Closed md ops listed →
      (∀ j oj, ops[j]? = some oj → j ≠ i → listed.getD j true = false → (∀ e ∈ oj.after, Region.binds md e = true → e.on ≠ i) → oi.apart ops oj = true) →
      i ∈ Region.ready md ops listed → YieldsIf P ops S oi v a → S w →
      wpTill P md ops Q S st fuel (listed.setIfInBounds i true) (a.put oi.dst v) w → wpTill P md ops Q S st (fuel + 1) listed a w := by
  induction fuel with
  | zero =>
    intro listed a w hc hfree hr hy hS H
    refine ⟨fun h => absurd hr (by rw [h]; simp), fun j hj => ⟨fun e => absurd (e ▸ hj) (not_yet hc hw hr), fun _ => ?_⟩⟩
    by_cases hji : j = i
    · subst hji
      exact hy.wpOp hi hS ⟨hS, H⟩
    · have hm := ready_mono hj hji
      rw [H.1] at hm
      cases hm
  | succ fuel ih =>
    intro listed a w hc hfree hr hy hS H
    refine ⟨fun h => absurd hr (by rw [h]; simp), fun j hj => ⟨fun e => absurd (e ▸ hj) (not_yet hc hw hr), fun hjs => ?_⟩⟩
    by_cases hji : j = i
    · subst hji
      exact hy.wpOp hi hS ⟨hS, H⟩
    · obtain ⟨hun, oj, hoj, hall⟩ := mem_ready.1 hj
      have hno : ∀ e ∈ oj.after, Region.binds md e = true → e.on ≠ i := fun e he hb heq => unlisted_of hr (heq ▸ hall e he hb)
      have step := wpOp_putIf hoj (hfree j oj hoj hji hun hno) (fun cs b => hsel i oi cs b hi) (fun cs b => hsel j oj cs b hoj) hQ hy ((H.2 j (ready_mono hj hji)).2 hjs)
      refine wpOp_mono (fun a' w' h3 => ⟨h3.2.1, ih (listed.setIfInBounds j true) a' w' (closed_set hc hj) ?_ (ready_mono hr (Ne.symm hji)) h3.1 h3.2.1 ?_⟩) step
      · intro k ok hk hki hun2 hno2
        refine hfree k ok hk hki ?_ hno2
        by_cases hjk : j = k
        · subst hjk; exact hun
        · rw [getD_set_ne true hjk] at hun2; exact hun2
      · rw [Array.setIfInBounds_comm _ _ hji]
        exact h3.2.2
theorem till_take (path : List Nat) {i : Nat} {oi : Oper} {v : Value} {fuel : Nat} {listed : Array Bool} {a : Act} {w : World} (hi : ops[i]? = some oi)
    (hs : Region.noSelect ops = true) (hf : Region.free md ops listed i = true) (hr : (Region.ready md ops listed).contains i = true) (hw : waitsBy md ops st path i = true) (hc : closedB md ops listed = true)
    (hQ : ∀ c a w, Q (.panic c) (a.put oi.dst v) w → Q (.panic c) a w) (hy : YieldsIf P ops S oi v a) (hS : S w)
    (h : wpTill P md ops Q S st fuel (listed.setIfInBounds i true) (a.put oi.dst v) w) : wpTill P md ops Q S st (fuel + 1) listed a w :=
  till_first hi (Region.noSelect_spec hs) hQ hw fuel listed a w (closed_of hc) (Region.free_spec hi hf) (by simpa using hr) hy hS h
/-- each of 'rs' (none of them 'st') comes up next -/
def TillAll (P : Program) (md : Region.Mode) (ops : Array Oper) (Q : Exit → Act → World → Prop) (S : World → Prop) (st fuel : Nat) (listed : Array Bool) (a : Act) (w : World) (rs : List Nat) : Prop :=
  ∀ i ∈ rs, i ≠ st ∧ wpOp P ops Q i (fun a' w' => S w' ∧ wpTill P md ops Q S st fuel (listed.setIfInBounds i true) a' w') a w
theorem TillAll.nil {fuel : Nat} {listed : Array Bool} {a : Act} {w : World} : TillAll P md ops Q S st fuel listed a w [] := fun _ h => by cases h
theorem TillAll.cons {fuel : Nat} {listed : Array Bool} {a : Act} {w : World} {i : Nat} {o : Oper} {rs : List Nat} (hne : i ≠ st) (ho : ops[i]? = some o)
    (h : ∀ K' : Act → World → Prop, Shut (∀ a w, S w → wpTill P md ops Q S st fuel (listed.setIfInBounds i true) a w → K' a w) → if Region.wanted o (yielded ops a.tmps) = true then Oper.wp P o a w K' Q else K' (a.put o.dst undef) w)
    (hs : TillAll P md ops Q S st fuel listed a w rs) : TillAll P md ops Q S st fuel listed a w (i :: rs) := by
  intro j hj
  rcases List.mem_cons.1 hj with e | hj
  · subst e
    exact ⟨hne, wpOp_step ho (fun K' hK => h K' (fun a w h1 h2 => hK a w ⟨h1, h2⟩))⟩
  · exact hs j hj
theorem till_ready {rs : List Nat} {fuel : Nat} {listed : Array Bool} {a : Act} {w : World} (hr : Region.ready md ops listed = rs) (hne : rs ≠ [])
    (h : TillAll P md ops Q S st fuel listed a w rs) : wpTill P md ops Q S st (fuel + 1) listed a w :=
  ⟨fun h0 => absurd (hr ▸ h0) hne, fun i hi => ⟨fun e => absurd e (h i (hr ▸ hi)).1, fun _ => (h i (hr ▸ hi)).2⟩⟩
/-- 'st' comes up: from here on any order, plainly -/
theorem till_st {o : Oper} {fuel : Nat} {listed : Array Bool} {a : Act} {w : World} (hr : Region.ready md ops listed = [st]) (ho : ops[st]? = some o)
    (h : ∀ K' : Act → World → Prop, Shut (∀ a w, wpAny P md ops Q fuel (listed.setIfInBounds st true) a w → K' a w) → if Region.wanted o (yielded ops a.tmps) = true then Oper.wp P o a w K' Q else K' (a.put o.dst undef) w) :
    wpTill P md ops Q S st (fuel + 1) listed a w := by
  refine ⟨fun h0 => absurd (hr ▸ h0) (by simp), fun i hi => ?_⟩
  rw [hr] at hi
  have e : i = st := by simpa using hi
  subst e
  exact ⟨fun _ => wpOp_step ho (fun K' hK => h K' hK), fun hne => absurd rfl hne⟩
/-- the only one that may come up next, in plain any order -/
theorem any_one {i : Nat} {o : Oper} {fuel : Nat} {listed : Array Bool} {a : Act} {w : World} (hr : Region.ready md ops listed = [i]) (ho : ops[i]? = some o)
    (h : ∀ K' : Act → World → Prop, Shut (∀ a w, wpAny P md ops Q fuel (listed.setIfInBounds i true) a w → K' a w) → if Region.wanted o (yielded ops a.tmps) = true then Oper.wp P o a w K' Q else K' (a.put o.dst undef) w) :
    wpAny P md ops Q (fuel + 1) listed a w := by
  refine ⟨fun h0 => absurd (hr ▸ h0) (by simp), fun j hj => ?_⟩
  rw [hr] at hj
  have e : j = i := by simpa using hj
  subst e
  exact wpOp_step ho (fun K' hK => h K' hK)
/-- the beginning -/
theorem till_start (st : Nat) (S : World → Prop) {id : Nat} {a : Act} {w : World} (hm : P.follows .mixedOrders = true) (hS : S w.drew)
    (h : S w.drew → wpTill P .any ops Q S st ops.size (Array.replicate ops.size false) a w.drew) : (Code.region id ops true).wp P Q a w :=
  wp_region_any hm (till_sound _ _ _ _ (h hS))
end
end Go.Proofs.YtoagmehgiaamlaaDoor

