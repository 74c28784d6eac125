/-
  qos.Read, where the bytes are a frame.
-/
import Derived.Test.YtidgomffmeplaaaDoorQosReadNo
import Derived.Test.YtidgomffmeplaaaDoorClone
import Derived.Laws.CopyRow
import Derived.Deep.RegionLaw
namespace Go.Proofs.YtidgomffmeplaaaDoor
open Go.ChangeShapes Go.WideShapes Go.ChangeAt Go.RowKit
set_option linter.unusedVariables false

theorem Row.from_ {w : World} {b off len cap : Nat} {vs : List Value} (h : Row w 1 (some ⟨b, off, none⟩) len cap vs) {n : Nat} (hn : n ≤ len) : Row w 1 (some ⟨b, off + n, none⟩) (len - n) (cap - n) (vs.drop n) := by
  obtain ⟨h1, h2, h3, h4, h5⟩ := h
  refine ⟨by simp; omega, by omega, by omega, by simp, fun hl => ?_⟩
  obtain ⟨b', off', e, hb, hc⟩ := h5 (by omega)
  obtain ⟨rfl, rfl⟩ : b = b' ∧ off = off' := by injection e with e; injection e with e1 e2 e3; exact ⟨e1, e2⟩
  exact ⟨b, off + n, rfl, hb, fun i u hu => by rw [List.getElem?_drop] at hu; rw [Nat.add_assoc]; exact hc _ u hu⟩

theorem Row.cut {w : World} {b off len cap : Nat} {vs : List Value} (h : Row w 1 (some ⟨b, off, none⟩) len cap vs) {n : Nat} (hn : n ≤ len) :
    Row w 1 (if cap = n then some ⟨b, off, none⟩ else some ⟨b, off + n, none⟩) (len - n) (cap - n) (vs.drop n) := by
  by_cases hc : cap = n
  · rw [if_pos hc]
    have h1 := h.1
    have h2 := h.len_cap
    exact ⟨by simp; omega, by omega, by omega, by simp, fun hl => by omega⟩
  · rw [if_neg hc]; exact h.from_ hn

/-- 'copy' into a block that is known whole, as one step of a region that draws. -/
theorem step_copy_blk {P : Program} {ops : Array Oper} {o : Oper} {a : Act} {w : World} {K : Act → World → Prop} {Q : Exit → Act → World → Prop} {E : Prop} (hg : o.guard = none) (d s : Operand) (dT sT : TypeId)
    (hop : o.op = Op.call { callee := Callee.builtin Builtin.copy, args := #[d, s], argTypes := #[dT, sT] }) (elem : TypeId) (hu : P.underlying dT = some (.slice elem)) (hs : (P.info? elem).map (·.size) = some 1)
    (g off dLen dCap : Nat) (hd : a.eval d = .slice (some ⟨g, off, none⟩) dLen dCap) (ad : Addr) (sLen sCap : Nat) (hx : a.eval s = .slice (some ad) sLen sCap) (cur new : Array Value) (t : TypeId) (cs : List Value)
    (hk : Blk w g cur t) (hn : cs.length = Nat.min sLen dLen) (hsrc : ∀ j v, cs[j]? = some v → w.cell? (ad.add j) = some v) (hfit : off + cs.length ≤ cur.size) (h1 : ∀ v ∈ cs, v.oneCell' = true)
    (hnew : (cur.toList.take off ++ cs ++ cur.toList.drop (off + cs.length)).toArray = new)
    (hK : ∀ w', Blk w' g new t → w.grownBy w' (some g) → K (a.put o.dst (goInt cs.length)) w') : if Region.wanted o (yielded ops a.tmps) = true then Oper.wp P o a w K Q else E := by
  rw [if_pos (by simp [Region.wanted, hg])]
  have hrun := run_copy_row (P := P) w dT sT o.type elem g off dLen dCap ad sLen sCap cur t cs hu hs hk hn hsrc hfit h1
  rw [hnew] at hrun
  have := hK _ (setRow_heap w g cur new t (0, 0) hk) (setRow_grown w g new)
  unfold Oper.wp
  simp [execOp, hop, resolve, invoke, builtin, hd, hx, hrun, Result.andThen]
  exact this

theorem head_src {w : World} {b off n C : Nat} {xs : List UInt8} (h : Row w 1 (some ⟨b, off, none⟩) n C (xs.map u8v)) (hl : xs.length = n) (o : Nat) (ho : 4 + o + 6 ≤ n) :
    ∀ j v, [u8v (rdA xs o), u8v (rdA xs (o + 1)), u8v (rdA xs (o + 2)), u8v (rdA xs (o + 3)), u8v (rdA xs (o + 4)), u8v (rdA xs (o + 5))][j]? = some v → w.cell? (Addr.add ⟨b, off + (4 + o), none⟩ j) = some v := by
  obtain ⟨b', off', e, hb, hc⟩ := h.at_ (by omega)
  obtain ⟨rfl, rfl⟩ : b = b' ∧ off = off' := by injection e with e; injection e with e1 e2 e3; exact ⟨e1, e2⟩
  intro j v hv
  have hj : j < 6 := by have := (List.getElem?_eq_some_iff.1 hv).1; simpa using this
  have : v = u8v (rdA xs (o + j)) := by
    rcases (show j = 0 ∨ j = 1 ∨ j = 2 ∨ j = 3 ∨ j = 4 ∨ j = 5 by omega) with rfl | rfl | rfl | rfl | rfl | rfl <;> simpa using hv.symm
  subst this
  have := hc (4 + (o + j)) (u8v (rdA xs (o + j))) (by rw [List.getElem?_map, List.getElem?_eq_getElem (show 4 + (o + j) < xs.length by omega)]; simp [rdA, List.getD_eq_getElem?_getD, List.getElem?_eq_getElem (show 4 + (o + j) < xs.length by omega)])
  rw [← this]
  by_cases hj0 : j = 0
  · subst hj0; rfl
  · simp only [Addr.add, if_neg hj0, Nat.add_assoc]

theorem tid_form {x1 x2 x3 x22 x24 x25 : UInt8} (hs : shapeOk x1 x2 x3 x22 x24 x25 = true) : IntKind.i64.wrap (bits .andNot .u8 (x24.toNat : Int) 16) = rdTid x24 := by
  have h : x24.toNat < 8 ∨ (16 ≤ x24.toNat ∧ x24.toNat < 24) := by
    unfold shapeOk at hs
    revert hs
    by_cases h : x24.toNat < 8 ∨ (16 ≤ x24.toNat ∧ x24.toNat < 24)
    · exact fun _ => h
    · simp [h]
  have := UInt8.toNat_lt x24
  rw [go_form24v x24 h, IntWalk.i64_in _ (by omega)]; rfl

theorem seq_form {sq : Nat} {x22 x23 : UInt8} (h : sq = x22.toNat + 256 * x23.toNat) : IntKind.i64.wrap ((sq : Int) / 16) = rdSeq x22 x23 := by
  have h1 := UInt8.toNat_lt x22
  have h2 := UInt8.toNat_lt x23
  rw [IntWalk.i64_in _ (by omega), h]; unfold rdSeq; omega

set_option maxRecDepth 100000 in
set_option maxHeartbeats 1000000 in
theorem qosRead_yes (A : Option Addr) (n C : Nat) (xs : List UInt8) (w : World) (hb : Row w 1 A n C (xs.map u8v)) (hi : rdErr xs = none) :
    Calls Tryd.prog 14 #[.slice A n C] w fun e w' => ∃ A2 n2 C2, e = .returned (.tuple #[qv (rdA xs) (rdTid (xs.getD 24 0)) (rdSeq (xs.getD 22 0) (xs.getD 23 0)) (bitAt (xs.getD 1 0) 3) (bitAt (xs.getD 1 0) 5) (bitAt (xs.getD 24 0) 4) A2 n2 C2, .nilIface]) ∧
      OwnU8 w' w.heap.size A2 n2 C2 (xs.drop 26) ∧ Below w.heap.size w w' := by
  have hlen : xs.length = n := by simpa using hb.length
  have hb1 := hb.alloc (.cells z0 32)
  have hk0 := Blk.new w z0 32
  have hb0 : Below w.heap.size w (w.alloc (.cells z0 32)) := (Below.refl _ _).alloc (Nat.le_refl _) _
  have h26 : ¬ n < 26 := fun h => by simp [rdErr, hlen, h] at hi
  simp only [rdErr, hlen, if_neg h26] at hi
  obtain ⟨b, off, rfl, hbb, hc⟩ := hb1.at_ (by omega)
  have hcell : ∀ k, k < 26 → (w.alloc (.cells z0 32)).cell? ⟨b, off + k, none⟩ = some (u8v (xs.getD k 0)) := fun k hk => hc k _ (by rw [List.getElem?_map, List.getElem?_eq_getElem (by omega)]; simp [List.getD_eq_getElem?_getD, List.getElem?_eq_getElem (show k < xs.length by omega)])
  clear hc
  have c0 := hcell 0 (by omega); rw [Nat.add_zero] at c0; have c1 := hcell 1 (by omega); have c2 := hcell 2 (by omega); have c3 := hcell 3 (by omega)
  have c22 := hcell 22 (by omega); have c23 := hcell 23 (by omega); have c24 := hcell 24 (by omega); have c25 := hcell 25 (by omega)
  clear hcell
  generalize xs.getD 0 0 = x0 at *
  generalize xs.getD 1 0 = x1 at *
  generalize xs.getD 2 0 = x2 at *
  generalize xs.getD 3 0 = x3 at *
  generalize xs.getD 22 0 = x22 at *
  generalize xs.getD 23 0 = x23 at *
  generalize xs.getD 24 0 = x24 at *
  generalize xs.getD 25 0 = x25 at *
  have tj := Lib.hid (go_join x22 x23)
  have hx0 : x0 = 136 := by by_cases h : x0 = 136; exact h; simp [h] at hi
  have hs : shapeOk x1 x2 x3 x22 x24 x25 = true := by cases h : shapeOk x1 x2 x3 x22 x24 x25 <;> simp [hx0, h] at hi ⊢
  have hmax : n ≤ 1526 := by simp [hx0, hs] at hi; omega
  have H0 := Lib.hid hx0
  have HS := Lib.hid hs
  clear hx0 hs hi
  rw [z0_eq] at c0 c1 c2 c3 c22 c23 c24 c25 hk0 hb0 hb1 hbb
  simp only [u8v] at c0 c1 c2 c3 c22 c23 c24 c25
  go_enter Tryd.func14, Tryd.ntmps14
  go_wp2_with fail
  all_goals (have hlt0 := hk0.lt; generalize w.alloc _ = W0 at *)
  · exfalso
    have hq : ((x0.toNat : Int) != 136) = true := by assumption
    rw [H0.out] at hq; simp at hq
  clear c0
  go_region
  have tj' : bits .or .i64 (wrap64 (x22.toNat : Int)) (wrap64 (wrap64 (x23.toNat : Int) * 256)) = ((x22.toNat + 256 * x23.toNat : Nat) : Int) := by
    have h1 := UInt8.toNat_lt x22
    have h2 := UInt8.toNat_lt x23
    rw [IntWalk.wrap64_in (x22.toNat : Int) (by omega), IntWalk.wrap64_in (x23.toNat : Int) (by omega), IntWalk.wrap64_in _ (by omega)]
    exact tj.out
  obtain ⟨sq, hsq⟩ : ∃ sq, sq = x22.toNat + 256 * x23.toNat := ⟨_, rfl⟩
  have hsq16 : sq % 16 = x22.toNat % 16 := by omega
  have hsqlt : sq < 65536 := by have h1 := UInt8.toNat_lt x22; have h2 := UInt8.toNat_lt x23; omega
  rw [tj', ← hsq]
  replace hb0 : Below w.heap.size w W0.drew := hb0.trans (below_drewN (w := W0) 1)
  replace hlt0 : w.heap.size < W0.drew.heap.size := hlt0
  replace hk0 : Blk W0.drew w.heap.size _ 32 := hk0
  replace hb1 : Row W0.drew 1 (some ⟨b, off, none⟩) n C (xs.map u8v) := hb1
  replace hbb : b < W0.drew.heap.size := hbb
  replace c1 : W0.drew.cell? ⟨b, off + 1, none⟩ = some (.int .u8 (x1.toNat : Int)) := c1
  replace c24 : W0.drew.cell? ⟨b, off + 24, none⟩ = some (.int .u8 (x24.toNat : Int)) := c24
  have Hsq := Lib.hid hsq
  clear tj tj' hsq
  go_wp2_with fail
  all_goals (try (go_simp; go_wp2_with fail))
  iterate 6
    (· exfalso
       have hs := HS.out
       have hs2 : shapeOk x1 x2 x3 x22 x24 x25 = false := by
         first
         | exact shape_no1 (by assumption)
         | exact shape_no2 (by assumption)
         | exact shape_no3 (by assumption)
         | exact shape_no25 (by assumption)
         | exact shape_no22 hsq16 (by assumption)
         | exact shape_no24 (by assumption)
       rw [hs] at hs2; exact Bool.noConfusion hs2)
  clear c2 c3 c22 c23 c25
  have hlc := hb1.len_cap
  have g24 : (24 : Int) < n := by omega
  have g1 : (1 : Int) < n := by omega
  have g26 : (26 : Int) ≤ n := by omega
  have gC : (n : Int) ≤ C := by omega
  generalize W0.drew = W1 at *
  refine wp_region_held_drew (S := fun w' => w'.cell? ⟨b, off + 1, none⟩ = some (.int .u8 (x1.toNat : Int)) ∧ w'.cell? ⟨b, off + 24, none⟩ = some (.int .u8 (x24.toNat : Int))) (by kernel_rfl) ⟨c1, c24⟩ (fun hHeld => ?_)
  refine wpAnyH_take (i := 0) (oi := { dst := some 66, op := _, type := _, pos := _, after := _, guard := none }) (v := ?v0) rfl (by kernel_rfl) (by kernel_rfl) (by kernel_rfl) (fun _ _ _ h => h) (Or.inl ⟨by rfl, ?y0⟩) (by assumption) ?r0
  case y0 => intro w hSw; (try dsimp only at hSw); go_simp; try with_reducible rfl
  simp only [Act.put, List.setIfInBounds_toArray, List.set_cons_zero, List.set_cons_succ]
  refine wpAnyH_take (i := 1) (oi := { dst := some 67, op := _, type := _, pos := _, after := _, guard := none }) (v := ?v1) rfl (by kernel_rfl) (by kernel_rfl) (by kernel_rfl) (fun _ _ _ h => h) (Or.inl ⟨by rfl, ?y1⟩) (by assumption) ?r1
  case y1 => intro w hSw; (try dsimp only at hSw); go_simp; try with_reducible rfl
  simp only [Act.put, List.setIfInBounds_toArray, List.set_cons_zero, List.set_cons_succ]
  refine wpAnyH_take (i := 2) (oi := { dst := some 68, op := _, type := _, pos := _, after := _, guard := none }) (v := ?v2) rfl (by kernel_rfl) (by kernel_rfl) (by kernel_rfl) (fun _ _ _ h => h) (Or.inl ⟨by rfl, ?y2⟩) (by assumption) ?r2
  case y2 => intro w hSw; (try dsimp only at hSw); go_simp; try with_reducible rfl
  simp only [Act.put, List.setIfInBounds_toArray, List.set_cons_zero, List.set_cons_succ]
  refine wpAnyH_take (i := 3) (oi := { dst := some 69, op := _, type := _, pos := _, after := _, guard := none }) (v := ?v3) rfl (by kernel_rfl) (by kernel_rfl) (by kernel_rfl) (fun _ _ _ h => h) (Or.inl ⟨by rfl, ?y3⟩) (by assumption) ?r3
  case y3 => intro w hSw; (try dsimp only at hSw); go_simp; try with_reducible rfl
  simp only [Act.put, List.setIfInBounds_toArray, List.set_cons_zero, List.set_cons_succ]
  refine wpAnyH_take (i := 4) (oi := { dst := some 70, op := _, type := _, pos := _, after := _, guard := none }) (v := ?v4) rfl (by kernel_rfl) (by kernel_rfl) (by kernel_rfl) (fun _ _ _ h => h) (Or.inl ⟨by rfl, ?y4⟩) (by assumption) ?r4
  case y4 => intro w hSw; (try dsimp only at hSw); go_simp; try with_reducible rfl
  simp only [Act.put, List.setIfInBounds_toArray, List.set_cons_zero, List.set_cons_succ]
  refine wpAnyH_take (i := 5) (oi := { dst := some 71, op := _, type := _, pos := _, after := _, guard := none }) (v := ?v5) rfl (by kernel_rfl) (by kernel_rfl) (by kernel_rfl) (fun _ _ _ h => h) (Or.inl ⟨by rfl, ?y5⟩) (by assumption) ?r5
  case y5 => intro w hSw; (try dsimp only at hSw); go_simp; try with_reducible rfl
  simp only [Act.put, List.setIfInBounds_toArray, List.set_cons_zero, List.set_cons_succ]
  refine wpAnyH_take (i := 6) (oi := { dst := some 72, op := _, type := _, pos := _, after := _, guard := none }) (v := ?v6) rfl (by kernel_rfl) (by kernel_rfl) (by kernel_rfl) (fun _ _ _ h => h) (Or.inl ⟨by rfl, ?y6⟩) (by assumption) ?r6
  case y6 => intro w hSw; (try dsimp only at hSw); go_simp; try with_reducible rfl
  simp only [Act.put, List.setIfInBounds_toArray, List.set_cons_zero, List.set_cons_succ]
  refine wpAnyH_take (i := 7) (oi := { dst := some 73, op := _, type := _, pos := _, after := _, guard := none }) (v := ?v7) rfl (by kernel_rfl) (by kernel_rfl) (by kernel_rfl) (fun _ _ _ h => h) (Or.inl ⟨by rfl, ?y7⟩) (by assumption) ?r7
  case y7 => intro w hSw; (try dsimp only at hSw); go_simp; try with_reducible rfl
  simp only [Act.put, List.setIfInBounds_toArray, List.set_cons_zero, List.set_cons_succ]
  refine wpAnyH_take (i := 8) (oi := { dst := some 74, op := _, type := _, pos := _, after := _, guard := none }) (v := ?v8) rfl (by kernel_rfl) (by kernel_rfl) (by kernel_rfl) (fun _ _ _ h => h) (Or.inl ⟨by rfl, ?y8⟩) (by assumption) ?r8
  case y8 => intro w hSw; (try dsimp only at hSw); go_simp; try with_reducible rfl
  simp only [Act.put, List.setIfInBounds_toArray, List.set_cons_zero, List.set_cons_succ]
  refine wpAnyH_take (i := 9) (oi := { dst := some 75, op := _, type := _, pos := _, after := _, guard := none }) (v := ?v9) rfl (by kernel_rfl) (by kernel_rfl) (by kernel_rfl) (fun _ _ _ h => h) (Or.inl ⟨by rfl, ?y9⟩) (by assumption) ?r9
  case y9 => intro w hSw; (try dsimp only at hSw); go_simp; try with_reducible rfl
  simp only [Act.put, List.setIfInBounds_toArray, List.set_cons_zero, List.set_cons_succ]
  refine wpAnyH_take (i := 10) (oi := { dst := some 76, op := _, type := _, pos := _, after := _, guard := none }) (v := ?v10) rfl (by kernel_rfl) (by kernel_rfl) (by kernel_rfl) (fun _ _ _ h => h) (Or.inl ⟨by rfl, ?y10⟩) (by assumption) ?r10
  case y10 => intro w hSw; (try dsimp only at hSw); go_simp; try with_reducible rfl
  simp only [Act.put, List.setIfInBounds_toArray, List.set_cons_zero, List.set_cons_succ]
  refine wpAnyH_take (i := 11) (oi := { dst := some 77, op := _, type := _, pos := _, after := _, guard := none }) (v := ?v11) rfl (by kernel_rfl) (by kernel_rfl) (by kernel_rfl) (fun _ _ _ h => h) (Or.inl ⟨by rfl, ?y11⟩) (by assumption) ?r11
  case y11 => intro w hSw; (try dsimp only at hSw); go_simp; try with_reducible rfl
  simp only [Act.put, List.setIfInBounds_toArray, List.set_cons_zero, List.set_cons_succ]
  refine wpAnyH_take (i := 12) (oi := { dst := some 78, op := _, type := _, pos := _, after := _, guard := none }) (v := ?v12) rfl (by kernel_rfl) (by kernel_rfl) (by kernel_rfl) (fun _ _ _ h => h) (Or.inl ⟨by rfl, ?y12⟩) (by assumption) ?r12
  case y12 => intro w hSw; (try dsimp only at hSw); go_simp; try with_reducible rfl
  simp only [Act.put, List.setIfInBounds_toArray, List.set_cons_zero, List.set_cons_succ]
  refine wpAnyH_take (i := 13) (oi := { dst := some 79, op := _, type := _, pos := _, after := _, guard := none }) (v := ?v13) rfl (by kernel_rfl) (by kernel_rfl) (by kernel_rfl) (fun _ _ _ h => h) (Or.inl ⟨by rfl, ?y13⟩) (by assumption) ?r13
  case y13 => intro w hSw; (try dsimp only at hSw); go_simp; try with_reducible rfl
  simp only [Act.put, List.setIfInBounds_toArray, List.set_cons_zero, List.set_cons_succ]
  refine wpAnyH_take (i := 14) (oi := { dst := some 80, op := _, type := _, pos := _, after := _, guard := none }) (v := ?v14) rfl (by kernel_rfl) (by kernel_rfl) (by kernel_rfl) (fun _ _ _ h => h) (Or.inl ⟨by rfl, ?y14⟩) (by assumption) ?r14
  case y14 => intro w hSw; (try dsimp only at hSw); go_simp; try with_reducible rfl
  simp only [Act.put, List.setIfInBounds_toArray, List.set_cons_zero, List.set_cons_succ]
  refine wpAnyH_take (i := 15) (oi := { dst := some 81, op := _, type := _, pos := _, after := _, guard := none }) (v := ?v15) rfl (by kernel_rfl) (by kernel_rfl) (by kernel_rfl) (fun _ _ _ h => h) (Or.inl ⟨by rfl, ?y15⟩) (by assumption) ?r15
  case y15 => intro w hSw; (try dsimp only at hSw); go_simp; try with_reducible rfl
  simp only [Act.put, List.setIfInBounds_toArray, List.set_cons_zero, List.set_cons_succ]
  refine wpAnyH_take (i := 16) (oi := { dst := some 82, op := _, type := _, pos := _, after := _, guard := none }) (v := ?v16) rfl (by kernel_rfl) (by kernel_rfl) (by kernel_rfl) (fun _ _ _ h => h) (Or.inl ⟨by rfl, ?y16⟩) (by assumption) ?r16
  case y16 => intro w hSw; (try dsimp only at hSw); go_simp; try with_reducible rfl
  simp only [Act.put, List.setIfInBounds_toArray, List.set_cons_zero, List.set_cons_succ]
  refine wpAnyH_take (i := 17) (oi := { dst := some 83, op := _, type := _, pos := _, after := _, guard := none }) (v := ?v17) rfl (by kernel_rfl) (by kernel_rfl) (by kernel_rfl) (fun _ _ _ h => h) (Or.inl ⟨by rfl, ?y17⟩) (by assumption) ?r17
  case y17 => intro w hSw; (try dsimp only at hSw); go_simp; try with_reducible rfl
  simp only [Act.put, List.setIfInBounds_toArray, List.set_cons_zero, List.set_cons_succ]
  refine wpAnyH_take (i := 18) (oi := { dst := some 84, op := _, type := _, pos := _, after := _, guard := none }) (v := ?v18) rfl (by kernel_rfl) (by kernel_rfl) (by kernel_rfl) (fun _ _ _ h => h) (Or.inl ⟨by rfl, ?y18⟩) (by assumption) ?r18
  case y18 => intro w hSw; (try dsimp only at hSw); go_simp; try with_reducible rfl
  simp only [Act.put, List.setIfInBounds_toArray, List.set_cons_zero, List.set_cons_succ]
  refine wpAnyH_take (i := 19) (oi := { dst := some 85, op := _, type := _, pos := _, after := _, guard := none }) (v := ?v19) rfl (by kernel_rfl) (by kernel_rfl) (by kernel_rfl) (fun _ _ _ h => h) (Or.inl ⟨by rfl, ?y19⟩) (by assumption) ?r19
  case y19 => intro w hSw; (try dsimp only at hSw); go_simp; try with_reducible rfl
  simp only [Act.put, List.setIfInBounds_toArray, List.set_cons_zero, List.set_cons_succ]
  refine wpAnyH_take (i := 20) (oi := { dst := some 86, op := _, type := _, pos := _, after := _, guard := none }) (v := ?v20) rfl (by kernel_rfl) (by kernel_rfl) (by kernel_rfl) (fun _ _ _ h => h) (Or.inl ⟨by rfl, ?y20⟩) (by assumption) ?r20
  case y20 => intro w hSw; (try dsimp only at hSw); go_simp; try with_reducible rfl
  simp only [Act.put, List.setIfInBounds_toArray, List.set_cons_zero, List.set_cons_succ]
  refine wpAnyH_take (i := 21) (oi := { dst := some 87, op := _, type := _, pos := _, after := _, guard := none }) (v := ?v21) rfl (by kernel_rfl) (by kernel_rfl) (by kernel_rfl) (fun _ _ _ h => h) (Or.inl ⟨by rfl, ?y21⟩) (by assumption) ?r21
  case y21 => intro w hSw; (try dsimp only at hSw); go_simp; try with_reducible rfl
  simp only [Act.put, List.setIfInBounds_toArray, List.set_cons_zero, List.set_cons_succ]
  refine wpAnyH_take (i := 22) (oi := { dst := some 88, op := _, type := _, pos := _, after := _, guard := none }) (v := ?v22) rfl (by kernel_rfl) (by kernel_rfl) (by kernel_rfl) (fun _ _ _ h => h) (Or.inl ⟨by rfl, ?y22⟩) (by assumption) ?r22
  case y22 => intro w hSw; (try dsimp only at hSw); go_simp; try with_reducible rfl
  simp only [Act.put, List.setIfInBounds_toArray, List.set_cons_zero, List.set_cons_succ]
  refine wpAnyH_take (i := 23) (oi := { dst := some 89, op := _, type := _, pos := _, after := _, guard := none }) (v := ?v23) rfl (by kernel_rfl) (by kernel_rfl) (by kernel_rfl) (fun _ _ _ h => h) (Or.inl ⟨by rfl, ?y23⟩) (by assumption) ?r23
  case y23 => intro w hSw; (try dsimp only at hSw); go_simp; try with_reducible rfl
  simp only [Act.put, List.setIfInBounds_toArray, List.set_cons_zero, List.set_cons_succ]
  replace hb0 : Below w.heap.size w W1.drew := hb0.drew
  replace hlt0 : w.heap.size < W1.drew.heap.size := hlt0
  replace hk0 : Blk W1.drew w.heap.size _ 32 := hk0
  replace hb1 : Row W1.drew 1 (some ⟨b, off, none⟩) n C (xs.map u8v) := hb1
  replace hbb : b < W1.drew.heap.size := hbb
  clear c1 c24
  obtain ⟨c1, c24⟩ := hHeld
  generalize W1.drew = W2 at *
  simp only [tid_form HS.out, seq_form Hsq.out, go_bit3, go_bit5, go_bit4]
  have hrow := hb1.cut (n := 26) (by omega)
  generalize (if C = 26 then some (⟨b, off, none⟩ : Addr) else some ⟨b, off + 26, none⟩) = PA at *
  rw [← List.map_drop] at hrow
  refine wpAnyH_ready (rs := [24, 26]) (by kernel_rfl) (by simp) ?_
  refine AllReadyH.cons (o := { dst := some 90, op := _, type := _, pos := _, after := _, guard := none }) rfl (fun K hK => ?_) (AllReadyH.cons (o := { dst := some 5, op := _, type := _, pos := _, after := _, guard := none }) rfl (fun K hK => ?_) AllReadyH.nil)
  · go_simp
    refine (clone_any PA (n - 26) (C - 26) (xs.drop 26) _ hrow (by omega)).mono ?_
    rintro e w2 ⟨⟨A2, n2, C2, rfl, hown, hb2⟩, -⟩
    go_wp2_with fail
    refine hK.out _ _ ?_ (fun hHeld => ?_)
    · exact ⟨(hb2.cell (p := ⟨b, off + 1, none⟩) hbb).trans c1, (hb2.cell (p := ⟨b, off + 24, none⟩) hbb).trans c24⟩
    refine wpAnyH_take (i := 25) (oi := { dst := some 91, op := _, type := _, pos := _, after := _, guard := none }) (v := ?v25) rfl (by kernel_rfl) (by kernel_rfl) (by kernel_rfl) (fun _ _ _ h => h) (Or.inl ⟨by rfl, ?y25⟩) (by assumption) ?r25
    case y25 => intro w hSw; clear hSw; go_simp; try with_reducible rfl
    simp only [Act.put, List.setIfInBounds_toArray, List.set_cons_zero, List.set_cons_succ]
    refine wpAnyH_ready (rs := [26]) (by kernel_rfl) (by simp) ?_
    refine AllReadyH.cons (o := { dst := some 5, op := _, type := _, pos := _, after := _, guard := none }) rfl (fun K hK => ?_) AllReadyH.nil
    go_simp
    have hbA : Below w.heap.size w w2 := hb0.trans (hb2.mono (by omega))
    have hkA := (hk0.below hb2 (by omega))
    have hrA := hb1.belowAt hb2 (fun b' e => by simp [blk] at e; omega)
    have hbbA : b < w2.heap.size := by have := hb2.size; omega
    have hltA : w.heap.size < w2.heap.size := by have := hb2.size; omega
    have hszA : W2.heap.size ≤ w2.heap.size := hb2.size
    refine hK.out _ (w2.alloc (.cells z0 32)) ⟨(World.cell?_alloc_lt _ _ _ hbbA).trans hHeld.1, (World.cell?_alloc_lt _ _ _ hbbA).trans hHeld.2⟩ (fun hHeld => ?_)
    refine wpAnyH_ready (rs := [27]) (by kernel_rfl) (by simp) ?_
    refine AllReadyH.cons (o := { dst := none, op := _, type := _, pos := _, after := _, guard := none }) rfl (fun K hK => as_wanted rfl (wp_store_blk _ _ _ _ rfl w2.heap.size (qcells (fun _ => 0) (rdTid x24) (rdSeq x22 x23) (bitAt x1 3) (bitAt x1 5) (bitAt x24 4) A2 n2 C2) rfl rfl 32 z0 (Blk.new w2 z0 32) (by kernel_rfl) rfl (qcells_one _ _ _ _ _ _ _ _ _) ?_)) AllReadyH.nil
    intro W hkf hgf
    refine hK.out _ _ ?_ (fun _ => ?_)
    · exact ⟨(hgf.cell hHeld.1 (by simp; omega)), (hgf.cell hHeld.2 (by simp; omega))⟩
    simp only [Act.put, List.setIfInBounds_toArray, List.set_cons_zero, List.set_cons_succ]
    refine wpAnyH_done (by kernel_rfl) ?_ _
    have hkr : Blk W w.heap.size _ 32 := Blk.grown (hkA.alloc _) hgf (by simp; omega)
    have hrowb : Row W 1 (some ⟨b, off, none⟩) n C (xs.map u8v) := Row.grown (hrA.alloc _) hgf (by simp [blk]; omega)
    have hownf : OwnU8 W w.heap.size A2 n2 C2 (xs.drop 26) := (OwnU8.keep (hown.alloc _) hgf (by right; intro e; exact (OwnU8.ne_blk (hown.alloc _) (Blk.new w2 z0 32) (by decide)) e.symm)).base_le (by omega)
    have hbel : Below w.heap.size w W := Below.grown (hbA.alloc (by omega) _) hgf (by simp; omega) (by simp; omega)
    have hpb : w.heap.size < w2.heap.size := hltA
    have hbpb : b ≠ w2.heap.size := by omega
    generalize w2.heap.size = pb at *
    have g4 : (4 : Int) ≤ n := by omega
    have g10 : (10 : Int) ≤ n := by omega
    have g16 : (16 : Int) ≤ n := by omega
    have wz0 : IntKind.i64.wrap 0 = 0 := by decide
    have wz6 : IntKind.i64.wrap 6 = 6 := by decide
    have wz12 : IntKind.i64.wrap 12 = 12 := by decide
    have wz4 : IntKind.i64.wrap 4 = 4 := by decide
    have wz10 : IntKind.i64.wrap 10 = 10 := by decide
    have wz16 : IntKind.i64.wrap 16 = 16 := by decide
    have hC4 : ¬ C = 4 := by omega
    have hC10 : ¬ C = 10 := by omega
    have hC16 : ¬ C = 16 := by omega
    go_wp2_with fail
    rename_i KE hKend
    have HK := Lib.hid hKend
    clear hKend
    have hkf0 := hkf
    have hkp := Blk.new W #[.pointer (some ⟨pb, 0, none⟩), .pointer (some ⟨pb, 6, none⟩), .pointer (some ⟨pb, 12, none⟩)] 56
    replace hkf := hkf.alloc (.cells #[.pointer (some ⟨pb, 0, none⟩), .pointer (some ⟨pb, 6, none⟩), .pointer (some ⟨pb, 12, none⟩)] 56)
    replace hkr := hkr.alloc (.cells #[.pointer (some ⟨pb, 0, none⟩), .pointer (some ⟨pb, 6, none⟩), .pointer (some ⟨pb, 12, none⟩)] 56)
    replace hrowb := hrowb.alloc (.cells #[.pointer (some ⟨pb, 0, none⟩), .pointer (some ⟨pb, 6, none⟩), .pointer (some ⟨pb, 12, none⟩)] 56)
    replace hownf := hownf.alloc (.cells #[.pointer (some ⟨pb, 0, none⟩), .pointer (some ⟨pb, 6, none⟩), .pointer (some ⟨pb, 12, none⟩)] 56)
    have hgp : pb < W.heap.size := hkf0.lt
    have hW : w.heap.size ≤ W.heap.size := by omega
    replace hbel := hbel.alloc (by omega) (.cells #[.pointer (some ⟨pb, 0, none⟩), .pointer (some ⟨pb, 6, none⟩), .pointer (some ⟨pb, 12, none⟩)] 56)
    clear hkf0 hgf hown hb2 hb0 hbA hkA hrA hk0 hb1 c1 c24 hrow hb hHeld hbb hlt0
    generalize W.alloc _ = W3 at *
    generalize W.heap.size = pp at *
    go_loopw [97] (fun i wr => ∃ k : Nat, k ≤ 3 ∧ i = .int .i64 k ∧ Blk wr pb (qcells (fun i => if i < 6 * k then rdA xs i else 0) (rdTid x24) (rdSeq x22 x23) (bitAt x1 3) (bitAt x1 5) (bitAt x24 4) A2 n2 C2) 32 ∧
      Blk wr pp #[.pointer (some ⟨pb, 0, none⟩), .pointer (some ⟨pb, 6, none⟩), .pointer (some ⟨pb, 12, none⟩)] 56 ∧ Blk wr w.heap.size z0 32 ∧ Row wr 1 (some ⟨b, off, none⟩) n C (xs.map u8v) ∧
      OwnU8 wr w.heap.size A2 n2 C2 (xs.drop 26) ∧ Below w.heap.size w wr) (fun i _ => 3 - (intOf i).toNat)
    case atStart => exact ⟨0, by omega, rfl, hkf, hkp, hkr, hrowb, hownf, hbel⟩
    case round =>
      obtain ⟨k, hk, rfl, hkx, hpx, hrx, hrowx, hownx, hbx⟩ := hrel
      rcases (show k = 3 ∨ k = 0 ∨ k = 1 ∨ k = 2 by omega) with h3 | h0 | h1 | h2
      · subst h3
        go_wp2_with fail
        refine HK.out _ _ ?_
        have hq : qcells (fun i => if i < 6 * 3 then rdA xs i else 0) (rdTid x24) (rdSeq x22 x23) (bitAt x1 3) (bitAt x1 5) (bitAt x24 4) A2 n2 C2 = qcells (rdA xs) (rdTid x24) (rdSeq x22 x23) (bitAt x1 3) (bitAt x1 5) (bitAt x24 4) A2 n2 C2 := by kernel_rfl
        rw [hq] at hkx
        apply wp_seq_k; intro KS hKS
        apply wp_region_lit
        refine wpList_load_blk wr (by rfl) _ _ rfl pb rfl 32 _ _ hkx Tryd.underlying32 rfl (by kernel_rfl) ?_
        refine wpList_store_blk wr (by rfl) _ _ _ rfl w.heap.size _ rfl rfl 32 z0 hrx (by kernel_rfl) rfl (qcells_one _ _ _ _ _ _ _ _ _) ?_
        intro w4 hk4 hg4
        go_wp2_with fail
        exact ret_cell_tmp rfl _ _ (qcells (rdA xs) (rdTid x24) (rdSeq x22 x23) (bitAt x1 3) (bitAt x1 5) (bitAt x24 4) A2 n2 C2) .nilIface rfl hk4 (by kernel_rfl) (by kernel_rfl) rfl rfl
          ⟨A2, n2, C2, rfl, OwnU8.keep hownx hg4 (by right; intro e; exact (OwnU8.ne_blk hownx hrx (by decide)) e.symm), hbx.grown hg4 hbx.size (by simp)⟩
      · subst h0
        have d0 : wr.cell? ⟨pp, 0, none⟩ = some (.pointer (some ⟨pb, 0, none⟩)) := hpx.cell 0
        go_wp2_with fail
        go_region_held3 (fun _ => True) (trivial) ((refine step_copy_blk rfl _ _ _ _ rfl 5 ?h1_1 ?h2_1 pb 0 6 6 ?h3_1 ⟨b, off + (4 + 0), none⟩ (n - 4) (C - 4) ?h4_1 _ (qcells (fun i => if i < 6 * 1 then rdA xs i else 0) (rdTid x24) (rdSeq x22 x23) (bitAt x1 3) (bitAt x1 5) (bitAt x24 4) A2 n2 C2) _ [u8v (rdA xs 0), u8v (rdA xs 1), u8v (rdA xs 2), u8v (rdA xs 3), u8v (rdA xs 4), u8v (rdA xs 5)] hkx.drew ?h5_1 (head_src hrowx.drew hlen 0 (by omega)) ?h6_1 ?h7_1 ?h8_1 ?h9_1; (case h1_1 => kernel_rfl); (case h2_1 => kernel_rfl); (case h3_1 => rfl); (case h4_1 => rfl); (case h5_1 => (show 6 = min (n - 4) 6 ; (try omega))); (case h6_1 => (show 0 + 6 ≤ 24 ; (try decide))); (case h7_1 => simp [u8v, Value.oneCell']); (case h8_1 => kernel_rfl); intro w3 hkn hgn))
        go_wp2_with fail
        go_roundw
        case rel => exact ⟨1, by omega, rfl, hkn, hpx.drew.grown hgn (by simp; omega), hrx.drew.grown hgn (by simp; omega), hrowx.drew.grown hgn (by simp [blk]; omega), OwnU8.keep (w := wr.drew) hownx hgn (by right; intro e; exact (OwnU8.ne_blk hownx hkx (by decide)) e.symm), hbx.drew.grown hgn (by have := hbx.size; exact this) (by simp; omega)⟩
        case measure => simp [intOf]
      · subst h1
        have d0 : wr.cell? ⟨pp, 1, none⟩ = some (.pointer (some ⟨pb, 6, none⟩)) := hpx.cell 1
        go_wp2_with fail
        go_region_held3 (fun _ => True) (trivial) ((refine step_copy_blk rfl _ _ _ _ rfl 5 ?h1_2 ?h2_2 pb 6 6 6 ?h3_2 ⟨b, off + (4 + 6), none⟩ (n - 10) (C - 10) ?h4_2 _ (qcells (fun i => if i < 6 * 2 then rdA xs i else 0) (rdTid x24) (rdSeq x22 x23) (bitAt x1 3) (bitAt x1 5) (bitAt x24 4) A2 n2 C2) _ [u8v (rdA xs 6), u8v (rdA xs 7), u8v (rdA xs 8), u8v (rdA xs 9), u8v (rdA xs 10), u8v (rdA xs 11)] hkx.drew ?h5_2 (head_src hrowx.drew hlen 6 (by omega)) ?h6_2 ?h7_2 ?h8_2 ?h9_2; (case h1_2 => kernel_rfl); (case h2_2 => kernel_rfl); (case h3_2 => rfl); (case h4_2 => rfl); (case h5_2 => (show 6 = min (n - 10) 6 ; (try omega))); (case h6_2 => (show 6 + 6 ≤ 24 ; (try decide))); (case h7_2 => simp [u8v, Value.oneCell']); (case h8_2 => kernel_rfl); intro w3 hkn hgn))
        go_wp2_with fail
        go_roundw
        case rel => exact ⟨2, by omega, rfl, hkn, hpx.drew.grown hgn (by simp; omega), hrx.drew.grown hgn (by simp; omega), hrowx.drew.grown hgn (by simp [blk]; omega), OwnU8.keep (w := wr.drew) hownx hgn (by right; intro e; exact (OwnU8.ne_blk hownx hkx (by decide)) e.symm), hbx.drew.grown hgn (by have := hbx.size; exact this) (by simp; omega)⟩
        case measure => simp [intOf]
      · subst h2
        have d0 : wr.cell? ⟨pp, 2, none⟩ = some (.pointer (some ⟨pb, 12, none⟩)) := hpx.cell 2
        go_wp2_with fail
        go_region_held3 (fun _ => True) (trivial) ((refine step_copy_blk rfl _ _ _ _ rfl 5 ?h1_3 ?h2_3 pb 12 6 6 ?h3_3 ⟨b, off + (4 + 12), none⟩ (n - 16) (C - 16) ?h4_3 _ (qcells (fun i => if i < 6 * 3 then rdA xs i else 0) (rdTid x24) (rdSeq x22 x23) (bitAt x1 3) (bitAt x1 5) (bitAt x24 4) A2 n2 C2) _ [u8v (rdA xs 12), u8v (rdA xs 13), u8v (rdA xs 14), u8v (rdA xs 15), u8v (rdA xs 16), u8v (rdA xs 17)] hkx.drew ?h5_3 (head_src hrowx.drew hlen 12 (by omega)) ?h6_3 ?h7_3 ?h8_3 ?h9_3; (case h1_3 => kernel_rfl); (case h2_3 => kernel_rfl); (case h3_3 => rfl); (case h4_3 => rfl); (case h5_3 => (show 6 = min (n - 16) 6 ; (try omega))); (case h6_3 => (show 12 + 6 ≤ 24 ; (try decide))); (case h7_3 => simp [u8v, Value.oneCell']); (case h8_3 => kernel_rfl); intro w3 hkn hgn))
        go_wp2_with fail
        go_roundw
        case rel => exact ⟨3, by omega, rfl, hkn, hpx.drew.grown hgn (by simp; omega), hrx.drew.grown hgn (by simp; omega), hrowx.drew.grown hgn (by simp [blk]; omega), OwnU8.keep (w := wr.drew) hownx hgn (by right; intro e; exact (OwnU8.ne_blk hownx hkx (by decide)) e.symm), hbx.drew.grown hgn (by have := hbx.size; exact this) (by simp; omega)⟩
        case measure => simp [intOf]

  · go_simp
    have hb0B : Below w.heap.size w (W2.alloc (.cells z0 32)) := hb0.alloc (by omega) _
    have hkB := Blk.new W2 z0 32
    have hk0B := hk0.alloc (.cells z0 32)
    have hb1B := hb1.alloc (.cells z0 32)
    have hrowB := hrow.alloc (.cells z0 32)
    have hltB : W2.heap.size < (W2.alloc (.cells z0 32)).heap.size := hkB.lt
    refine hK.out _ (W2.alloc (.cells z0 32)) ⟨(World.cell?_alloc_lt _ _ _ hbb).trans c1, (World.cell?_alloc_lt _ _ _ hbb).trans c24⟩ (fun hHeld => ?_)
    try simp only [Act.put, List.setIfInBounds_toArray, List.set_cons_zero, List.set_cons_succ]
    clear hk0 hb1 hrow c1 c24 hb0 hK
    have hwm : w.heap.size < W2.heap.size := hlt0
    have hbm : b < W2.heap.size := hbb
    generalize W2.alloc _ = W4 at *
    generalize W2.heap.size = pb at *
    refine wpAnyH_ready (rs := [24]) (by kernel_rfl) (by simp) ?_
    refine AllReadyH.cons (o := { dst := some 90, op := _, type := _, pos := _, after := _, guard := none }) rfl (fun K hK => ?_) AllReadyH.nil
    go_simp
    refine (clone_any PA (n - 26) (C - 26) (xs.drop 26) _ hrowB (by omega)).mono ?_
    rintro e w2 ⟨⟨A2, n2, C2, rfl, hown, hb2⟩, -⟩
    go_wp2_with fail
    have hbbB : b < W4.heap.size := by omega
    refine hK.out _ _ ?_ (fun hHeld2 => ?_)
    · exact ⟨(hb2.cell (p := ⟨b, off + 1, none⟩) hbbB).trans hHeld.1, (hb2.cell (p := ⟨b, off + 24, none⟩) hbbB).trans hHeld.2⟩
    clear hHeld
    refine wpAnyH_take (i := 25) (oi := { dst := some 91, op := _, type := _, pos := _, after := _, guard := none }) (v := ?v25b) rfl (by kernel_rfl) (by kernel_rfl) (by kernel_rfl) (fun _ _ _ h => h) (Or.inl ⟨by rfl, ?y25b⟩) (by assumption) ?r25b
    case y25b => intro w hSw; clear hSw; go_simp; try with_reducible rfl
    try simp only [Act.put, List.setIfInBounds_toArray, List.set_cons_zero, List.set_cons_succ]
    have hbA : Below w.heap.size w w2 := hb0B.trans (hb2.mono (by omega))
    have hkA := hk0B.below hb2 (by omega)
    have hkC := hkB.below hb2 hltB
    have hrA := hb1B.belowAt hb2 (fun b' e => by simp [blk] at e; omega)
    have hszA : W4.heap.size ≤ w2.heap.size := hb2.size
    refine wpAnyH_ready (rs := [27]) (by kernel_rfl) (by simp) ?_
    refine AllReadyH.cons (o := { dst := none, op := _, type := _, pos := _, after := _, guard := none }) rfl (fun K hK => as_wanted rfl (wp_store_blk _ _ _ _ rfl pb (qcells (fun _ => 0) (rdTid x24) (rdSeq x22 x23) (bitAt x1 3) (bitAt x1 5) (bitAt x24 4) A2 n2 C2) rfl rfl 32 z0 hkC (by kernel_rfl) rfl (qcells_one _ _ _ _ _ _ _ _ _) ?_)) AllReadyH.nil
    intro W hkf hgf
    refine hK.out _ _ ?_ (fun _ => ?_)
    · exact ⟨(hgf.cell hHeld2.1 (by simp; omega)), (hgf.cell hHeld2.2 (by simp; omega))⟩
    simp only [Act.put, List.setIfInBounds_toArray, List.set_cons_zero, List.set_cons_succ]
    refine wpAnyH_done (by kernel_rfl) ?_ _
    have hkr : Blk W w.heap.size _ 32 := Blk.grown hkA hgf (by simp; omega)
    have hrowb : Row W 1 (some ⟨b, off, none⟩) n C (xs.map u8v) := Row.grown hrA hgf (by simp [blk]; omega)
    have hownf : OwnU8 W w.heap.size A2 n2 C2 (xs.drop 26) := (OwnU8.keep hown hgf (by right; intro e; exact (OwnU8.ne_blk hown hkC (by decide)) e.symm)).base_le (by omega)
    have hbel : Below w.heap.size w W := Below.grown hbA hgf (by omega) (by simp; omega)
    have hpb : w.heap.size < pb := hwm
    have hbpb : b ≠ pb := by omega
    have g4 : (4 : Int) ≤ n := by omega
    have g10 : (10 : Int) ≤ n := by omega
    have g16 : (16 : Int) ≤ n := by omega
    have wz0 : IntKind.i64.wrap 0 = 0 := by decide
    have wz6 : IntKind.i64.wrap 6 = 6 := by decide
    have wz12 : IntKind.i64.wrap 12 = 12 := by decide
    have wz4 : IntKind.i64.wrap 4 = 4 := by decide
    have wz10 : IntKind.i64.wrap 10 = 10 := by decide
    have wz16 : IntKind.i64.wrap 16 = 16 := by decide
    have hC4 : ¬ C = 4 := by omega
    have hC10 : ¬ C = 10 := by omega
    have hC16 : ¬ C = 16 := by omega
    go_wp2_with fail
    rename_i KE hKend
    have HK := Lib.hid hKend
    clear hKend
    have hkf0 := hkf
    have hkp := Blk.new W #[.pointer (some ⟨pb, 0, none⟩), .pointer (some ⟨pb, 6, none⟩), .pointer (some ⟨pb, 12, none⟩)] 56
    replace hkf := hkf.alloc (.cells #[.pointer (some ⟨pb, 0, none⟩), .pointer (some ⟨pb, 6, none⟩), .pointer (some ⟨pb, 12, none⟩)] 56)
    replace hkr := hkr.alloc (.cells #[.pointer (some ⟨pb, 0, none⟩), .pointer (some ⟨pb, 6, none⟩), .pointer (some ⟨pb, 12, none⟩)] 56)
    replace hrowb := hrowb.alloc (.cells #[.pointer (some ⟨pb, 0, none⟩), .pointer (some ⟨pb, 6, none⟩), .pointer (some ⟨pb, 12, none⟩)] 56)
    replace hownf := hownf.alloc (.cells #[.pointer (some ⟨pb, 0, none⟩), .pointer (some ⟨pb, 6, none⟩), .pointer (some ⟨pb, 12, none⟩)] 56)
    have hgp : pb < W.heap.size := hkf0.lt
    have hW : w.heap.size ≤ W.heap.size := by omega
    replace hbel := hbel.alloc (by omega) (.cells #[.pointer (some ⟨pb, 0, none⟩), .pointer (some ⟨pb, 6, none⟩), .pointer (some ⟨pb, 12, none⟩)] 56)
    clear hkf0 hgf hown hb2 hb0B hbA hkA hrA hk0B hb1B hrowB hkB hkC hb hHeld2 hbb hlt0
    generalize W.alloc _ = W3 at *
    generalize W.heap.size = pp at *
    go_loopw [97] (fun i wr => ∃ k : Nat, k ≤ 3 ∧ i = .int .i64 k ∧ Blk wr pb (qcells (fun i => if i < 6 * k then rdA xs i else 0) (rdTid x24) (rdSeq x22 x23) (bitAt x1 3) (bitAt x1 5) (bitAt x24 4) A2 n2 C2) 32 ∧
      Blk wr pp #[.pointer (some ⟨pb, 0, none⟩), .pointer (some ⟨pb, 6, none⟩), .pointer (some ⟨pb, 12, none⟩)] 56 ∧ Blk wr w.heap.size z0 32 ∧ Row wr 1 (some ⟨b, off, none⟩) n C (xs.map u8v) ∧
      OwnU8 wr w.heap.size A2 n2 C2 (xs.drop 26) ∧ Below w.heap.size w wr) (fun i _ => 3 - (intOf i).toNat)
    case atStart => exact ⟨0, by omega, rfl, hkf, hkp, hkr, hrowb, hownf, hbel⟩
    case round =>
      obtain ⟨k, hk, rfl, hkx, hpx, hrx, hrowx, hownx, hbx⟩ := hrel
      rcases (show k = 3 ∨ k = 0 ∨ k = 1 ∨ k = 2 by omega) with h3 | h0 | h1 | h2
      · subst h3
        go_wp2_with fail
        refine HK.out _ _ ?_
        have hq : qcells (fun i => if i < 6 * 3 then rdA xs i else 0) (rdTid x24) (rdSeq x22 x23) (bitAt x1 3) (bitAt x1 5) (bitAt x24 4) A2 n2 C2 = qcells (rdA xs) (rdTid x24) (rdSeq x22 x23) (bitAt x1 3) (bitAt x1 5) (bitAt x24 4) A2 n2 C2 := by kernel_rfl
        rw [hq] at hkx
        apply wp_seq_k; intro KS hKS
        apply wp_region_lit
        refine wpList_load_blk wr (by rfl) _ _ rfl pb rfl 32 _ _ hkx Tryd.underlying32 rfl (by kernel_rfl) ?_
        refine wpList_store_blk wr (by rfl) _ _ _ rfl w.heap.size _ rfl rfl 32 z0 hrx (by kernel_rfl) rfl (qcells_one _ _ _ _ _ _ _ _ _) ?_
        intro w4 hk4 hg4
        go_wp2_with fail
        exact ret_cell_tmp rfl _ _ (qcells (rdA xs) (rdTid x24) (rdSeq x22 x23) (bitAt x1 3) (bitAt x1 5) (bitAt x24 4) A2 n2 C2) .nilIface rfl hk4 (by kernel_rfl) (by kernel_rfl) rfl rfl
          ⟨A2, n2, C2, rfl, OwnU8.keep hownx hg4 (by right; intro e; exact (OwnU8.ne_blk hownx hrx (by decide)) e.symm), hbx.grown hg4 hbx.size (by simp)⟩
      · subst h0
        have d0 : wr.cell? ⟨pp, 0, none⟩ = some (.pointer (some ⟨pb, 0, none⟩)) := hpx.cell 0
        go_wp2_with fail
        go_region_held3 (fun _ => True) (trivial) ((refine step_copy_blk rfl _ _ _ _ rfl 5 ?h1_1b ?h2_1b pb 0 6 6 ?h3_1b ⟨b, off + (4 + 0), none⟩ (n - 4) (C - 4) ?h4_1b _ (qcells (fun i => if i < 6 * 1 then rdA xs i else 0) (rdTid x24) (rdSeq x22 x23) (bitAt x1 3) (bitAt x1 5) (bitAt x24 4) A2 n2 C2) _ [u8v (rdA xs 0), u8v (rdA xs 1), u8v (rdA xs 2), u8v (rdA xs 3), u8v (rdA xs 4), u8v (rdA xs 5)] hkx.drew ?h5_1b (head_src hrowx.drew hlen 0 (by omega)) ?h6_1b ?h7_1b ?h8_1b ?h9_1b; (case h1_1b => kernel_rfl); (case h2_1b => kernel_rfl); (case h3_1b => rfl); (case h4_1b => rfl); (case h5_1b => (show 6 = min (n - 4) 6 ; (try omega))); (case h6_1b => (show 0 + 6 ≤ 24 ; (try decide))); (case h7_1b => simp [u8v, Value.oneCell']); (case h8_1b => kernel_rfl); intro w3 hkn hgn))
        go_wp2_with fail
        go_roundw
        case rel => exact ⟨1, by omega, rfl, hkn, hpx.drew.grown hgn (by simp; omega), hrx.drew.grown hgn (by simp; omega), hrowx.drew.grown hgn (by simp [blk]; omega), OwnU8.keep (w := wr.drew) hownx hgn (by right; intro e; exact (OwnU8.ne_blk hownx hkx (by decide)) e.symm), hbx.drew.grown hgn (by have := hbx.size; exact this) (by simp; omega)⟩
        case measure => simp [intOf]
      · subst h1
        have d0 : wr.cell? ⟨pp, 1, none⟩ = some (.pointer (some ⟨pb, 6, none⟩)) := hpx.cell 1
        go_wp2_with fail
        go_region_held3 (fun _ => True) (trivial) ((refine step_copy_blk rfl _ _ _ _ rfl 5 ?h1_2b ?h2_2b pb 6 6 6 ?h3_2b ⟨b, off + (4 + 6), none⟩ (n - 10) (C - 10) ?h4_2b _ (qcells (fun i => if i < 6 * 2 then rdA xs i else 0) (rdTid x24) (rdSeq x22 x23) (bitAt x1 3) (bitAt x1 5) (bitAt x24 4) A2 n2 C2) _ [u8v (rdA xs 6), u8v (rdA xs 7), u8v (rdA xs 8), u8v (rdA xs 9), u8v (rdA xs 10), u8v (rdA xs 11)] hkx.drew ?h5_2b (head_src hrowx.drew hlen 6 (by omega)) ?h6_2b ?h7_2b ?h8_2b ?h9_2b; (case h1_2b => kernel_rfl); (case h2_2b => kernel_rfl); (case h3_2b => rfl); (case h4_2b => rfl); (case h5_2b => (show 6 = min (n - 10) 6 ; (try omega))); (case h6_2b => (show 6 + 6 ≤ 24 ; (try decide))); (case h7_2b => simp [u8v, Value.oneCell']); (case h8_2b => kernel_rfl); intro w3 hkn hgn))
        go_wp2_with fail
        go_roundw
        case rel => exact ⟨2, by omega, rfl, hkn, hpx.drew.grown hgn (by simp; omega), hrx.drew.grown hgn (by simp; omega), hrowx.drew.grown hgn (by simp [blk]; omega), OwnU8.keep (w := wr.drew) hownx hgn (by right; intro e; exact (OwnU8.ne_blk hownx hkx (by decide)) e.symm), hbx.drew.grown hgn (by have := hbx.size; exact this) (by simp; omega)⟩
        case measure => simp [intOf]
      · subst h2
        have d0 : wr.cell? ⟨pp, 2, none⟩ = some (.pointer (some ⟨pb, 12, none⟩)) := hpx.cell 2
        go_wp2_with fail
        go_region_held3 (fun _ => True) (trivial) ((refine step_copy_blk rfl _ _ _ _ rfl 5 ?h1_3b ?h2_3b pb 12 6 6 ?h3_3b ⟨b, off + (4 + 12), none⟩ (n - 16) (C - 16) ?h4_3b _ (qcells (fun i => if i < 6 * 3 then rdA xs i else 0) (rdTid x24) (rdSeq x22 x23) (bitAt x1 3) (bitAt x1 5) (bitAt x24 4) A2 n2 C2) _ [u8v (rdA xs 12), u8v (rdA xs 13), u8v (rdA xs 14), u8v (rdA xs 15), u8v (rdA xs 16), u8v (rdA xs 17)] hkx.drew ?h5_3b (head_src hrowx.drew hlen 12 (by omega)) ?h6_3b ?h7_3b ?h8_3b ?h9_3b; (case h1_3b => kernel_rfl); (case h2_3b => kernel_rfl); (case h3_3b => rfl); (case h4_3b => rfl); (case h5_3b => (show 6 = min (n - 16) 6 ; (try omega))); (case h6_3b => (show 12 + 6 ≤ 24 ; (try decide))); (case h7_3b => simp [u8v, Value.oneCell']); (case h8_3b => kernel_rfl); intro w3 hkn hgn))
        go_wp2_with fail
        go_roundw
        case rel => exact ⟨3, by omega, rfl, hkn, hpx.drew.grown hgn (by simp; omega), hrx.drew.grown hgn (by simp; omega), hrowx.drew.grown hgn (by simp [blk]; omega), OwnU8.keep (w := wr.drew) hownx hgn (by right; intro e; exact (OwnU8.ne_blk hownx hkx (by decide)) e.symm), hbx.drew.grown hgn (by have := hbx.size; exact this) (by simp; omega)⟩
        case measure => simp [intOf]

end Go.Proofs.YtidgomffmeplaaaDoor
