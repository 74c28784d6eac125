/-
  'return T{}, ErrX': the statement leaves open whether the variable is read ahead of the store; whichever: the result's block holds zeros, the error is what the variable holds.
-/
import Derived.Test.YthjjneanabnjoaaDoorBase
import Derived.Laws.ResultCell
namespace Go.Proofs.YthjjneanabnjoaaDoor
open Go.ChangeShapes Go.WideShapes Go.ChangeAt Go.RowKit
set_option linter.unusedVariables false

theorem put_same (a : Act) (d : Nat) (v : Value) (h : d < a.tmps.size) : (a.put (some d) v).eval (.tmp d) = v := by
  simp [Act.put, Act.eval, Array.getD, h]
theorem put_ne (a : Act) (d j : Nat) (v : Value) (h : d ≠ j) : (a.put (some d) v).eval (.tmp j) = a.eval (.tmp j) := by
  simp only [Act.put, Act.eval, Array.getD_eq_getD_getElem?]
  rw [Array.getElem?_setIfInBounds_ne h]

theorem wp_load_known {P : Program} (w : World) {o : Oper} {a : Act} {K : Act → World → Prop} {Q : Exit → Act → World → Prop} (ty g : Nat) (ho : o.op = .load ty (.global g))
    (v : Value) (hA : ∀ w, (isAgg ty).run P w = .ok false w) (hc : w.cell? ⟨g, 0, none⟩ = some v) (h : K (a.put o.dst v) w) : o.wp P a w K Q := by
  unfold Oper.wp execOp
  simp [ho, go_sem, hA, hc, BigFrame.eval_global, Instr.loadAt]
  exact h

theorem wp_assign_known {P : Program} (w : World) {o : Oper} {a : Act} {K : Act → World → Prop} {Q : Exit → Act → World → Prop} (x : Operand) (ho : o.op = .assign x) (v : Value) (hx : a.eval x = v) (h : K (a.put o.dst v) w) : o.wp P a w K Q := by
  subst hx
  unfold Oper.wp execOp
  simp only [ho]
  exact h

/-- An operation of no guard. -/
theorem as_wanted {P : Program} {ops : Array Oper} {o : Oper} {a : Act} {w : World} {K : Act → World → Prop} {Q : Exit → Act → World → Prop} (hg : o.guard = none) (h : o.wp P a w K Q) :
    if Region.wanted o (yielded ops a.tmps) = true then o.wp P a w K Q else K (a.put o.dst undef) w := by
  rw [if_pos (by unfold Region.wanted; simp [hg])]; exact h

set_option maxHeartbeats 400000 in
theorem wp_zero_err {P : Program} (hm : P.follows .mixedOrders = true) {Q : Exit → Act → World → Prop} (id d0 d1 p r ty te g : Nat) (pos : String) (a : Act) (w : World) (n : Nat) (T : TypeId) (old zs : Array Value) (ev : Value)
    (hn1 : d0 ≠ p) (hn2 : d1 ≠ p) (hn3 : d0 ≠ d1) (hs0 : d0 < a.tmps.size) (hs1 : d1 < a.tmps.size)
    (hp : a.eval (.tmp p) = .pointer (some ⟨n, 0, none⟩)) (hk : Blk w n old T) (hb : P.built ty [] = some zs) (hi : (P.info? ty).map (·.size) = some zs.size) (hold : old.size = zs.size) (h1 : zs.all (·.oneCell') = true)
    (hA : ∀ w, (isAgg te).run P w = .ok false w) (hc : w.cell? ⟨g, 0, none⟩ = some ev) (hg : g ≠ n)
    (h : ∀ w', Blk w' n zs T → w.grownBy w' (some n) → Q .normal (((a.put (some d0) (.agg zs)).put (some d1) ev).put (some r) ev) w') :
    (Code.region id #[{ dst := some d0, op := .build ty #[], type := ty, pos := pos, after := #[], guard := none },
      { dst := some d1, op := .load te (.global g), type := te, pos := pos, after := #[{ on := 2, ground := Ground.gcOnly Departure.lateStores }], guard := none },
      { dst := none, op := .store ty (.tmp p) (.tmp d0), type := 0, pos := pos, after := #[{ on := 0, ground := Ground.data }, { on := 0, ground := Ground.phase }, { on := 1, ground := Ground.textOnly Departure.lateStores }], guard := none },
      { dst := some r, op := .assign (.tmp d1), type := te, pos := pos,
        after := #[{ on := 1, ground := Ground.data }, { on := 2, ground := Ground.chain }, { on := 0, ground := Ground.phase }, { on := 1, ground := Ground.phase }, { on := 2, ground := Ground.phase }], guard := none }] true).wp P Q a w := by
  have hbuild : ∀ (b : Act), (P.built ty ((#[] : Array (Nat × Operand)).map fun (i, x) => (i, b.eval x)).toList).isSome = true := fun b => by simp [hb]
  have hput : ∀ (b : Act), (P.built ty ((#[] : Array (Nat × Operand)).map fun (i, x) => (i, b.eval x)).toList) = some zs := fun b => by simpa using hb
  refine wp_region_any hm ?_
  change wpAny _ _ _ _ _ _ _ w.drew
  have hk' : Blk w.drew n old T := hk
  have hc' : w.drew.cell? ⟨g, 0, none⟩ = some ev := hc
  have hgd : w.grownBy w.drew (some n) := ⟨rfl, rfl, rfl, Nat.le_refl _, fun _ _ _ => rfl⟩
  generalize w.drew = W at *
  have goal : ∀ (a' : Act) W', a' = ((a.put (some d0) (.agg zs)).put (some d1) ev).put (some r) ev → Blk W' n zs T → W.grownBy W' (some n) → Q .normal a' W' := fun a' W' e hk2 hg2 => e ▸ h W' hk2 (hgd.trans hg2)
  have hswap : (a.put (some d1) ev).put (some d0) (.agg zs) = (a.put (some d0) (.agg zs)).put (some d1) ev := Act.put_comm a _ _ (fun d e e2 => by injection e with e; injection e2 with e2; omega)
  have eP0 : (a.put (some d0) (.agg zs)).eval (.tmp p) = .pointer (some ⟨n, 0, none⟩) := by rw [put_ne _ _ _ _ hn1]; exact hp
  have eP1 : ((a.put (some d0) (.agg zs)).put (some d1) ev).eval (.tmp p) = .pointer (some ⟨n, 0, none⟩) := by rw [put_ne _ _ _ _ hn2]; exact eP0
  have e00 : (a.put (some d0) (.agg zs)).eval (.tmp d0) = .agg zs := put_same _ _ _ hs0
  have e01 : ((a.put (some d0) (.agg zs)).put (some d1) ev).eval (.tmp d0) = .agg zs := by rw [put_ne _ _ _ _ (Ne.symm hn3)]; exact e00
  have e11 : ((a.put (some d0) (.agg zs)).put (some d1) ev).eval (.tmp d1) = ev := put_same _ _ _ (by simpa [Act.put] using hs1)
  refine wpAny_ready (rs := [0, 1]) (by kernel_rfl) (by simp) ?_
  refine AllReady.cons rfl (fun K hK => as_wanted rfl (wp_build _ _ rfl (hbuild a) ?_)) (AllReady.cons rfl (fun K hK => as_wanted rfl (wp_load_known _ _ _ rfl ev hA hc' ?_)) AllReady.nil)
  · rw [hput a]; refine hK _ _ ?_
    refine wpAny_ready (rs := [1, 2]) (by kernel_rfl) (by simp) ?_
    refine AllReady.cons rfl (fun K hK => as_wanted rfl (wp_load_known _ _ _ rfl ev hA hc' ?_)) (AllReady.cons rfl (fun K hK => as_wanted rfl (wp_store_blk _ _ _ _ rfl n zs eP0 e00 T old hk' hi hold h1 ?_)) AllReady.nil)
    · refine hK _ _ ?_
      refine wpAny_ready (rs := [2]) (by kernel_rfl) (by simp) ?_
      refine AllReady.cons rfl (fun K hK => as_wanted rfl (wp_store_blk _ _ _ _ rfl n zs eP1 e01 T old hk' hi hold h1 ?_)) AllReady.nil
      intro w' hkw hgw
      refine hK _ _ ?_
      refine wpAny_ready (rs := [3]) (by kernel_rfl) (by simp) ?_
      refine AllReady.cons rfl (fun K hK => as_wanted rfl (wp_assign_known _ _ rfl ev e11 ?_)) AllReady.nil
      refine hK _ _ (wpAny_done (by kernel_rfl) (goal _ _ rfl hkw hgw) _)
    · intro w' hkw hgw
      refine hK _ _ ?_
      refine wpAny_ready (rs := [1]) (by kernel_rfl) (by simp) ?_
      refine AllReady.cons rfl (fun K hK => as_wanted rfl (wp_load_known _ _ _ rfl ev hA (hgw.cell hc' (by simpa using hg)) ?_)) AllReady.nil
      refine hK _ _ ?_
      refine wpAny_ready (rs := [3]) (by kernel_rfl) (by simp) ?_
      refine AllReady.cons rfl (fun K hK => as_wanted rfl (wp_assign_known _ _ rfl ev e11 ?_)) AllReady.nil
      refine hK _ _ (wpAny_done (by kernel_rfl) (goal _ _ rfl hkw hgw) _)
  · refine hK _ _ ?_
    refine wpAny_ready (rs := [0]) (by kernel_rfl) (by simp) ?_
    refine AllReady.cons rfl (fun K hK => as_wanted rfl (wp_build _ _ rfl (hbuild _) ?_)) AllReady.nil
    rw [hput _]; refine hK _ _ ?_
    refine wpAny_ready (rs := [2]) (by kernel_rfl) (by simp) ?_
    refine AllReady.cons rfl (fun K hK => as_wanted rfl (wp_store_blk _ _ _ _ rfl n zs (hswap.symm ▸ eP1) (hswap.symm ▸ e01) T old hk' hi hold h1 ?_)) AllReady.nil
    intro w' hkw hgw
    refine hK _ _ ?_
    refine wpAny_ready (rs := [3]) (by kernel_rfl) (by simp) ?_
    refine AllReady.cons rfl (fun K hK => as_wanted rfl (wp_assign_known _ _ rfl ev (hswap.symm ▸ e11) ?_)) AllReady.nil
    refine hK _ _ (wpAny_done (by kernel_rfl) (goal _ _ (congrArg (fun b : Act => b.put (some r) ev) hswap) hkw hgw) _)

/-- a struct's or an array's type -/
def wide (d : Option TypeDesc) : Bool := match d with | some (.struct _) | some (.array _ _) => true | _ => false

/-- What a function returns that gives back a struct that it keeps in a block, and an error. -/
theorem ret_cell_tmp {P : Program} {fn : Func} {R : Ending → World → Prop} {p u : Tmp} {ty : TypeId} (hr : fn.results = #[.cell p ty, .tmp u]) {a : Act} {w : World} (n : Nat) (T : TypeId) (zs : Array Value) (ev : Value)
    (hp : a.eval (.tmp p) = .pointer (some ⟨n, 0, none⟩)) (hk : Blk w n zs T) (hw : wide (P.underlying ty) = true) (hi : (P.info? ty).map (·.size) = some zs.size) (hu : a.eval (.tmp u) = ev) (hd : a.defers = [])
    (h : R (.returned (.tuple #[.agg zs, ev])) w) : bodyPost P fn R .ret a w := by
  refine bodyPost_ret (v := .tuple #[.agg zs, ev]) ?_ hd h
  have hp' : a.tmps.getD p undef = .pointer (some ⟨n, 0, none⟩) := hp
  have hu' : a.tmps.getD u undef = ev := hu
  obtain ⟨d, hd1, hd2⟩ : ∃ d, P.underlying ty = some d ∧ (match d with | .struct _ | .array _ _ => true | _ => false) = true := by
    cases he : P.underlying ty with
    | none => rw [he] at hw; simp [wide] at hw
    | some d => exact ⟨d, rfl, by rw [he] at hw; cases d <;> simp_all [wide]⟩
  have hl : (loadVar ty ⟨n, 0, none⟩).run P w = .ok (.agg zs) w := run_loadVar_row w n T ty zs (0, 0) d hk hd1 (by cases d <;> simp_all) hi
  rw [results_cell_tmp hr, hp']
  simp only [asAddr, Sem.run_pure, Result.andThen_ok, hl, hu']
end Go.Proofs.YthjjneanabnjoaaDoor
