/-
  What the document's Check gives back: two structs, each in its block.
-/
import Derived.Test.YtoagmehgiaamlaaDoorGramOther
import Derived.Test.YtoagmehgiaamlaaDoorRefSeq
import Derived.Test.YtoagmehgiaamlaaDoorMg
namespace Go.Proofs.YtoagmehgiaamlaaDoor
open Go.ChangeShapes Go.WideShapes Go.ChangeAt Go.RowKit
set_option linter.unusedVariables false

theorem results_cell2 {fn : Func} {p : Tmp} {ty : TypeId} {q : Tmp} {ty2 : TypeId} (h : fn.results = #[.cell p ty, .cell q ty2]) (tmps : Array Value) (P : Program) (w : World) :
    (results fn tmps).run P w = ((asAddr (tmps.getD p undef)).run P w).andThen fun a w1 => ((loadVar ty a).run P w1).andThen fun v w2 => ((asAddr (tmps.getD q undef)).run P w2).andThen fun b w3 => ((loadVar ty2 b).run P w3).andThen fun u w4 => .ok (.tuple #[v, u]) w4 := by
  unfold results
  rw [h]
  simp
theorem ret_cell2 {P : Program} {fn : Func} {R : Ending → World → Prop} {p q : Tmp} {ty ty2 : TypeId} (hr : fn.results = #[.cell p ty, .cell q ty2]) {a : Act} {w : World} (n n2 : Nat) (T T2 : TypeId) (zs zs2 : Array Value)
    (hp : a.eval (.tmp p) = .pointer (some ⟨n, 0, none⟩)) (hk : Blk w n zs T) (hw : wide (P.underlying ty) = true) (hi : (P.info? ty).map (·.size) = some zs.size)
    (hp2 : a.eval (.tmp q) = .pointer (some ⟨n2, 0, none⟩)) (hk2 : Blk w n2 zs2 T2) (hw2 : wide (P.underlying ty2) = true) (hi2 : (P.info? ty2).map (·.size) = some zs2.size) (hd : a.defers = [])
    (h : R (.returned (.tuple #[.agg zs, .agg zs2])) w) : bodyPost P fn R .ret a w := by
  refine bodyPost_ret (v := .tuple #[.agg zs, .agg zs2]) ?_ hd h
  have hp' : a.tmps.getD p undef = .pointer (some ⟨n, 0, none⟩) := hp
  have hq' : a.tmps.getD q undef = .pointer (some ⟨n2, 0, none⟩) := hp2
  obtain ⟨d, hd1, hd2⟩ : ∃ d, P.underlying ty = some d ∧ (match d with | .struct _ | .array _ _ => true | _ => false) = true := by
    cases he : P.underlying ty with
    | none => rw [he] at hw; simp [wide] at hw
    | some d => exact ⟨d, rfl, by rw [he] at hw; cases d <;> simp_all [wide]⟩
  obtain ⟨d', hd1', hd2'⟩ : ∃ d, P.underlying ty2 = some d ∧ (match d with | .struct _ | .array _ _ => true | _ => false) = true := by
    cases he : P.underlying ty2 with
    | none => rw [he] at hw2; simp [wide] at hw2
    | some d => exact ⟨d, rfl, by rw [he] at hw2; cases d <;> simp_all [wide]⟩
  have hl : (loadVar ty ⟨n, 0, none⟩).run P w = .ok (.agg zs) w := run_loadVar_row w n T ty zs (0, 0) d hk hd1 (by cases d <;> simp_all) hi
  have hl2 : (loadVar ty2 ⟨n2, 0, none⟩).run P w = .ok (.agg zs2) w := run_loadVar_row w n2 T2 ty2 zs2 (0, 0) d' hk2 hd1' (by cases d' <;> simp_all) hi2
  rw [results_cell2 hr, hp', hq']
  simp only [asAddr, Sem.run_pure, Result.andThen_ok, hl, hl2]
/-- a fault as the document has it -/
def faultcells : SentR → Array Value
  | .bare c => #[.int .i64 (101 + (c : Int)), .bool false, .int .i64 0]
  | .placed c i => #[.int .i64 (101 + (c : Int)), .bool true, .int .i64 (i : Int)]
  | .fine _ => #[.int .i64 0, .bool false, .int .i64 0]
/-- what the document's Check gives back -/
def RCheckR (w : World) (r : SentR) (e : Ending) (w' : World) : Prop := match r with
  | .fine s => ∃ A1 C1 A2 C2 A3 C3, e = .returned (.tuple #[.agg (sentcells s.tid A1 s.seqs.length C1 A2 s.retry.length C2 s.more s.eosp A3 s.bodies.length C3), .agg (faultcells r)]) ∧
      OwnI w' w.heap.size A1 s.seqs.length C1 s.seqs ∧ OwnB w' w.heap.size A2 s.retry.length C2 s.retry ∧ OwnP w' w.heap.size (.slice A3 s.bodies.length C3) s.bodies ∧ Below w.heap.size w w'
  | _ => e = .returned (.tuple #[.agg zsent, .agg (faultcells r)]) ∧ Below w.heap.size w w'

set_option maxRecDepth 100000 in
set_option maxHeartbeats 1000000 in
theorem rcheck_state {w : World} (m : RulesP) (hm : m.session = false) (A : Option Addr) (n C : Nat) :
    Calls Tryd.prog 16 #[.agg (rucells m), .bool true, .slice A n C] w fun e w' => RCheckR w (.bare 9) e w' := by
  have hk := (((Blk.new w (rucells m) 55).alloc (.cells zsent 52)).alloc (.cells #[.int .i64 0, .bool false, .int .i64 0] 47)).alloc (.cells #[.slice A n C] 22)
  have hr := ((Blk.new (w.alloc (.cells (rucells m) 55)) zsent 52).alloc (.cells #[.int .i64 0, .bool false, .int .i64 0] 47)).alloc (.cells #[.slice A n C] 22)
  have hf := (Blk.new ((w.alloc (.cells (rucells m) 55)).alloc (.cells zsent 52)) #[.int .i64 0, .bool false, .int .i64 0] 47).alloc (.cells #[.slice A n C] 22)
  rw [show (w.alloc (.cells (rucells m) 55)).heap.size = w.heap.size + 1 by simp] at hr
  rw [show ((w.alloc (.cells (rucells m) 55)).alloc (.cells zsent 52)).heap.size = w.heap.size + 1 + 1 by simp] at hf
  have hb : Below w.heap.size w ((((w.alloc (.cells (rucells m) 55)).alloc (.cells zsent 52)).alloc (.cells #[.int .i64 0, .bool false, .int .i64 0] 47)).alloc (.cells #[.slice A n C] 22)) :=
    ((((Below.refl _ _).alloc (Nat.le_refl _) _).alloc (by simp) _).alloc (by simp; omega) _).alloc (by simp; omega) _
  have HR := Lib.hid hr
  have HF := Lib.hid hf
  have HB := Lib.hid hb
  have c21 : ((((w.alloc (.cells (rucells m) 55)).alloc (.cells zsent 52)).alloc (.cells #[.int .i64 0, .bool false, .int .i64 0] 47)).alloc (.cells #[.slice A n C] 22)).cell? ⟨w.heap.size, 21, none⟩ = some (.bool false) := by have h := hk.cell 21; rw [h]; show some (Value.bool m.session) = _; rw [hm]
  clear hk hr hf hb
  rw [zsent_eq] at HR HF HB c21
  go_enter Tryd.func16, Tryd.ntmps16
  go_wp2_with fail
  generalize (((w.alloc _).alloc _).alloc _).alloc _ = W at *
  refine (bare_any 110 W).mono ?_
  rintro e w1 ⟨rfl, hb1⟩
  have hr1 := HR.out.below hb1 HR.out.lt
  have HF1 := Lib.hid (HF.out.below hb1 HF.out.lt)
  have HB1 := Lib.hid (HB.out.trans (hb1.mono HB.out.size))
  clear hb1
  go_wp2_with (first
    | (refine wpList_store_blk _ (by rfl) 52 _ _ rfl (w.heap.size + 1) zsent rfl rfl 52 _ hr1 (by kernel_rfl) rfl (by kernel_rfl) ?_; intro w2 hk2 hg2; have hf2 := HF1.out.grown hg2 (by simp); have HB2 := Lib.hid (Below.grown HB1.out hg2 HB1.out.size (by simp)))
    | (refine wpList_store_blk _ (by rfl) 47 _ _ rfl (w.heap.size + 1 + 1) (faultcells (.bare 9)) rfl rfl 47 _ hf2 (by kernel_rfl) rfl (by kernel_rfl) ?_; intro w3 hk3 hg3))
  exact ret_cell2 rfl _ _ _ _ zsent (faultcells (.bare 9)) rfl (hk2.grown hg3 (by simp)) (by kernel_rfl) (by kernel_rfl) rfl hk3 (by kernel_rfl) (by kernel_rfl) rfl ⟨rfl, Below.grown HB2.out hg3 HB2.out.size (by simp; omega)⟩
set_option maxRecDepth 100000 in
set_option maxHeartbeats 1000000 in
theorem rcheck_parts {w : World} (m : RulesP) (hm : m.session = true) (A : Option Addr) (n C : Nat) (b : List UInt8) (h : Row w 1 A n C (b.map u8v)) (hn : n ≤ 1048576) (c : Nat) (hc : partsP b = .error c) :
    Calls Tryd.prog 16 #[.agg (rucells m), .bool true, .slice A n C] w fun e w' => RCheckR w (.bare c) e w' := by
  have hk := (((Blk.new w (rucells m) 55).alloc (.cells zsent 52)).alloc (.cells #[.int .i64 0, .bool false, .int .i64 0] 47)).alloc (.cells #[.slice A n C] 22)
  have hr := ((Blk.new (w.alloc (.cells (rucells m) 55)) zsent 52).alloc (.cells #[.int .i64 0, .bool false, .int .i64 0] 47)).alloc (.cells #[.slice A n C] 22)
  have hf := (Blk.new ((w.alloc (.cells (rucells m) 55)).alloc (.cells zsent 52)) #[.int .i64 0, .bool false, .int .i64 0] 47).alloc (.cells #[.slice A n C] 22)
  rw [show (w.alloc (.cells (rucells m) 55)).heap.size = w.heap.size + 1 by simp] at hr
  rw [show ((w.alloc (.cells (rucells m) 55)).alloc (.cells zsent 52)).heap.size = w.heap.size + 1 + 1 by simp] at hf
  have hb : Below w.heap.size w ((((w.alloc (.cells (rucells m) 55)).alloc (.cells zsent 52)).alloc (.cells #[.int .i64 0, .bool false, .int .i64 0] 47)).alloc (.cells #[.slice A n C] 22)) :=
    ((((Below.refl _ _).alloc (Nat.le_refl _) _).alloc (by simp) _).alloc (by simp; omega) _).alloc (by simp; omega) _
  have HR := Lib.hid hr
  have HF := Lib.hid hf
  have HB := Lib.hid hb
  have c21 : ((((w.alloc (.cells (rucells m) 55)).alloc (.cells zsent 52)).alloc (.cells #[.int .i64 0, .bool false, .int .i64 0] 47)).alloc (.cells #[.slice A n C] 22)).cell? ⟨w.heap.size, 21, none⟩ = some (.bool true) := by have h := hk.cell 21; rw [h]; show some (Value.bool m.session) = _; rw [hm]
  clear hk hr hf hb
  rw [zsent_eq] at HR HF HB c21
  have HRW := Lib.hid h
  have HPE := Lib.hid hc
  clear h hc
  go_enter Tryd.func16, Tryd.ntmps16
  go_wp2_with fail
  generalize (((w.alloc _).alloc _).alloc _).alloc _ = W at *
  have HPC := Lib.hid (refParts_any (w := W) A n C b (HRW.out.below HB.out (Nat.le_refl _)) hn)
  rw [HPE.out] at HPC
  refine HPC.out.mono ?_
  rintro e w0 ⟨rfl, hb0⟩
  have HR0 := Lib.hid (HR.out.below hb0 HR.out.lt)
  have HF0 := Lib.hid (HF.out.below hb0 HF.out.lt)
  have HB0 := Lib.hid (HB.out.trans (hb0.mono HB.out.size))
  have g0 : (101 + (c : Int) != 0) = true := by simp; omega
  have g1 : ¬ (101 + (c : Int) = 0) := by omega
  clear hb0
  go_wp2_with fail
  refine (bare_any (101 + (c : Int)) w0).mono ?_
  rintro e w1 ⟨rfl, hb1⟩
  have hr1 := HR0.out.below hb1 HR0.out.lt
  have HF1 := Lib.hid (HF0.out.below hb1 HF0.out.lt)
  have HB1 := Lib.hid (HB0.out.trans (hb1.mono HB0.out.size))
  clear hb1
  go_wp2_with (first
    | (refine wpList_store_blk _ (by rfl) 52 _ _ rfl (w.heap.size + 1) zsent rfl rfl 52 _ hr1 (by kernel_rfl) rfl (by kernel_rfl) ?_; intro w2 hk2 hg2; have hf2 := HF1.out.grown hg2 (by simp); have HB2 := Lib.hid (Below.grown HB1.out hg2 HB1.out.size (by simp)))
    | (refine wpList_store_blk _ (by rfl) 47 _ _ rfl (w.heap.size + 1 + 1) (faultcells (.bare c)) rfl rfl 47 _ hf2 (by kernel_rfl) rfl (by kernel_rfl) ?_; intro w3 hk3 hg3))
  exact ret_cell2 rfl _ _ _ _ zsent (faultcells (.bare c)) rfl (hk2.grown hg3 (by simp)) (by kernel_rfl) (by kernel_rfl) rfl hk3 (by kernel_rfl) (by kernel_rfl) rfl ⟨rfl, Below.grown HB2.out hg3 HB2.out.size (by simp; omega)⟩
end Go.Proofs.YtoagmehgiaamlaaDoor
