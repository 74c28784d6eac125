/-
  muezzinref.SameAddr, muezzinref.SameQoS1.
-/
import Derived.Test.YtidgomffmeplaaaDoorQosBase
import Derived.Test.YtidgomffmeplaaaDoorSameBytes
import Derived.Deep.MidRow
namespace Go.Proofs.YtidgomffmeplaaaDoor
open Go.ChangeShapes Go.WideShapes Go.ChangeAt Go.RowKit
set_option linter.unusedVariables false

def av (f : Nat → UInt8) : Value := .agg #[.int .u8 ((f 0).toNat : Int), .int .u8 ((f 1).toNat : Int), .int .u8 ((f 2).toNat : Int), .int .u8 ((f 3).toNat : Int), .int .u8 ((f 4).toNat : Int), .int .u8 ((f 5).toNat : Int)]
def sixL (f : Nat → UInt8) : List Value := [.int .u8 ((f 0).toNat : Int), .int .u8 ((f 1).toNat : Int), .int .u8 ((f 2).toNat : Int), .int .u8 ((f 3).toNat : Int), .int .u8 ((f 4).toNat : Int), .int .u8 ((f 5).toNat : Int)]
def sameA (f g : Nat → UInt8) : Bool := (List.range 6).all fun i => f i == g i
theorem sameA_iff {f g : Nat → UInt8} : sameA f g = true ↔ ∀ i, i < 6 → f i = g i := by
  unfold sameA
  rw [List.all_eq_true]
  simp only [List.mem_range, beq_iff_eq]
theorem sameA_no {f g : Nat → UInt8} (k : Nat) (hk : k < 6) (h : ¬ f k = g k) : sameA f g = false := by
  cases hh : sameA f g
  · rfl
  · exact absurd (sameA_iff.1 hh k hk) h
theorem six_at (f : Nat → UInt8) (k : Nat) (hk : k < 6) : (#[.int .u8 ((f 0).toNat : Int), .int .u8 ((f 1).toNat : Int), .int .u8 ((f 2).toNat : Int), .int .u8 ((f 3).toNat : Int), .int .u8 ((f 4).toNat : Int), .int .u8 ((f 5).toNat : Int)] : Array Value)[k]? = some (.int .u8 ((f k).toNat : Int)) := by
  rcases (show k = 0 ∨ k = 1 ∨ k = 2 ∨ k = 3 ∨ k = 4 ∨ k = 5 by omega) with rfl | rfl | rfl | rfl | rfl | rfl <;> rfl

set_option maxHeartbeats 400000 in
theorem sameAddr_any (f g : Nat → UInt8) (w : World) : Calls Tryd.prog 29 #[av f, av g] w fun e w' => e = .returned (.bool (sameA f g)) ∧ Below w.heap.size w w' := by
  unfold av
  have hb0 : Below w.heap.size w ((w.alloc (.cells (sixL f).toArray 30)).alloc (.cells (sixL g).toArray 30)) := ((Below.refl _ _).alloc (Nat.le_refl _) _).alloc (by simp) _
  have hk1 : Blk ((w.alloc (.cells (sixL f).toArray 30)).alloc (.cells (sixL g).toArray 30)) w.heap.size (sixL f).toArray 30 := (Blk.new w (sixL f).toArray 30).alloc _
  have hk2 : Blk ((w.alloc (.cells (sixL f).toArray 30)).alloc (.cells (sixL g).toArray 30)) (w.heap.size + 1) (sixL g).toArray 30 := by
    have := Blk.new (w.alloc (.cells (sixL f).toArray 30)) (sixL g).toArray 30
    simpa using this
  unfold sixL at hb0 hk1 hk2
  go_enter Tryd.func29, Tryd.ntmps29
  go_wp2_with fail
  generalize (w.alloc _).alloc _ = W at *
  go_loopw [5] (fun i wr => ∃ k : Nat, k ≤ 6 ∧ i = .int .i64 k ∧ Hid (∀ j, j < k → f j = g j) ∧ ∃ n, wr = W.drewN n) (fun i _ => 6 - (intOf i).toNat)
  case atStart => exact ⟨0, Nat.zero_le _, rfl, fun j hj => by omega, 0, rfl⟩
  case round =>
    obtain ⟨k, hk, rfl, HE, nd, rfl⟩ := hrel
    by_cases hlt : k < 6
    · have d1 : W.cell? ⟨w.heap.size, k, none⟩ = some (.int .u8 ((f k).toNat : Int)) := (hk1.cell k).trans (six_at f k hlt)
      have d2 : W.cell? ⟨w.heap.size + 1, k, none⟩ = some (.int .u8 ((g k).toNat : Int)) := (hk2.cell k).trans (six_at g k hlt)
      have HX := Lib.hid (show f k = f k from rfl)
      have HQ := Lib.hid (toNat_beq (f k) (g k))
      have e1 : 0 ≤ (k : Int) := by omega
      have e2 : (k : Int) < 6 := by omega
      go_wp2_with fail
      go_quiet (fail)
      go_wp2_with fail
      · have hy : (!(((f k).toNat : Int) == ((g k).toNat : Int))) = true := by assumption
        go_ret
        rw [HQ.out] at hy
        refine ⟨ret_bool (sameA_no k hlt (by simpa using hy)).symm, (hb0.trans (below_drewN _)).trans (below_drewN _)⟩
      · have hy : (!(((f k).toNat : Int) == ((g k).toNat : Int))) = false := by assumption
        go_roundw
        case rel =>
          refine ⟨k + 1, by omega, by go_num, fun j hj => ?_, _, rfl⟩
          rw [HQ.out] at hy
          by_cases hjk : j = k
          · subst hjk
            simpa using hy
          · exact HE.out j (by omega)
        case measure => simp [intOf]; omega
    · have hke : k = 6 := by omega
      have HF := Lib.hid (show sameA f g = true from sameA_iff.2 fun i hi => HE.out i (by omega))
      clear HE
      subst hke
      go_wp2_with fail
      go_ret
      exact ⟨ret_bool HF.out.symm, hb0.trans (below_drewN _)⟩

/-- cells in the midst of a block are loaded as one, at an operation that may be guarded -/
theorem list_load_mid {P : Program} {ops : Array Oper} {rest : List Oper} {op : Oper} {a : Act} {w : World} {Q : Exit → Act → World → Prop} (hgd : Region.wanted op (yielded ops a.tmps) = true) (ty : TypeId) (x : Operand) (ho : op.op = .load ty x)
    (b o : Nat) (hx : a.eval x = .pointer (some ⟨b, o, none⟩)) (cs : List Value) (d : TypeDesc) (hc : w.rangeAt b o cs)
    (hu : P.underlying ty = some d) (hd : d.isRow = true) (hi : (P.info? ty).map (·.size) = some cs.length)
    (h : wpList P ops Q rest (a.put op.dst (.agg cs.toArray)) w) : wpList P ops Q (op :: rest) a w := by
  refine wpList_step fun K hK => ?_
  rw [if_pos hgd]
  exact wp_load_mid ty x ho b o hx cs d hc hu hd hi (hK _ _ h)

theorem Blk.range {w : World} {n : Nat} {cs : Array Value} {t : TypeId} (h : Blk w n cs t) (o : Nat) (l : List Value) (hl : (cs.toList.drop o).take l.length = l) : w.rangeAt n o l := by
  intro j v hv
  rw [h.cell, ← Array.getElem?_toList]
  rw [← hl, List.getElem?_take, List.getElem?_drop] at hv
  split at hv
  · exact hv
  · cases hv

def sameQ (a : Nat → UInt8) (tid seq : Int) (r m e : Bool) (body : List UInt8) (a' : Nat → UInt8) (tid' seq' : Int) (r' m' e' : Bool) (body' : List UInt8) : Bool :=
  sameA a a' && (sameA (fun i => a (6 + i)) (fun i => a' (6 + i)) && (sameA (fun i => a (12 + i)) (fun i => a' (12 + i)) && ((tid == tid') && ((seq == seq') && ((r == r') && ((m == m') && ((e == e') && sameB body body')))))))

set_option maxRecDepth 100000 in
set_option maxHeartbeats 1000000 in
theorem sameQos_any (a : Nat → UInt8) (tid seq : Int) (r m e : Bool) (A : Option Addr) (n C : Nat) (body : List UInt8) (a' : Nat → UInt8) (tid' seq' : Int) (r' m' e' : Bool) (A' : Option Addr) (n' C' : Nat) (body' : List UInt8)
    (w : World) (h : Row w 1 A n C (body.map u8v)) (h' : Row w 1 A' n' C' (body'.map u8v)) :
    Calls Tryd.prog 18 #[qv a tid seq r m e A n C, qv a' tid' seq' r' m' e' A' n' C'] w fun en w' => en = .returned (.bool (sameQ a tid seq r m e body a' tid' seq' r' m' e' body')) ∧ Below w.heap.size w w' := by
  have hb0 : Below w.heap.size w ((w.alloc (.cells (qcells a tid seq r m e A n C) 32)).alloc (.cells (qcells a' tid' seq' r' m' e' A' n' C') 32)) := ((Below.refl _ _).alloc (Nat.le_refl _) _).alloc (by simp) _
  have hk : Blk ((w.alloc (.cells (qcells a tid seq r m e A n C) 32)).alloc (.cells (qcells a' tid' seq' r' m' e' A' n' C') 32)) w.heap.size (qcells a tid seq r m e A n C) 32 := (Blk.new w _ _).alloc _
  have hk' : Blk ((w.alloc (.cells (qcells a tid seq r m e A n C) 32)).alloc (.cells (qcells a' tid' seq' r' m' e' A' n' C') 32)) (w.heap.size + 1) (qcells a' tid' seq' r' m' e' A' n' C') 32 := by
    have := Blk.new (w.alloc (.cells (qcells a tid seq r m e A n C) 32)) (qcells a' tid' seq' r' m' e' A' n' C') 32
    simpa using this
  replace h := (h.alloc (.cells (qcells a tid seq r m e A n C) 32)).alloc (.cells (qcells a' tid' seq' r' m' e' A' n' C') 32)
  replace h' := (h'.alloc (.cells (qcells a tid seq r m e A n C) 32)).alloc (.cells (qcells a' tid' seq' r' m' e' A' n' C') 32)
  have hl0 := hk'.lt
  unfold qv
  go_enter Tryd.func18, Tryd.ntmps18
  go_wp2_with (first
    | (refine list_load_mid (by rfl) 30 _ rfl w.heap.size 0 rfl (sixL a) _ (hk.range 0 _ (by rfl)) Tryd.underlying30 rfl (by kernel_rfl) ?_)
    | (refine list_load_mid (by rfl) 30 _ rfl (w.heap.size + 1) 0 rfl (sixL a') _ (hk'.range 0 _ (by rfl)) Tryd.underlying30 rfl (by kernel_rfl) ?_))
  refine (sameAddr_any a a' _).mono ?_
  rintro en w1 ⟨rfl, hw⟩
  have hs := hw.size
  replace hb0 := hb0.trans (hw.mono (by omega))
  replace hk := hk.below hw (by omega)
  replace hk' := hk'.below hw (by omega)
  replace h := h.below hw (Nat.le_refl _)
  replace h' := h'.below hw (Nat.le_refl _)
  have hl1 := hk'.lt
  clear hw hs hl0
  cases hA1 : sameA a a'
  · go_wp2_with fail
    go_ret
    exact ⟨ret_bool (by unfold sameQ; simp [hA1]), hb0⟩
  go_wp2_with (first
    | (refine list_load_mid (by rfl) 30 _ rfl w.heap.size 6 rfl (sixL (fun i => a (6 + i))) _ (hk.range 6 _ (by rfl)) Tryd.underlying30 rfl (by kernel_rfl) ?_)
    | (refine list_load_mid (by rfl) 30 _ rfl (w.heap.size + 1) 6 rfl (sixL (fun i => a' (6 + i))) _ (hk'.range 6 _ (by rfl)) Tryd.underlying30 rfl (by kernel_rfl) ?_))
  refine (sameAddr_any (fun i => a (6 + i)) (fun i => a' (6 + i)) _).mono ?_
  rintro en w2 ⟨rfl, hw⟩
  have hs := hw.size
  replace hb0 := hb0.trans (hw.mono (by omega))
  replace hk := hk.below hw (by omega)
  replace hk' := hk'.below hw (by omega)
  replace h := h.below hw (Nat.le_refl _)
  replace h' := h'.below hw (Nat.le_refl _)
  have hl2 := hk'.lt
  clear hw hs hl1
  cases hA2 : sameA (fun i => a (6 + i)) (fun i => a' (6 + i))
  · go_wp2_with fail
    go_ret
    exact ⟨ret_bool (by unfold sameQ; simp [hA1, hA2]), hb0⟩
  go_wp2_with (first
    | (refine list_load_mid (by rfl) 30 _ rfl w.heap.size 12 rfl (sixL (fun i => a (12 + i))) _ (hk.range 12 _ (by rfl)) Tryd.underlying30 rfl (by kernel_rfl) ?_)
    | (refine list_load_mid (by rfl) 30 _ rfl (w.heap.size + 1) 12 rfl (sixL (fun i => a' (12 + i))) _ (hk'.range 12 _ (by rfl)) Tryd.underlying30 rfl (by kernel_rfl) ?_))
  refine (sameAddr_any (fun i => a (12 + i)) (fun i => a' (12 + i)) _).mono ?_
  rintro en w3 ⟨rfl, hw⟩
  have hs := hw.size
  replace hb0 := hb0.trans (hw.mono (by omega))
  replace hk := hk.below hw (by omega)
  replace hk' := hk'.below hw (by omega)
  replace h := h.below hw (Nat.le_refl _)
  replace h' := h'.below hw (Nat.le_refl _)
  have hl3 := hk'.lt
  clear hw hs hl2
  cases hA3 : sameA (fun i => a (12 + i)) (fun i => a' (12 + i))
  · go_wp2_with fail
    go_ret
    exact ⟨ret_bool (by unfold sameQ; simp [hA1, hA2, hA3]), hb0⟩
  have c18 : w3.cell? ⟨w.heap.size, 18, none⟩ = some (.int .i64 tid) := hk.cell 18
  have d18 : w3.cell? ⟨w.heap.size + 1, 18, none⟩ = some (.int .i64 tid') := hk'.cell 18
  have c19 : w3.cell? ⟨w.heap.size, 19, none⟩ = some (.int .i64 seq) := hk.cell 19
  have d19 : w3.cell? ⟨w.heap.size + 1, 19, none⟩ = some (.int .i64 seq') := hk'.cell 19
  have c20 : w3.cell? ⟨w.heap.size, 20, none⟩ = some (.bool r) := hk.cell 20
  have d20 : w3.cell? ⟨w.heap.size + 1, 20, none⟩ = some (.bool r') := hk'.cell 20
  have c21 : w3.cell? ⟨w.heap.size, 21, none⟩ = some (.bool m) := hk.cell 21
  have d21 : w3.cell? ⟨w.heap.size + 1, 21, none⟩ = some (.bool m') := hk'.cell 21
  have c22 : w3.cell? ⟨w.heap.size, 22, none⟩ = some (.bool e) := hk.cell 22
  have d22 : w3.cell? ⟨w.heap.size + 1, 22, none⟩ = some (.bool e') := hk'.cell 22
  have c23 : w3.cell? ⟨w.heap.size, 23, none⟩ = some (.slice A n C) := hk.cell 23
  have d23 : w3.cell? ⟨w.heap.size + 1, 23, none⟩ = some (.slice A' n' C') := hk'.cell 23
  clear hk hk'
  cases hq_tid : (tid == tid')
  · go_wp2_with fail
    go_ret
    exact ⟨ret_bool (by unfold sameQ; simp only [hA1, hA2, hA3, hq_tid, Bool.and_false, Bool.false_and, Bool.true_and]), hb0⟩
  cases hq_seq : (seq == seq')
  · go_wp2_with fail
    go_ret
    exact ⟨ret_bool (by unfold sameQ; simp only [hA1, hA2, hA3, hq_tid, hq_seq, Bool.and_false, Bool.false_and, Bool.true_and]), hb0⟩
  cases hq_r : (r == r')
  · go_wp2_with fail
    go_ret
    exact ⟨ret_bool (by unfold sameQ; simp only [hA1, hA2, hA3, hq_tid, hq_seq, hq_r, Bool.and_false, Bool.false_and, Bool.true_and]), hb0⟩
  cases hq_m : (m == m')
  · go_wp2_with fail
    go_ret
    exact ⟨ret_bool (by unfold sameQ; simp only [hA1, hA2, hA3, hq_tid, hq_seq, hq_r, hq_m, Bool.and_false, Bool.false_and, Bool.true_and]), hb0⟩
  cases hq_e : (e == e')
  · go_wp2_with fail
    go_ret
    exact ⟨ret_bool (by unfold sameQ; simp only [hA1, hA2, hA3, hq_tid, hq_seq, hq_r, hq_m, hq_e, Bool.and_false, Bool.false_and, Bool.true_and]), hb0⟩
  go_wp2_with fail
  refine (sameBytes_any A n C body A' n' C' body' _ h h').mono ?_
  rintro en w4 ⟨rfl, nd, rfl⟩
  go_wp2_with fail
  go_ret
  exact ⟨ret_bool (by unfold sameQ; simp only [hA1, hA2, hA3, hq_tid, hq_seq, hq_r, hq_m, hq_e, Bool.true_and]), hb0.trans (below_drewN _)⟩
end Go.Proofs.YtidgomffmeplaaaDoor
