/-
  The walk of QosTurned.
-/
import Derived.Test.YtidgomffmeplaaaDoorQosBackPlain
import Derived.Test.YtidgomffmeplaaaDoorQosFirst
import Derived.Test.YtidgomffmeplaaaDoorNumber
import Derived.Test.YtidgomffmeplaaaDoorSee
import Derived.Test.YtidgomffmeplaaaDoorTurn
namespace Go.Proofs.YtidgomffmeplaaaDoor
open Go.ChangeShapes Go.WideShapes Go.ChangeAt Go.RowKit
set_option linter.unusedVariables false

/-- a turned head is another frame's, or none's -/
theorem turned_law (a : Nat → UInt8) (tid seq : Int) (r m e : Bool) (body : List UInt8) (i : Nat) (hi : i < 208) (hn : rdErr (tflip (qbytes a tid seq r m e body) i) = none)
    {a' : Nat → UInt8} {tid' seq' : Int} {r' m' e' : Bool} {body' : List UInt8} (hq : QRead (tflip (qbytes a tid seq r m e body) i) a' tid' seq' r' m' e' body') : sameQ a' tid' seq' r' m' e' body' a tid seq r m e body = false := by
  cases h : sameQ a' tid' seq' r' m' e' body' a tid seq r m e body
  · rfl
  · exfalso
    have h1 := sameQ_bytes h
    obtain ⟨rfl, rfl, rfl, rfl, rfl, rfl, rfl⟩ := hq hn
    rw [read_back _ hn] at h1
    exact tflip_ne _ _ (by rw [qbytes_length]; omega) h1

set_option maxRecDepth 100000 in
set_option maxHeartbeats 2000000 in
theorem qosTurned_walk (w : World) {E : Nat → Addr} (hE : Errs [0, 1, 2, 4] w E) (a : Nat → UInt8) (tid seq : Int) (r m e : Bool) (A : Option Addr) (n C : Nat) (body : List UInt8) (hrow : Row w 1 A n C (body.map u8v)) (wt : (Lit.int .i64 tid).wf = true) (ws : (Lit.int .i64 seq).wf = true)
    (z : Int) (wz : (Lit.int .i64 z).wf = true) :
    Calls Tryd.prog 7 #[qv a tid seq r m e A n C, .int .i64 z] w fun e w' => e = .returned (.bool true) ∧ Below w.heap.size w w' := by
  obtain ⟨bz0, bz1⟩ := bounds_i64 wz
  clear wz
  have hb0 : Below w.heap.size w (w.alloc (.cells (qcells a tid seq r m e A n C) 32)) := (Below.refl _ _).alloc (Nat.le_refl _) _
  have hk := Blk.new w (qcells a tid seq r m e A n C) 32
  have c23 : (w.alloc (.cells (qcells a tid seq r m e A n C) 32)).cell? ⟨w.heap.size, 23, none⟩ = some (.slice A n C) := hk.cell 23
  have h1 := hE.alloc (.cells (qcells a tid seq r m e A n C) 32)
  have hr1 := hrow.alloc (.cells (qcells a tid seq r m e A n C) 32)
  unfold qv
  go_enter Tryd.func7, Tryd.ntmps7
  go_wp2_with fail
  refine (first_any _).mono ?_
  rintro en w1 ⟨rfl, hw1⟩
  replace hb0 := hb0.trans (hw1.mono (by simp))
  replace hk := hk.below hw1 (by simp)
  replace c23 := (hw1.cell (by simp)).trans c23
  replace h1 := h1.below hw1 (Nat.le_refl _)
  replace hr1 := hr1.below hw1 (Nat.le_refl _)
  have hlt : w.heap.size < w1.heap.size := hk.lt
  clear hw1
  generalize w.alloc _ = W0 at *
  by_cases hn : 60 < (n : Int)
  · go_wp2_with fail
    go_ret
    exact ⟨rfl, hb0⟩
  have HE1' := Lib.hid h1
  have HB01 := Lib.hid hb0
  clear hb0
  have hb0 : Below w1.heap.size w1 w1 := Below.refl _ _
  go_wp2_with (refine wpList_load_blk _ (by rfl) 32 _ rfl w.heap.size rfl 32 _ _ hk Tryd.underlying32 rfl (by kernel_rfl) ?_)
  refine (qosBytes_any a tid seq r m e A n C body _ (h1.sub (by decide)) hr1).mono ?_
  rintro en w2 ⟨A2, n2, C2, rfl, ho, hw2⟩
  replace hb0 := hb0.trans hw2
  replace h1 := h1.below hw2 (Nat.le_refl _)
  have hbl := hr1.length
  have HK1 := Lib.hid hk
  have HR1 := Lib.hid hr1
  clear hr1 hk c23
  have hlt2 : w.heap.size < w2.heap.size := by have := hw2.size; omega
  have ni := err_nonnil E (qerr tid seq n)
  have gi := err_guard' E (qerr tid seq n)
  cases hq : qokB tid seq n
  · have e1 : qerr tid seq n = some 2 := by unfold qerr; rw [hq]; rfl
    have e2 : qres a tid seq r m e n body = [] := by unfold qres; rw [hq]; rfl
    rw [e1] at ni gi ⊢
    rw [e2] at ho
    have hn2 : n2 = 0 := ho.len.symm
    subst hn2
    go_wp2_with fail
    go_ret
    exact ⟨rfl, HB01.out.trans (hb0.mono (by omega))⟩
  have e1 : qerr tid seq n = none := by unfold qerr; rw [hq]; rfl
  have e2 : qres a tid seq r m e n body = qbytes a tid seq r m e body := by unfold qres; rw [hq]; rfl
  rw [e1] at ni gi ⊢
  rw [e2] at ho
  have hok : qok tid seq n := by unfold qokB at hq; simpa using hq
  have hbl : body.length = n := by simpa using hbl
  have hn60 : n ≤ 60 := by omega
  have hn2 : n2 = 26 + n := by rw [← ho.len, qbytes_length, hbl]
  subst hn2
  clear e1 e2 hE hrow hn
  go_wp2_with fail
  obtain ⟨i, hi, hie⟩ := number_nat z 208 (by omega)
  have HI := Lib.hid (show z % 208 = (i : Int) from hie)
  clear hie
  refine (number_any z 208 _ (by omega) (by omega) bz0 bz1).mono ?_
  rintro en w3 ⟨rfl, rfl⟩
  rw [HI.out]
  obtain ⟨g, rfl, hg1, hg2, -⟩ := ho.open_ (by omega)
  obtain ⟨X, hc, hf, o4⟩ := tflip_open ho i (by omega)
  have hb4 := hb0.setCell (p := ⟨g, i / 8, none⟩) hg1 (.int .u8 (bits .xor .u8 (X.toNat : Int) ((2 : Int) ^ (i % 8) % (256 : Int))))
  have i1 : i / 8 < 26 + n := by omega
  go_wp2_with fail
  go_simp
  go_wp2_with fail
  have HT := Lib.hid (@turned_law a tid seq r m e body i hi)
  generalize tflip (qbytes a tid seq r m e body) i = L at *
  generalize w2.setCell _ _ = w4 at *
  clear hc hf ho
  have h4 := HE1'.out.below hb4 (Nat.le_refl _)
  have hs4 := hb4.size
  refine (qosRead_any _ (26 + n) C2 L _ (h4.sub (by decide)) o4.row).mono ?_
  rintro en w5 ⟨a5, t5, s5, r5, m5, e5, A5, n5, C5, b5, rfl, ho5, hq5, hw5⟩
  have hs5 := hw5.size
  have hb5 := hb4.trans (hw5.mono (by omega))
  clear hw5 h4 h1 hw2 hb0 o4
  cases hO : rdErr L with
  | some j =>
    have ni := err_nonnil E (some j)
    have gi := err_guard' E (some j)
    clear hO
    go_wp2_with (refine wpList_store_blk _ (by rfl) 32 _ _ rfl w5.heap.size _ rfl rfl 32 _ (Blk.new _ _ _) (by kernel_rfl) rfl (qcells_one _ _ _ _ _ _ _ _ _) ?_; intro w6 hk6 hg6; have hb6 : Below w1.heap.size w1 w6 := Below.stored hb5 (by omega) hg6; clear hk6 hg6)
    go_ret
    exact ⟨rfl, HB01.out.trans (hb6.mono (by omega))⟩
  | none =>
    have ni := err_nonnil E none
    have gi := err_guard' E none
    have HF := Lib.hid (HT.out hO hq5)
    clear hO hq5
    go_wp2_with (first
      | (refine wpList_store_blk _ (by rfl) 32 _ _ rfl w5.heap.size _ rfl rfl 32 _ (Blk.new _ _ _) (by kernel_rfl) rfl (qcells_one _ _ _ _ _ _ _ _ _) ?_; intro w6 hk6 hg6; have hb6 : Below w1.heap.size w1 w6 := Below.stored hb5 (by omega) hg6; have hf6 := HK1.out.below hb6 (by omega); have hr6 := HR1.out.below hb6 (Nat.le_refl _); have ho6 := ho5.stored hg6)
      | (refine wpList_load_blk _ (by rfl) 32 _ rfl w5.heap.size rfl 32 _ _ hk6 Tryd.underlying32 rfl (by kernel_rfl) ?_)
      | (refine wpList_load_blk _ (by rfl) 32 _ rfl w.heap.size rfl 32 _ _ hf6 Tryd.underlying32 rfl (by kernel_rfl) ?_))
    refine (sameQos_any a5 t5 s5 r5 m5 e5 A5 n5 C5 b5 a tid seq r m e A n C body _ ho6.row hr6).mono ?_
    rintro en w7 ⟨rfl, hw7⟩
    rw [HF.out]
    have hs6 := hb6.size
    go_wp2_with fail
    go_ret
    exact ⟨rfl, HB01.out.trans ((hb6.trans (hw7.mono (by omega))).mono (by omega))⟩
end Go.Proofs.YtidgomffmeplaaaDoor
