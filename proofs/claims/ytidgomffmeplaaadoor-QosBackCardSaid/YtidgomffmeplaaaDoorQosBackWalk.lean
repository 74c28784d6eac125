/-
  The walk of QosBack.
-/
import Derived.Test.YtidgomffmeplaaaDoorQosBackPlain
import Derived.Test.YtidgomffmeplaaaDoorQosFirst
import Derived.Test.YtidgomffmeplaaaDoorNumber
import Derived.Test.YtidgomffmeplaaaDoorSee
import Derived.Test.YtidgomffmeplaaaDoorSameBytes
import Derived.Test.YtidgomffmeplaaaDoorTurn
namespace Go.Proofs.YtidgomffmeplaaaDoor
open Go.ChangeShapes Go.WideShapes Go.ChangeAt Go.RowKit
set_option linter.unusedVariables false

set_option maxRecDepth 100000 in
set_option maxHeartbeats 2000000 in
theorem qosBack_walk (w : World) {E : Nat → Addr} (hE : Errs allErr w E) (a : Nat → UInt8) (tid seq : Int) (r m e : Bool) (A : Option Addr) (n C : Nat) (body : List UInt8) (hrow : Row w 1 A n C (body.map u8v)) (wt : (Lit.int .i64 tid).wf = true) (ws : (Lit.int .i64 seq).wf = true)
    (A1 : Option Addr) (n1 C1 : Nat) (xs : List UInt8) (hx : Row w 1 A1 n1 C1 (xs.map u8v)) (z : Int) (wz : (Lit.int .i64 z).wf = true) :
    Calls Tryd.prog 6 #[qv a tid seq r m e A n C, .slice A1 n1 C1, .int .i64 z] w fun e w' => e = .returned (.bool true) ∧ Below w.heap.size w w' := by
  obtain ⟨bz0, bz1⟩ := bounds_i64 wz
  clear wz
  have hb0 : Below w.heap.size w (w.alloc (.cells (qcells a tid seq r m e A n C) 32)) := (Below.refl _ _).alloc (Nat.le_refl _) _
  have hk := Blk.new w (qcells a tid seq r m e A n C) 32
  have c23 : (w.alloc (.cells (qcells a tid seq r m e A n C) 32)).cell? ⟨w.heap.size, 23, none⟩ = some (.slice A n C) := hk.cell 23
  have h1 := hE.alloc (.cells (qcells a tid seq r m e A n C) 32)
  have hr1 := hrow.alloc (.cells (qcells a tid seq r m e A n C) 32)
  have hx1 := hx.alloc (.cells (qcells a tid seq r m e A n C) 32)
  unfold qv
  go_enter Tryd.func6, Tryd.ntmps6
  go_wp2_with fail
  refine (first_any _).mono ?_
  rintro en w1 ⟨rfl, hw1⟩
  replace hb0 := hb0.trans (hw1.mono (by simp))
  replace hk := hk.below hw1 (by simp)
  replace c23 := (hw1.cell (by simp)).trans c23
  replace h1 := h1.below hw1 (Nat.le_refl _)
  replace hr1 := hr1.below hw1 (Nat.le_refl _)
  replace hx1 := hx1.below hw1 (Nat.le_refl _)
  have hlt : w.heap.size < w1.heap.size := hk.lt
  clear hw1 hx hrow
  generalize w.alloc _ = W0 at *
  by_cases hn : 200 < (n : Int)
  · go_wp2_with fail
    go_ret
    exact ⟨rfl, hb0⟩
  by_cases hn1 : 200 < (n1 : Int)
  · go_wp2_with fail
    go_ret
    exact ⟨rfl, hb0⟩
  have HE1 := Lib.hid h1
  have HB01 := Lib.hid hb0
  have HK1 := Lib.hid hk
  have HR1 := Lib.hid hr1
  have HX1 := Lib.hid hx1
  have hbl : body.length = n := by simpa using hr1.length
  go_wp2_with fail
  refine (qosRead_any A1 n1 C1 xs _ (h1.sub (by decide)) hx1).mono ?_
  rintro en w2 ⟨a2, t2, s2, r2, m2, e2, A2, n2, C2, b2, rfl, ho2, hq2, hw2⟩
  have hs2 := hw2.size
  clear hb0 h1 hx1 hr1 hk c23
  cases hO : rdErr xs with
  | some j =>
    have ni := err_isnil E (some j)
    have gi := err_guard E (some j)
    clear hq2 hO
    go_wp2_with (first
      | (refine wpList_store_blk _ (by rfl) 32 _ _ rfl w2.heap.size _ rfl rfl 32 _ (Blk.new _ _ _) (by kernel_rfl) rfl (qcells_one _ _ _ _ _ _ _ _ _) ?_; intro w5 hk3 hg3; have hb5 : Below w1.heap.size w1 w5 := Below.stored hw2 (by omega) hg3; have hkf := HK1.out.below hb5 (by omega))
      | (refine wpList_load_blk _ (by rfl) 32 _ rfl w.heap.size rfl 32 _ _ hkf Tryd.underlying32 rfl (by kernel_rfl) ?_))
    clear hk3 hg3 hw2
    have h5 := HE1.out.below hb5 (Nat.le_refl _)
    have hs5 := hb5.size
    clear ni gi
    refine (qosBytes_any a tid seq r m e A n C body _ (h5.sub (by decide)) (HR1.out.below hb5 (Nat.le_refl _))).mono ?_
    rintro en w6 ⟨A6, n6, C6, rfl, ho6, hw6⟩
    have hb6 := hb5.trans (hw6.mono (by omega))
    have h6 := h5.below hw6 (Nat.le_refl _)
    have hs6 := hw6.size
    have ni := err_nonnil E (qerr tid seq n)
    have gi := err_guard' E (qerr tid seq n)
    cases hq : qokB tid seq n
    · have e1 : qerr tid seq n = some 2 := by unfold qerr; rw [hq]; rfl
      have e2 : qres a tid seq r m e n body = [] := by unfold qres; rw [hq]; rfl
      rw [e1] at ni gi ⊢
      rw [e2] at ho6
      have hn6 : n6 = 0 := ho6.len.symm
      subst hn6
      go_wp2_with fail
      go_ret
      exact ⟨rfl, HB01.out.trans (hb6.mono (by omega))⟩
    have e1 : qerr tid seq n = none := by unfold qerr; rw [hq]; rfl
    have e2 : qres a tid seq r m e n body = qbytes a tid seq r m e body := by unfold qres; rw [hq]; rfl
    rw [e1] at ni gi ⊢
    rw [e2] at ho6
    have hok : qok tid seq n := by unfold qokB at hq; simpa using hq
    have hn6 : n6 = 26 + n := by rw [← ho6.len, qbytes_length, hbl]
    subst hn6
    clear e1 e2 hq h5 hb5 hkf hw6
    obtain ⟨g, rfl, hg1, hg2, -⟩ := ho6.open_ (by omega)
    go_wp2_with fail
    refine (qosRead_any _ (26 + n) C6 _ _ (h6.sub (by decide)) ho6.row).mono ?_
    rintro en w7 ⟨a7, t7, s7, r7, m7, e7, A7, n7, C7, b7, rfl, ho7, hq7, hw7⟩
    obtain ⟨hn7, hsame⟩ := read_same (by rw [hbl]; exact hok) hq7
    rw [hn7]
    have HS := Lib.hid hsame
    have hs7 := hw7.size
    have hb7 := hb6.trans (hw7.mono (by omega))
    have ho67 := ho6.below hw7 (Nat.le_refl _)
    clear hq7 hsame hn7 hw7 hb6 ni gi h6 ho6
    obtain ⟨i, hi, hie⟩ := number_nat z 26 (by omega)
    have HI := Lib.hid (show z % 26 = (i : Int) from hie)
    clear hie
    go_wp2_with (refine wpList_store_blk _ (by rfl) 32 _ _ rfl w7.heap.size _ rfl rfl 32 _ (Blk.new _ _ _) (by kernel_rfl) rfl (qcells_one _ _ _ _ _ _ _ _ _) ?_; intro w8 hk8 hg8; have hb78 : Below w7.heap.size w7 w8 := Below.stored (Below.refl _ _) (Nat.le_refl _) hg8)
    have hs8 := hb78.size
    have hb8 := hb7.trans (hb78.mono (by omega))
    have h8 := HE1.out.below hb8 (Nat.le_refl _)
    have ho8 := ho67.below hb78 (Nat.le_refl _)
    have hl8 := hk8.lt
    clear hg8
    refine (number_any z 26 _ (by omega) (by omega) bz0 bz1).mono ?_
    rintro en w8' ⟨rfl, rfl⟩
    rw [HI.out]
    have i1 : (i : Int) ≤ (C6 : Int) := by have := ho8.row.len_cap; omega
    have i2 : (0 : Int) ≤ (i : Int) := by omega
    go_wp2_with fail
    refine (qosRead_any _ i C6 ((qbytes a tid seq r m e body).take i) _ (h8.sub (by decide)) (by rw [List.map_take]; exact ho8.row.pre (by omega))).mono ?_
    rintro en w9 ⟨a9, t9, s9, r9, m9, e9, A9, n9, C9, b9, rfl, ho9, -, hw9⟩
    rw [rdErr_short (by rw [List.length_take]; omega)]
    have hs9 := hw9.size
    have hb79 := hb78.trans (hw9.mono (by omega))
    have hk9 := hk8.below hw9 hl8
    have ni := err_isnil E none
    have gi := err_guard E none
    clear ho9 hw9 ho8 ho67 h8 hk8 hb78
    have elen : (((26 + n : Nat) : Int) == 26 + max (n : Int) 0) = true := by rw [beq_iff_eq]; omega
    go_wp2_with (first
      | (refine wpList_store_blk _ (by rfl) 32 _ _ rfl w9.heap.size _ rfl rfl 32 _ (Blk.new _ _ _) (by kernel_rfl) rfl (qcells_one _ _ _ _ _ _ _ _ _) ?_; intro w10 hk10 hg10; have hb710 : Below w7.heap.size w7 w10 := Below.stored hb79 (by omega) hg10; have hk10' := hk9.below (Below.stored (Below.refl _ _) (Nat.le_refl _) hg10) hk9.lt; have hb10 := hb7.trans (hb710.mono (by omega)); have hf10 := HK1.out.below hb10 (by omega))
      | (refine wpList_load_blk _ (by rfl) 32 _ rfl w7.heap.size rfl 32 _ _ hk10' Tryd.underlying32 rfl (by kernel_rfl) ?_)
      | (refine wpList_load_blk _ (by rfl) 32 _ rfl w.heap.size rfl 32 _ _ hf10 Tryd.underlying32 rfl (by kernel_rfl) ?_))
    refine (sameQos_any a7 t7 s7 r7 m7 e7 A7 n7 C7 b7 a tid seq r m e A n C body _ (ho7.below hb710 (Nat.le_refl _)).row (HR1.out.below hb10 (Nat.le_refl _))).mono ?_
    rintro en w11 ⟨rfl, hw11⟩
    rw [HS.out]
    have hs10 := hb10.size
    have hb11 := hb10.trans (hw11.mono (by omega))
    have h11 := HE1.out.below hb11 (Nat.le_refl _)
    have hs11 := hw11.size
    clear hk10 hg10 hk10' hf10
    go_wp2_with fail
    refine (is_any h11 (some 0) (by intro i h; cases h; decide) 101).mono ?_
    rintro en w12 ⟨rfl, hw12⟩
    rw [show (errCode (some 0) == 101) = true from rfl]
    have hb12 := hb11.trans (hw12.mono (by omega))
    have hs12 := hw12.size
    have c23 := (HK1.out.below hb12 (by omega)).cell 23
    replace c23 : w12.cell? ⟨w.heap.size, 23, none⟩ = some (.slice A n C) := c23
    go_wp2_with fail
    refine (qosLen_any (n : Int) _ (by omega)).mono ?_
    rintro en w13 ⟨rfl, rfl⟩
    go_wp2_with fail
    go_ret
    exact ⟨rfl, HB01.out.trans (hb12.mono (by omega))⟩
  | none =>
    have ni := err_isnil E none
    have gi := err_guard E none
    have hok2 := read_ok xs hO
    have hbk := read_back xs hO
    obtain ⟨g1, g2, g3, g4, g5, g6, g7⟩ := hq2 hO
    rw [← g1, ← g2, ← g3, ← g4, ← g5, ← g6, ← g7] at hbk
    rw [← g2, ← g3, ← g7] at hok2
    clear g1 g2 g3 g4 g5 g6 g7 hq2
    have HBK := Lib.hid hbk
    clear hbk
    have hl2 : b2.length = n2 := ho2.len
    rw [hl2] at hok2
    have hqB : qokB t2 s2 n2 = true := by unfold qokB; simpa using hok2
    have e1 : qerr t2 s2 n2 = none := by unfold qerr; rw [hqB]; rfl
    have e2' : qres a2 t2 s2 r2 m2 e2 n2 b2 = xs := by unfold qres; rw [hqB]; exact HBK.out
    go_wp2_with (first
      | (refine wpList_store_blk _ (by rfl) 32 _ _ rfl w2.heap.size _ rfl rfl 32 _ (Blk.new _ _ _) (by kernel_rfl) rfl (qcells_one _ _ _ _ _ _ _ _ _) ?_; intro w3 hk3 hg3; have hb3 : Below w1.heap.size w1 w3 := Below.stored hw2 (by omega) hg3; have ho3 := ho2.stored hg3)
      | (refine wpList_load_blk _ (by rfl) 32 _ rfl w2.heap.size rfl 32 _ _ hk3 Tryd.underlying32 rfl (by kernel_rfl) ?_))
    have h3 := HE1.out.below hb3 (Nat.le_refl _)
    have hs3 := hb3.size
    refine (qosBytes_any a2 t2 s2 r2 m2 e2 A2 n2 C2 b2 _ (h3.sub (by decide)) ho3.row).mono ?_
    rintro en w4 ⟨A4, n4, C4, rfl, ho4, hw4⟩
    rw [e2'] at ho4
    rw [e1]
    have hb4 := hb3.trans (hw4.mono (by omega))
    have hkf := HK1.out.below hb4 (by omega)
    have ni := err_nonnil E none
    have gi := err_guard' E none
    clear hk3 hg3 hw2 hw4 hb3 ho3 ho2 e1 e2' h3 hO hok2 hqB HBK
    go_wp2_with fail
    refine (sameBytes_any A4 n4 C4 xs A1 n1 C1 xs _ ho4.row (HX1.out.below hb4 (Nat.le_refl _))).mono ?_
    rintro en w5 ⟨rfl, hd5⟩
    rw [sameB_refl]
    have hb5 : Below w1.heap.size w1 w5 := hb4.trans (drewN_below hd5)
    replace hkf := HK1.out.below hb5 (by omega)
    clear hb4 ho4 hd5
    go_wp2_with (refine wpList_load_blk _ (by rfl) 32 _ rfl w.heap.size rfl 32 _ _ hkf Tryd.underlying32 rfl (by kernel_rfl) ?_)
    have h5 := HE1.out.below hb5 (Nat.le_refl _)
    have hs5 := hb5.size
    clear ni gi
    refine (qosBytes_any a tid seq r m e A n C body _ (h5.sub (by decide)) (HR1.out.below hb5 (Nat.le_refl _))).mono ?_
    rintro en w6 ⟨A6, n6, C6, rfl, ho6, hw6⟩
    have hb6 := hb5.trans (hw6.mono (by omega))
    have h6 := h5.below hw6 (Nat.le_refl _)
    have hs6 := hw6.size
    have ni := err_nonnil E (qerr tid seq n)
    have gi := err_guard' E (qerr tid seq n)
    cases hq : qokB tid seq n
    · have e1 : qerr tid seq n = some 2 := by unfold qerr; rw [hq]; rfl
      have e2 : qres a tid seq r m e n body = [] := by unfold qres; rw [hq]; rfl
      rw [e1] at ni gi ⊢
      rw [e2] at ho6
      have hn6 : n6 = 0 := ho6.len.symm
      subst hn6
      go_wp2_with fail
      go_ret
      exact ⟨rfl, HB01.out.trans (hb6.mono (by omega))⟩
    have e1 : qerr tid seq n = none := by unfold qerr; rw [hq]; rfl
    have e2 : qres a tid seq r m e n body = qbytes a tid seq r m e body := by unfold qres; rw [hq]; rfl
    rw [e1] at ni gi ⊢
    rw [e2] at ho6
    have hok : qok tid seq n := by unfold qokB at hq; simpa using hq
    have hn6 : n6 = 26 + n := by rw [← ho6.len, qbytes_length, hbl]
    subst hn6
    clear e1 e2 hq h5 hb5 hkf hw6
    obtain ⟨g, rfl, hg1, hg2, -⟩ := ho6.open_ (by omega)
    go_wp2_with fail
    refine (qosRead_any _ (26 + n) C6 _ _ (h6.sub (by decide)) ho6.row).mono ?_
    rintro en w7 ⟨a7, t7, s7, r7, m7, e7, A7, n7, C7, b7, rfl, ho7, hq7, hw7⟩
    obtain ⟨hn7, hsame⟩ := read_same (by rw [hbl]; exact hok) hq7
    rw [hn7]
    have HS := Lib.hid hsame
    have hs7 := hw7.size
    have hb7 := hb6.trans (hw7.mono (by omega))
    have ho67 := ho6.below hw7 (Nat.le_refl _)
    clear hq7 hsame hn7 hw7 hb6 ni gi h6 ho6
    obtain ⟨i, hi, hie⟩ := number_nat z 26 (by omega)
    have HI := Lib.hid (show z % 26 = (i : Int) from hie)
    clear hie
    go_wp2_with (refine wpList_store_blk _ (by rfl) 32 _ _ rfl w7.heap.size _ rfl rfl 32 _ (Blk.new _ _ _) (by kernel_rfl) rfl (qcells_one _ _ _ _ _ _ _ _ _) ?_; intro w8 hk8 hg8; have hb78 : Below w7.heap.size w7 w8 := Below.stored (Below.refl _ _) (Nat.le_refl _) hg8)
    have hs8 := hb78.size
    have hb8 := hb7.trans (hb78.mono (by omega))
    have h8 := HE1.out.below hb8 (Nat.le_refl _)
    have ho8 := ho67.below hb78 (Nat.le_refl _)
    have hl8 := hk8.lt
    clear hg8
    refine (number_any z 26 _ (by omega) (by omega) bz0 bz1).mono ?_
    rintro en w8' ⟨rfl, rfl⟩
    rw [HI.out]
    have i1 : (i : Int) ≤ (C6 : Int) := by have := ho8.row.len_cap; omega
    have i2 : (0 : Int) ≤ (i : Int) := by omega
    go_wp2_with fail
    refine (qosRead_any _ i C6 ((qbytes a tid seq r m e body).take i) _ (h8.sub (by decide)) (by rw [List.map_take]; exact ho8.row.pre (by omega))).mono ?_
    rintro en w9 ⟨a9, t9, s9, r9, m9, e9, A9, n9, C9, b9, rfl, ho9, -, hw9⟩
    rw [rdErr_short (by rw [List.length_take]; omega)]
    have hs9 := hw9.size
    have hb79 := hb78.trans (hw9.mono (by omega))
    have hk9 := hk8.below hw9 hl8
    have ni := err_isnil E none
    have gi := err_guard E none
    clear ho9 hw9 ho8 ho67 h8 hk8 hb78
    have elen : (((26 + n : Nat) : Int) == 26 + max (n : Int) 0) = true := by rw [beq_iff_eq]; omega
    go_wp2_with (first
      | (refine wpList_store_blk _ (by rfl) 32 _ _ rfl w9.heap.size _ rfl rfl 32 _ (Blk.new _ _ _) (by kernel_rfl) rfl (qcells_one _ _ _ _ _ _ _ _ _) ?_; intro w10 hk10 hg10; have hb710 : Below w7.heap.size w7 w10 := Below.stored hb79 (by omega) hg10; have hk10' := hk9.below (Below.stored (Below.refl _ _) (Nat.le_refl _) hg10) hk9.lt; have hb10 := hb7.trans (hb710.mono (by omega)); have hf10 := HK1.out.below hb10 (by omega))
      | (refine wpList_load_blk _ (by rfl) 32 _ rfl w7.heap.size rfl 32 _ _ hk10' Tryd.underlying32 rfl (by kernel_rfl) ?_)
      | (refine wpList_load_blk _ (by rfl) 32 _ rfl w.heap.size rfl 32 _ _ hf10 Tryd.underlying32 rfl (by kernel_rfl) ?_))
    refine (sameQos_any a7 t7 s7 r7 m7 e7 A7 n7 C7 b7 a tid seq r m e A n C body _ (ho7.below hb710 (Nat.le_refl _)).row (HR1.out.below hb10 (Nat.le_refl _))).mono ?_
    rintro en w11 ⟨rfl, hw11⟩
    rw [HS.out]
    have hs10 := hb10.size
    have hb11 := hb10.trans (hw11.mono (by omega))
    have h11 := HE1.out.below hb11 (Nat.le_refl _)
    have hs11 := hw11.size
    clear hk10 hg10 hk10' hf10
    go_wp2_with fail
    refine (is_any h11 (some 0) (by intro i h; cases h; decide) 101).mono ?_
    rintro en w12 ⟨rfl, hw12⟩
    rw [show (errCode (some 0) == 101) = true from rfl]
    have hb12 := hb11.trans (hw12.mono (by omega))
    have hs12 := hw12.size
    have c23 := (HK1.out.below hb12 (by omega)).cell 23
    replace c23 : w12.cell? ⟨w.heap.size, 23, none⟩ = some (.slice A n C) := c23
    go_wp2_with fail
    refine (qosLen_any (n : Int) _ (by omega)).mono ?_
    rintro en w13 ⟨rfl, rfl⟩
    go_wp2_with fail
    go_ret
    exact ⟨rfl, HB01.out.trans (hb12.mono (by omega))⟩
end Go.Proofs.YtidgomffmeplaaaDoor
