/-
  The walk of QosKinds.
-/
import Derived.Test.YtidgomffmeplaaaDoorQosReadAny
import Derived.Test.YtidgomffmeplaaaDoorQosFirst
import Derived.Test.YtidgomffmeplaaaDoorNumber
import Derived.Test.YtidgomffmeplaaaDoorSee
import Derived.Test.YtidgomffmeplaaaDoorZeros
import Derived.Test.YtidgomffmeplaaaDoorBytes
namespace Go.Proofs.YtidgomffmeplaaaDoor
open Go.ChangeShapes Go.WideShapes Go.ChangeAt Go.RowKit
set_option linter.unusedVariables false

theorem kinds1 {o : Option Nat} {x y : UInt8} (h : o = if x ≠ 136 then some 4 else if (y == 2 || y == 10 || y == 34 || y == 42) = false then some 1 else none) (hx : ((x.toNat : Int) != 136) = true) : (errCode o == 105) = true := by
  have : x ≠ 136 := by rintro rfl; simp at hx
  rw [h, if_pos this]; rfl
theorem x136 {x : UInt8} (hx : ((x.toNat : Int) != 136) = false) : x = 136 := by
  have : (x.toNat : Int) = 136 := by simpa using hx
  apply UInt8.toNat_inj.1
  show x.toNat = 136
  omega
theorem kinds2 {o : Option Nat} {x y : UInt8} (h : o = if x ≠ 136 then some 4 else if (y == 2 || y == 10 || y == 34 || y == 42) = false then some 1 else none) (hx : ((x.toNat : Int) != 136) = false) (hy : (bits .andNot .u8 (y.toNat : Int) 40 != 2) = true) : (errCode o == 102) = true := by
  have hq := go_form1 y
  have hy' : (!(bits .andNot .u8 (y.toNat : Int) 40 == 2)) = true := hy
  rw [hy'] at hq
  rw [h, if_neg (by rw [x136 hx]; simp), if_pos (by simpa using hq.symm)]; rfl
theorem kinds3 {o : Option Nat} {x y : UInt8} (h : o = if x ≠ 136 then some 4 else if (y == 2 || y == 10 || y == 34 || y == 42) = false then some 1 else none) (hx : ((x.toNat : Int) != 136) = false) (hy : (bits .andNot .u8 (y.toNat : Int) 40 != 2) = false) : (errCode o == 0) = true := by
  have hq := go_form1 y
  have hy' : (!(bits .andNot .u8 (y.toNat : Int) 40 == 2)) = false := hy
  rw [hy'] at hq
  have hq2 : (y == 2 || y == 10 || y == 34 || y == 42) = true := by cases hh : (y == 2 || y == 10 || y == 34 || y == 42) <;> simp [hh] at hq ⊢
  rw [h, if_neg (by rw [x136 hx]; simp), if_neg (by rw [hq2]; simp)]; rfl

set_option maxRecDepth 100000 in
set_option maxHeartbeats 2000000 in
theorem qosKinds_walk (w : World) {E : Nat → Addr} (hE : Errs allErr w E) (a : Nat → UInt8) (tid seq : Int) (r m e : Bool) (A : Option Addr) (n C : Nat) (body : List UInt8) (hrow : Row w 1 A n C (body.map u8v)) (wt : (Lit.int .i64 tid).wf = true) (ws : (Lit.int .i64 seq).wf = true)
    (x : Int) (wx : (Lit.int .u8 x).wf = true) (y : Int) (wy : (Lit.int .u8 y).wf = true) :
    Calls Tryd.prog 4 #[qv a tid seq r m e A n C, .int .u8 x, .int .u8 y] w fun e w' => e = .returned (.bool true) ∧ Below w.heap.size w w' := by
  obtain ⟨x, rfl⟩ := u8_of_wf wx
  obtain ⟨y, rfl⟩ := u8_of_wf wy
  clear wx wy
  have hb0 : Below w.heap.size w (w.alloc (.cells (qcells a tid seq r m e A n C) 32)) := (Below.refl _ _).alloc (Nat.le_refl _) _
  have hk := Blk.new w (qcells a tid seq r m e A n C) 32
  have c23 : (w.alloc (.cells (qcells a tid seq r m e A n C) 32)).cell? ⟨w.heap.size, 23, none⟩ = some (.slice A n C) := hk.cell 23
  have h1 := hE.alloc (.cells (qcells a tid seq r m e A n C) 32)
  have hr1 := hrow.alloc (.cells (qcells a tid seq r m e A n C) 32)
  unfold qv
  go_enter Tryd.func4, Tryd.ntmps4
  go_wp2_with fail
  refine (first_any _).mono ?_
  rintro en w1 ⟨rfl, hw1⟩
  replace hb0 := hb0.trans (hw1.mono (by simp))
  replace hk := hk.below hw1 (by simp)
  replace c23 := (hw1.cell (by simp)).trans c23
  replace h1 := h1.below hw1 (Nat.le_refl _)
  replace hr1 := hr1.below hw1 (Nat.le_refl _)
  have hlt : w.heap.size < w1.heap.size := hk.lt
  clear hw1
  generalize w.alloc _ = W0 at *
  by_cases hn : 60 < (n : Int)
  · go_wp2_with fail
    go_ret
    exact ⟨rfl, hb0⟩
  have HE1' := Lib.hid h1
  have HB01 := Lib.hid hb0
  clear hb0
  have hb0 : Below w1.heap.size w1 w1 := Below.refl _ _
  go_wp2_with (refine wpList_load_blk _ (by rfl) 32 _ rfl w.heap.size rfl 32 _ _ hk Tryd.underlying32 rfl (by kernel_rfl) ?_)
  refine (qosBytes_any a tid seq r m e A n C body _ (h1.sub (by decide)) hr1).mono ?_
  rintro en w2 ⟨A2, n2, C2, rfl, ho, hw2⟩
  replace hb0 := hb0.trans hw2
  replace h1 := h1.below hw2 (Nat.le_refl _)
  have hbl := hr1.length
  clear hr1 hk c23
  have hlt2 : w.heap.size < w2.heap.size := by have := hw2.size; omega
  have ni := err_nonnil E (qerr tid seq n)
  have gi := err_guard' E (qerr tid seq n)
  cases hq : qokB tid seq n
  · have e1 : qerr tid seq n = some 2 := by unfold qerr; rw [hq]; rfl
    have e2 : qres a tid seq r m e n body = [] := by unfold qres; rw [hq]; rfl
    rw [e1] at ni gi ⊢
    rw [e2] at ho
    have hn2 : n2 = 0 := ho.len.symm
    subst hn2
    go_wp2_with fail
    go_ret
    exact ⟨rfl, HB01.out.trans (hb0.mono (by omega))⟩
  have e1 : qerr tid seq n = none := by unfold qerr; rw [hq]; rfl
  have e2 : qres a tid seq r m e n body = qbytes a tid seq r m e body := by unfold qres; rw [hq]; rfl
  rw [e1] at ni gi ⊢
  rw [e2] at ho
  have hok : qok tid seq n := by unfold qokB at hq; simpa using hq
  have hbl : body.length = n := by simpa using hbl
  have hn60 : n ≤ 60 := by omega
  have hn2 : n2 = 26 + n := by rw [← ho.len, qbytes_length, hbl]
  subst hn2
  clear e1 e2 hE hrow hn
  go_wp2_with fail
  refine (bytes_any A2 (26 + n) C2 (qbytes a tid seq r m e body) _ ho.row (by omega)).mono ?_
  rintro en w3 ⟨A3, n3, C3, rfl, ho3, hw3⟩
  have hn3 : n3 = 26 + n := by rw [← ho3.len, qbytes_length, hbl]
  subst hn3
  obtain ⟨g, rfl, hg1, hg2, hcell, hfro, hset⟩ := ho3.open_ (by omega)
  have hq0 : w3.cell? ⟨g, 0, none⟩ = some (.int .u8 (((qbytes a tid seq r m e body)[0]'(by rw [qbytes_length]; omega)).toNat : Int)) := hcell 0 _
  have hq1 : w3.cell? ⟨g, 1, none⟩ = some (.int .u8 (((qbytes a tid seq r m e body)[1]'(by rw [qbytes_length]; omega)).toNat : Int)) := hcell 1 _
  have hf0 := hfro 0
  have hf1 := hfro 1
  have o4 := hset 0 x
  have hb4 := hw3.setCell (p := ⟨g, 0, none⟩) hg1 (.int .u8 (x.toNat : Int))
  obtain ⟨g', hg', _, _, _, _, hset4⟩ := o4.open_ (by omega)
  obtain rfl : g = g' := by injection hg' with e; injection e
  have o5 := hset4 1 y
  have hb5 := hb4.setCell (p := ⟨g, 1, none⟩) hg1 (.int .u8 (y.toNat : Int))
  clear hg' hset4 hset hcell hfro o4 hb4 ho3
  have i0 : (0 : Int) < ((26 + n : Nat) : Int) := by omega
  have i1 : (1 : Int) < ((26 + n : Nat) : Int) := by omega
  have hL : ((qbytes a tid seq r m e body).set 0 x).set 1 y = x :: y :: ((qhead a tid seq r m e).drop 2 ++ body) := rfl
  rw [hL] at o5
  have h5 := h1.below hb5 (Nat.le_refl _)
  have hbl3 := Lib.hid (show Below w1.heap.size w1 _ from hb0.trans (hb5.mono (by have := hw2.size; omega)))
  have ho5 := Lib.hid (ho.below hb5 (Nat.le_refl _))
  have hb5' := Lib.hid hb5
  clear hb5 hb0 hL
  have hbn : body.length ≤ 1500 := by omega
  have hE1 := rdErr_turned a tid seq r m e body hok.1 hok.2.1 x y
  rw [if_neg (show ¬ 1500 < body.length by omega)] at hE1
  go_wp2_with fail
  generalize (w3.setCell _ _).setCell _ _ = w5 at *
  refine (qosRead_any _ (26 + n) C3 _ _ (h5.sub (by decide)) o5.row).mono ?_
  rintro en w6 ⟨a6, t6, s6, r6, m6, e6, A6, n6, C6, b6, rfl, ho6, -, hw6⟩
  generalize hO1 : rdErr (x :: y :: ((qhead a tid seq r m e).drop 2 ++ body)) = o1 at *
  have HO1 := Lib.hid hO1
  have HE1 := Lib.hid hE1
  clear hO1 hE1 ho6
  have h6 := h5.below hw6 (Nat.le_refl _)
  have o6 := o5.below hw6 (Nat.le_refl _)
  have hs6 := hw6.size
  have HI1 := Lib.hid (show ∀ i, o1 = some i → i ∈ allErr from fun i hi => rdErr_all i (HO1.out.trans hi))
  have g25 : (25 : Int) ≤ (C3 : Int) := by have := o6.row.len_cap; omega
  have g25' : (25 : Int) ≤ ((26 + n : Nat) : Int) := by omega
  have ob6 := ho5.out.below hw6 (Nat.le_refl _)
  have HB6 := Lib.hid (hbl3.out.trans (hw6.mono (by have := hb5'.out.size; have := hw2.size; omega)))
  have hwl : w.heap.size < w6.heap.size := by have := hb5'.out.size; omega
  have hs16 : w1.heap.size ≤ w6.heap.size := by have := hb5'.out.size; have := hw2.size; omega
  clear ho5 hbl3 hb5' h5 o5
  go_wp2_with (refine wpList_store_blk _ (by rfl) 32 _ _ rfl w6.heap.size _ rfl rfl 32 _ (Blk.new _ _ _) (by kernel_rfl) rfl (qcells_one _ _ _ _ _ _ _ _ _) ?_; intro w7 hk7 hg7; have hb7 : Below w6.heap.size w6 w7 := Below.grown ((Below.refl _ _).alloc (Nat.le_refl _) _) hg7 (by simp) (by simp); have h7 := h6.below hb7 (Nat.le_refl _); have o7 := o6.below hb7 (Nat.le_refl _); have ob7 := ob6.below hb7 (Nat.le_refl _); have HB7 := Lib.hid (HB6.out.trans (hb7.mono (by omega))); have hs7 := hb7.size; clear hk7 hg7 hb7)
  all_goals
    refine (qosRead_any _ 25 C3 ((x :: y :: ((qhead a tid seq r m e).drop 2 ++ body)).take 25) _ (h7.sub (by decide)) (by rw [List.map_take]; exact o7.row.pre (by omega))).mono ?_
    rintro en w8 ⟨a8, t8, s8, r8, m8, e8, A8, n8, C8, b8, rfl, ho8, -, hw8⟩
    rw [rdErr_short (by rw [List.length_take]; omega)]
    clear ho8 o7
    have h8 := h7.below hw8 (Nat.le_refl _)
    have ob8 := ob7.below hw8 (Nat.le_refl _)
    have HB8 := Lib.hid (HB7.out.trans (hw8.mono (by omega)))
    have hs8 := hw8.size
    have hbase : w1.heap.size ≤ w8.heap.size := by omega
    go_wp2_with (first
      | (refine wpList_store_blk _ (by rfl) 32 _ _ rfl w8.heap.size _ rfl rfl 32 _ (Blk.new _ _ _) (by kernel_rfl) rfl (qcells_one _ _ _ _ _ _ _ _ _) ?_; intro w9 hk9 hg9; have hb9 : Below w8.heap.size w8 w9 := Below.grown ((Below.refl _ _).alloc (Nat.le_refl _) _) hg9 (by simp) (by simp); have h9 := h8.below hb9 (Nat.le_refl _); have ob9 := ob8.below hb9 (Nat.le_refl _); have HB9 := Lib.hid (HB8.out.trans (hb9.mono (by omega))); have hs9 := hb9.size; clear hk9 hg9 hb9)
      | (at_builtin; refine list_zeros_u8 _ (by rfl) _ _ rfl w1.heap.size A2 (26 + n) C2 _ rfl ob9 .i64 1501 rfl (by omega) (by omega) (by omega) (by omega) (by omega) ?_; intro A10 C10 w10 o10 hg10 hat10))
    have hb10 : Below w1.heap.size w1 w10 := below_grown HB9.out ob9 (Nat.le_refl _) (by omega) hg10
    have h10 := HE1'.out.below hb10 (Nat.le_refl _)
    have HB10 := Lib.hid hb10
    have hs10 := hb10.size
    clear hat10 hg10 ob9 hb10
    refine (qosRead_any A10 (26 + n + 1501) C10 _ _ (h10.sub (by decide)) o10.row).mono ?_
    rintro en w11 ⟨a11, t11, s11, r11, m11, e11, A11, n11, C11, b11, rfl, ho11, -, hw11⟩
    have e11' : rdErr (qbytes a tid seq r m e body ++ List.replicate 1501 0) = some 2 := by
      unfold qbytes
      rw [List.append_assoc, rdErr_own a tid seq r m e _ hok.1 hok.2.1, if_pos (by rw [List.length_append, List.length_replicate]; omega)]
    rw [e11']
    clear ho11 e11' o10
    have h11 := h10.below hw11 (Nat.le_refl _)
    have HB11 := Lib.hid (HB10.out.trans (hw11.mono (by omega)))
    have hs11 := hw11.size
    go_wp2_with (refine wpList_store_blk _ (by rfl) 32 _ _ rfl w11.heap.size _ rfl rfl 32 _ (Blk.new _ _ _) (by kernel_rfl) rfl (qcells_one _ _ _ _ _ _ _ _ _) ?_; intro w12 hk12 hg12; have hb12 : Below w11.heap.size w11 w12 := Below.grown ((Below.refl _ _).alloc (Nat.le_refl _) _) hg12 (by simp) (by simp); have h12 := h11.below hb12 (Nat.le_refl _); have HB12 := Lib.hid (HB11.out.trans (hb12.mono (by omega))); have hs12 := hb12.size; clear hk12 hg12 hb12)
    refine (is_any h12 o1 HI1.out _).mono ?_
    rintro en w13 ⟨rfl, hw13⟩
    have h13 := h12.below hw13 (Nat.le_refl _)
    have HB13 := Lib.hid (HB12.out.trans (hw13.mono (by omega)))
    have hs13 := hw13.size
    first
      | rw [kinds1 HE1.out (by assumption)]
      | rw [kinds2 HE1.out (by assumption) (by assumption)]
      | rw [kinds3 HE1.out (by assumption) (by assumption)]
    go_wp2_with fail
    refine (is_any h13 (some 0) (by intro i h; cases h; decide) 101).mono ?_
    rintro en w14 ⟨rfl, hw14⟩
    have h14 := h13.below hw14 (Nat.le_refl _)
    have hs14 := hw14.size
    rw [show (errCode (some 0) == 101) = true from rfl]
    go_wp2_with fail
    refine (is_any h14 (some 2) (by intro i h; cases h; decide) 103).mono ?_
    rintro en w15 ⟨rfl, hw15⟩
    rw [show (errCode (some 2) == 103) = true from rfl]
    go_wp2_with fail
    go_ret
    exact ⟨rfl, HB01.out.trans (((HB13.out.trans (hw14.mono (by omega))).trans (hw15.mono (by omega))).mono (by omega))⟩
end Go.Proofs.YtidgomffmeplaaaDoor
