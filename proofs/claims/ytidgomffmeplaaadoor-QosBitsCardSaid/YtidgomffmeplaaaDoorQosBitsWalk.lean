/-
  The walk of QosBits.
-/
import Derived.Test.YtidgomffmeplaaaDoorQosBackPlain
import Derived.Test.YtidgomffmeplaaaDoorQosFirst
import Derived.Test.YtidgomffmeplaaaDoorBytes
import Derived.Test.YtidgomffmeplaaaDoorTurn
namespace Go.Proofs.YtidgomffmeplaaaDoor
open Go.ChangeShapes Go.WideShapes Go.ChangeAt Go.RowKit
set_option linter.unusedVariables false

set_option maxRecDepth 100000 in
set_option maxHeartbeats 2000000 in
theorem qosBits_walk (w : World) {E : Nat → Addr} (hE : Errs [0, 1, 2, 4] w E) (a : Nat → UInt8) (tid seq : Int) (r m e : Bool) (A : Option Addr) (n C : Nat) (body : List UInt8) (hrow : Row w 1 A n C (body.map u8v)) (wt : (Lit.int .i64 tid).wf = true) (ws : (Lit.int .i64 seq).wf = true) :
    Calls Tryd.prog 8 #[qv a tid seq r m e A n C] w fun e w' => e = .returned (.bool true) ∧ Below w.heap.size w w' := by
  have hb0 : Below w.heap.size w (w.alloc (.cells (qcells a tid seq r m e A n C) 32)) := (Below.refl _ _).alloc (Nat.le_refl _) _
  have hk := Blk.new w (qcells a tid seq r m e A n C) 32
  have c23 : (w.alloc (.cells (qcells a tid seq r m e A n C) 32)).cell? ⟨w.heap.size, 23, none⟩ = some (.slice A n C) := hk.cell 23
  have h1 := hE.alloc (.cells (qcells a tid seq r m e A n C) 32)
  have hr1 := hrow.alloc (.cells (qcells a tid seq r m e A n C) 32)
  unfold qv
  go_enter Tryd.func8, Tryd.ntmps8
  go_wp2_with fail
  refine (first_any _).mono ?_
  rintro en w1 ⟨rfl, hw1⟩
  replace hb0 := hb0.trans (hw1.mono (by simp))
  replace hk := hk.below hw1 (by simp)
  replace c23 := (hw1.cell (by simp)).trans c23
  replace h1 := h1.below hw1 (Nat.le_refl _)
  replace hr1 := hr1.below hw1 (Nat.le_refl _)
  have hlt : w.heap.size < w1.heap.size := hk.lt
  clear hw1
  generalize w.alloc _ = W0 at *
  by_cases hn : 60 < (n : Int)
  · go_wp2_with fail
    go_ret
    exact ⟨rfl, hb0⟩
  have HE1' := Lib.hid h1
  have HB01 := Lib.hid hb0
  clear hb0
  have hb0 : Below w1.heap.size w1 w1 := Below.refl _ _
  go_wp2_with (refine wpList_load_blk _ (by rfl) 32 _ rfl w.heap.size rfl 32 _ _ hk Tryd.underlying32 rfl (by kernel_rfl) ?_)
  refine (qosBytes_any a tid seq r m e A n C body _ (h1.sub (by decide)) hr1).mono ?_
  rintro en w2 ⟨A2, n2, C2, rfl, ho, hw2⟩
  replace hb0 := hb0.trans hw2
  replace h1 := h1.below hw2 (Nat.le_refl _)
  have hbl := hr1.length
  have HK1 := Lib.hid hk
  have HR1 := Lib.hid hr1
  clear hr1 hk c23
  have hlt2 : w.heap.size < w2.heap.size := by have := hw2.size; omega
  have ni := err_nonnil E (qerr tid seq n)
  have gi := err_guard' E (qerr tid seq n)
  cases hq : qokB tid seq n
  · have e1 : qerr tid seq n = some 2 := by unfold qerr; rw [hq]; rfl
    have e2 : qres a tid seq r m e n body = [] := by unfold qres; rw [hq]; rfl
    rw [e1] at ni gi ⊢
    rw [e2] at ho
    have hn2 : n2 = 0 := ho.len.symm
    subst hn2
    go_wp2_with fail
    go_ret
    exact ⟨rfl, HB01.out.trans (hb0.mono (by omega))⟩
  have e1 : qerr tid seq n = none := by unfold qerr; rw [hq]; rfl
  have e2 : qres a tid seq r m e n body = qbytes a tid seq r m e body := by unfold qres; rw [hq]; rfl
  rw [e1] at ni gi ⊢
  rw [e2] at ho
  have hok : qok tid seq n := by unfold qokB at hq; simpa using hq
  have hbl : body.length = n := by simpa using hbl
  have hn60 : n ≤ 60 := by omega
  have hn2 : n2 = 26 + n := by rw [← ho.len, qbytes_length, hbl]
  subst hn2
  clear e1 e2 hE hrow hn
  go_wp2_with fail
  have hkA : Blk ((w2.alloc (.cells #[.int .i64 1, .int .i64 1, .int .i64 24] 3)).alloc (.cells #[.int .u8 8, .int .u8 32, .int .u8 16] 5)) w2.heap.size #[.int .i64 1, .int .i64 1, .int .i64 24] 3 := (Blk.new _ _ _).alloc _
  have hkB : Blk ((w2.alloc (.cells #[.int .i64 1, .int .i64 1, .int .i64 24] 3)).alloc (.cells #[.int .u8 8, .int .u8 32, .int .u8 16] 5)) (w2.heap.size + 1) #[.int .u8 8, .int .u8 32, .int .u8 16] 5 := by
    have := Blk.new (w2.alloc (.cells #[.int .i64 1, .int .i64 1, .int .i64 24] 3)) #[.int .u8 8, .int .u8 32, .int .u8 16] 5
    simpa using this
  have hs2 := hw2.size
  have hbW : Below w1.heap.size w1 ((w2.alloc (.cells #[.int .i64 1, .int .i64 1, .int .i64 24] 3)).alloc (.cells #[.int .u8 8, .int .u8 32, .int .u8 16] 5)) := (hb0.alloc (by omega) _).alloc (by simp; omega) _
  replace ho := (ho.alloc (.cells #[.int .i64 1, .int .i64 1, .int .i64 24] 3)).alloc (.cells #[.int .u8 8, .int .u8 32, .int .u8 16] 5)
  clear hb0 h1 hw2
  generalize (w2.alloc _).alloc _ = W at *
  generalize hpp : w2.heap.size = pp at *
  clear hpp
  have hlB := hkB.lt
  have HA := Lib.hid hkA
  have HB := Lib.hid hkB
  have HO := Lib.hid ho
  have HW := Lib.hid hbW
  clear hkA hkB ho hbW
  go_loopw [8] (fun i wr => ∃ k : Nat, k ≤ 3 ∧ i = .int .i64 k ∧ Hid (Below W.heap.size W wr)) (fun i _ => 3 - (intOf i).toNat)
  case atStart => exact ⟨0, by omega, rfl, Lib.hid (Below.refl _ _)⟩
  case round =>
    obtain ⟨k, hk3, rfl, hR⟩ := hrel
    have hbr := HW.out.trans (hR.out.mono (by have := HW.out.size; omega))
    have hsr := hR.out.size
    have hsW := HW.out.size
    have ho1 := HO.out.below hR.out (Nat.le_refl _)
    have hka := HA.out.below hR.out (by omega)
    have hkb := HB.out.below hR.out (by omega)
    rcases (show k = 3 ∨ k = 0 ∨ k = 1 ∨ k = 2 by omega) with h3 | h0 | h1 | h2
    · subst h3
      go_wp2_with fail
      go_ret
      exact ⟨rfl, HB01.out.trans (hbr.mono (by omega))⟩
    · subst h0
      go_wp2_with fail
      refine (bytes_any A2 (26 + n) C2 _ _ ho1.row (by omega)).mono ?_
      rintro en w3 ⟨A3, n3, C3, rfl, ho3, hw3⟩
      have hn3 : n3 = 26 + n := by rw [← ho3.len, qbytes_length, hbl]
      subst hn3
      obtain ⟨g, rfl, hg1, hg2, hcell, hfro, hset⟩ := ho3.open_ (by omega)
      obtain ⟨X, hX⟩ : ∃ X, X = UInt8.ofNat (qflags r m) := ⟨_, rfl⟩
      obtain ⟨Y, hY⟩ : ∃ Y, Y = X ^^^ 8 := ⟨_, rfl⟩
      have d1 : w3.cell? ⟨pp, 0, none⟩ = some (.int .i64 1) := (hka.below hw3 (by omega)).cell 0
      have d2 : w3.cell? ⟨pp + 1, 0, none⟩ = some (.int .u8 8) := (hkb.below hw3 (by omega)).cell 0
      have d3 : w3.cell? ⟨g, 1, none⟩ = some (.int .u8 (X.toNat : Int)) := by rw [hX]; exact hcell 1 (by rw [qbytes_length]; omega)
      have d4 := hfro 1
      have o4 := hset 1 Y
      rw [hY, hX, flip_retry, ← hX, ← hY] at o4
      have hx : bits .xor .u8 (X.toNat : Int) 8 = (Y.toNat : Int) := by rw [hY]; exact u8_xor_go X 8
      have i1 : (1 : Int) < ((26 + n : Nat) : Int) := by omega
      have hge : w1.heap.size ≤ g := by omega
      have hb4 := ((hbr.trans (hw3.mono (by omega))).setCell (p := ⟨g, 1, none⟩) hge (.int .u8 (Y.toNat : Int))).trans (below_drewN 1)
      have HO4 := Lib.hid o4
      have hgW : W.heap.size ≤ g := by omega
      have HW4 := Lib.hid (((hR.out.trans (hw3.mono (by omega))).setCell (p := ⟨g, 1, none⟩) hgW (.int .u8 (Y.toNat : Int))).trans (below_drewN 1))
      have HB4 := Lib.hid hb4
      have hs3 := hw3.size
      clear hcell hfro hset hX hY o4 hb4 ho3 hka hkb hbr ho1
      go_wp2_with fail
      go_region
      go_wp2_with fail
      have hW4 : Below W.heap.size W (w3.setCell ⟨g, 1, none⟩ (.int .u8 (Y.toNat : Int))).drew := HW4.out
      have hb4 : Below w1.heap.size w1 (w3.setCell ⟨g, 1, none⟩ (.int .u8 (Y.toNat : Int))).drew := HB4.out
      have o4 : OwnU8 (w3.setCell ⟨g, 1, none⟩ (.int .u8 (Y.toNat : Int))).drew wr.heap.size (some ⟨g, 0, none⟩) (26 + n) C3 (qbytes a tid seq (!r) m e body) := HO4.out
      have hs4 : w3.heap.size ≤ (w3.setCell ⟨g, 1, none⟩ (.int .u8 (Y.toNat : Int))).drew.heap.size := by simp [World.setCell]
      clear HO4 HB4 HW4 d1 d2 d3 d4 hw3 hx
      generalize (World.drew (w3.setCell _ _)) = w4 at *
      have h4 := HE1'.out.below hb4 (Nat.le_refl _)
      refine (qosRead_any _ (26 + n) C3 _ _ (h4.sub (by decide)) o4.row).mono ?_
      rintro en w5 ⟨a5, t5, s5, r5, m5, e5, A5, n5, C5, b5, rfl, ho5, hq5, hw5⟩
      obtain ⟨hn5, hsame⟩ := read_same (by rw [hbl]; exact hok) hq5
      rw [hn5]
      have HS := Lib.hid hsame
      have hs5 := hw5.size
      have hb5 := hb4.trans (hw5.mono (by omega))
      have HW5 := Lib.hid (hW4.trans (hw5.mono (by omega)))
      clear hW4
      have hf5 := HK1.out.below hb5 (by omega)
      have hr5 := HR1.out.below hb5 (Nat.le_refl _)
      have ni := err_nonnil E none
      have gi := err_guard' E none
      clear hw5 h4 o4 hq5 hsame hn5 hb4
      go_wp2_with (first
        | (refine wpList_load_blk _ (by rfl) 32 _ rfl w5.heap.size rfl 32 _ _ hk8 Tryd.underlying32 rfl (by kernel_rfl) ?_)
        | (refine wpList_load_blk _ (by rfl) 32 _ rfl w6.heap.size rfl 32 _ _ hv8 Tryd.underlying32 rfl (by kernel_rfl) ?_)
        | (refine wpList_load_blk _ (by rfl) 32 _ rfl w.heap.size rfl 32 _ _ hf6 Tryd.underlying32 rfl (by kernel_rfl) ?_)
        | (refine wpList_store_blk _ (by rfl) 32 _ _ rfl w5.heap.size _ rfl rfl 32 _ (Blk.new _ _ _) (by kernel_rfl) rfl (qcells_one _ _ _ _ _ _ _ _ _) ?_; intro w6 hk6 hg6; have hb56 : Below w5.heap.size w5 w6 := Below.stored (Below.refl _ _) (Nat.le_refl _) hg6; have hf6 := hf5.below hb56 (by omega); have hl6 := hk6.lt; clear hg6)
        | (refine wpList_store_blk _ (by rfl) 32 _ _ rfl w6.heap.size _ rfl rfl 32 _ (Blk.new _ _ _) (by kernel_rfl) rfl (qcells_one _ _ _ _ _ _ _ _ _) ?_; intro w7 hk7 hg7; have hb67 : Below w6.heap.size w6 w7 := Below.stored (Below.refl _ _) (Nat.le_refl _) hg7; have hb68 : Below w6.heap.size w6 (w7.setCell ⟨w6.heap.size, 20, none⟩ (.bool (!r))) := hb67.setCell (p := ⟨w6.heap.size, 20, none⟩) (Nat.le_refl _) _; have hk8 : Blk (w7.setCell ⟨w6.heap.size, 20, none⟩ (.bool (!r))) w5.heap.size (qcells a5 t5 s5 r5 m5 e5 A5 n5 C5) 32 := hk6.below hb68 hl6; have hv8 : Blk (w7.setCell ⟨w6.heap.size, 20, none⟩ (.bool (!r))) w6.heap.size (qcells a tid seq (!r) m e A n C) 32 := hk7.set_ 20 (.bool (!r)); have c20 : w7.cell? ⟨w.heap.size, 20, none⟩ = some (.bool r) := (hf6.below hb67 (by omega)).cell 20; have e20 : w7.cell? ⟨w6.heap.size, 20, none⟩ = some (.bool r) := hk7.cell 20; have f20 := hk7.frozen 20; clear hg7))
      have hb58 := hb56.trans (hb68.mono (by omega))
      refine (sameQos_any a5 t5 s5 r5 m5 e5 A5 n5 C5 b5 a tid seq (!r) m e A n C body _ (ho5.below hb58 (Nat.le_refl _)).row (hr5.below hb58 (Nat.le_refl _))).mono ?_
      rintro en w9 ⟨rfl, hw9⟩
      rw [HS.out]
      have hbz := (hb58.mono (show W.heap.size ≤ w5.heap.size by omega)).trans (hw9.mono (by have := hb58.size; omega))
      go_wp2_with fail
      go_roundw
      case rel => exact ⟨1, by omega, rfl, Lib.hid (HW5.out.trans hbz)⟩
      case measure => simp [intOf]
    · subst h1
      go_wp2_with fail
      refine (bytes_any A2 (26 + n) C2 _ _ ho1.row (by omega)).mono ?_
      rintro en w3 ⟨A3, n3, C3, rfl, ho3, hw3⟩
      have hn3 : n3 = 26 + n := by rw [← ho3.len, qbytes_length, hbl]
      subst hn3
      obtain ⟨g, rfl, hg1, hg2, hcell, hfro, hset⟩ := ho3.open_ (by omega)
      obtain ⟨X, hX⟩ : ∃ X, X = UInt8.ofNat (qflags r m) := ⟨_, rfl⟩
      obtain ⟨Y, hY⟩ : ∃ Y, Y = X ^^^ 32 := ⟨_, rfl⟩
      have d1 : w3.cell? ⟨pp, 1, none⟩ = some (.int .i64 1) := (hka.below hw3 (by omega)).cell 1
      have d2 : w3.cell? ⟨pp + 1, 1, none⟩ = some (.int .u8 32) := (hkb.below hw3 (by omega)).cell 1
      have d3 : w3.cell? ⟨g, 1, none⟩ = some (.int .u8 (X.toNat : Int)) := by rw [hX]; exact hcell 1 (by rw [qbytes_length]; omega)
      have d4 := hfro 1
      have o4 := hset 1 Y
      rw [hY, hX, flip_more, ← hX, ← hY] at o4
      have hx : bits .xor .u8 (X.toNat : Int) 32 = (Y.toNat : Int) := by rw [hY]; exact u8_xor_go X 32
      have i1 : (1 : Int) < ((26 + n : Nat) : Int) := by omega
      have hge : w1.heap.size ≤ g := by omega
      have hb4 := ((hbr.trans (hw3.mono (by omega))).setCell (p := ⟨g, 1, none⟩) hge (.int .u8 (Y.toNat : Int))).trans (below_drewN 1)
      have HO4 := Lib.hid o4
      have hgW : W.heap.size ≤ g := by omega
      have HW4 := Lib.hid (((hR.out.trans (hw3.mono (by omega))).setCell (p := ⟨g, 1, none⟩) hgW (.int .u8 (Y.toNat : Int))).trans (below_drewN 1))
      have HB4 := Lib.hid hb4
      have hs3 := hw3.size
      clear hcell hfro hset hX hY o4 hb4 ho3 hka hkb hbr ho1
      go_wp2_with fail
      go_region
      go_wp2_with fail
      have hW4 : Below W.heap.size W (w3.setCell ⟨g, 1, none⟩ (.int .u8 (Y.toNat : Int))).drew := HW4.out
      have hb4 : Below w1.heap.size w1 (w3.setCell ⟨g, 1, none⟩ (.int .u8 (Y.toNat : Int))).drew := HB4.out
      have o4 : OwnU8 (w3.setCell ⟨g, 1, none⟩ (.int .u8 (Y.toNat : Int))).drew wr.heap.size (some ⟨g, 0, none⟩) (26 + n) C3 (qbytes a tid seq r (!m) e body) := HO4.out
      have hs4 : w3.heap.size ≤ (w3.setCell ⟨g, 1, none⟩ (.int .u8 (Y.toNat : Int))).drew.heap.size := by simp [World.setCell]
      clear HO4 HB4 HW4 d1 d2 d3 d4 hw3 hx
      generalize (World.drew (w3.setCell _ _)) = w4 at *
      have h4 := HE1'.out.below hb4 (Nat.le_refl _)
      refine (qosRead_any _ (26 + n) C3 _ _ (h4.sub (by decide)) o4.row).mono ?_
      rintro en w5 ⟨a5, t5, s5, r5, m5, e5, A5, n5, C5, b5, rfl, ho5, hq5, hw5⟩
      obtain ⟨hn5, hsame⟩ := read_same (by rw [hbl]; exact hok) hq5
      rw [hn5]
      have HS := Lib.hid hsame
      have hs5 := hw5.size
      have hb5 := hb4.trans (hw5.mono (by omega))
      have HW5 := Lib.hid (hW4.trans (hw5.mono (by omega)))
      clear hW4
      have hf5 := HK1.out.below hb5 (by omega)
      have hr5 := HR1.out.below hb5 (Nat.le_refl _)
      have ni := err_nonnil E none
      have gi := err_guard' E none
      clear hw5 h4 o4 hq5 hsame hn5 hb4
      go_wp2_with (first
        | (refine wpList_load_blk _ (by rfl) 32 _ rfl w5.heap.size rfl 32 _ _ hk8 Tryd.underlying32 rfl (by kernel_rfl) ?_)
        | (refine wpList_load_blk _ (by rfl) 32 _ rfl w6.heap.size rfl 32 _ _ hv8 Tryd.underlying32 rfl (by kernel_rfl) ?_)
        | (refine wpList_load_blk _ (by rfl) 32 _ rfl w.heap.size rfl 32 _ _ hf6 Tryd.underlying32 rfl (by kernel_rfl) ?_)
        | (refine wpList_store_blk _ (by rfl) 32 _ _ rfl w5.heap.size _ rfl rfl 32 _ (Blk.new _ _ _) (by kernel_rfl) rfl (qcells_one _ _ _ _ _ _ _ _ _) ?_; intro w6 hk6 hg6; have hb56 : Below w5.heap.size w5 w6 := Below.stored (Below.refl _ _) (Nat.le_refl _) hg6; have hf6 := hf5.below hb56 (by omega); have hl6 := hk6.lt; clear hg6)
        | (refine wpList_store_blk _ (by rfl) 32 _ _ rfl w6.heap.size _ rfl rfl 32 _ (Blk.new _ _ _) (by kernel_rfl) rfl (qcells_one _ _ _ _ _ _ _ _ _) ?_; intro w7 hk7 hg7; have hb67 : Below w6.heap.size w6 w7 := Below.stored (Below.refl _ _) (Nat.le_refl _) hg7; have hb68 : Below w6.heap.size w6 (w7.setCell ⟨w6.heap.size, 21, none⟩ (.bool (!m))) := hb67.setCell (p := ⟨w6.heap.size, 21, none⟩) (Nat.le_refl _) _; have hk8 : Blk (w7.setCell ⟨w6.heap.size, 21, none⟩ (.bool (!m))) w5.heap.size (qcells a5 t5 s5 r5 m5 e5 A5 n5 C5) 32 := hk6.below hb68 hl6; have hv8 : Blk (w7.setCell ⟨w6.heap.size, 21, none⟩ (.bool (!m))) w6.heap.size (qcells a tid seq r (!m) e A n C) 32 := hk7.set_ 21 (.bool (!m)); have c20 : w7.cell? ⟨w.heap.size, 21, none⟩ = some (.bool m) := (hf6.below hb67 (by omega)).cell 21; have e20 : w7.cell? ⟨w6.heap.size, 21, none⟩ = some (.bool m) := hk7.cell 21; have f20 := hk7.frozen 21; clear hg7))
      have hb58 := hb56.trans (hb68.mono (by omega))
      refine (sameQos_any a5 t5 s5 r5 m5 e5 A5 n5 C5 b5 a tid seq r (!m) e A n C body _ (ho5.below hb58 (Nat.le_refl _)).row (hr5.below hb58 (Nat.le_refl _))).mono ?_
      rintro en w9 ⟨rfl, hw9⟩
      rw [HS.out]
      have hbz := (hb58.mono (show W.heap.size ≤ w5.heap.size by omega)).trans (hw9.mono (by have := hb58.size; omega))
      go_wp2_with fail
      go_roundw
      case rel => exact ⟨2, by omega, rfl, Lib.hid (HW5.out.trans hbz)⟩
      case measure => simp [intOf]
    · subst h2
      go_wp2_with fail
      refine (bytes_any A2 (26 + n) C2 _ _ ho1.row (by omega)).mono ?_
      rintro en w3 ⟨A3, n3, C3, rfl, ho3, hw3⟩
      have hn3 : n3 = 26 + n := by rw [← ho3.len, qbytes_length, hbl]
      subst hn3
      obtain ⟨g, rfl, hg1, hg2, hcell, hfro, hset⟩ := ho3.open_ (by omega)
      obtain ⟨X, hX⟩ : ∃ X, X = UInt8.ofNat (qtid tid e) := ⟨_, rfl⟩
      obtain ⟨Y, hY⟩ : ∃ Y, Y = X ^^^ 16 := ⟨_, rfl⟩
      have d1 : w3.cell? ⟨pp, 2, none⟩ = some (.int .i64 24) := (hka.below hw3 (by omega)).cell 2
      have d2 : w3.cell? ⟨pp + 1, 2, none⟩ = some (.int .u8 16) := (hkb.below hw3 (by omega)).cell 2
      have d3 : w3.cell? ⟨g, 24, none⟩ = some (.int .u8 (X.toNat : Int)) := by rw [hX]; exact hcell 24 (by rw [qbytes_length]; omega)
      have d4 := hfro 24
      have o4 := hset 24 Y
      rw [hY, hX, flip_eosp _ _ _ _ _ _ _ hok.1 hok.2.1, ← hX, ← hY] at o4
      have hx : bits .xor .u8 (X.toNat : Int) 16 = (Y.toNat : Int) := by rw [hY]; exact u8_xor_go X 16
      have i1 : (24 : Int) < ((26 + n : Nat) : Int) := by omega
      have hge : w1.heap.size ≤ g := by omega
      have hb4 := ((hbr.trans (hw3.mono (by omega))).setCell (p := ⟨g, 24, none⟩) hge (.int .u8 (Y.toNat : Int))).trans (below_drewN 1)
      have HO4 := Lib.hid o4
      have hgW : W.heap.size ≤ g := by omega
      have HW4 := Lib.hid (((hR.out.trans (hw3.mono (by omega))).setCell (p := ⟨g, 24, none⟩) hgW (.int .u8 (Y.toNat : Int))).trans (below_drewN 1))
      have HB4 := Lib.hid hb4
      have hs3 := hw3.size
      clear hcell hfro hset hX hY o4 hb4 ho3 hka hkb hbr ho1
      go_wp2_with fail
      go_region
      go_wp2_with fail
      have hW4 : Below W.heap.size W (w3.setCell ⟨g, 24, none⟩ (.int .u8 (Y.toNat : Int))).drew := HW4.out
      have hb4 : Below w1.heap.size w1 (w3.setCell ⟨g, 24, none⟩ (.int .u8 (Y.toNat : Int))).drew := HB4.out
      have o4 : OwnU8 (w3.setCell ⟨g, 24, none⟩ (.int .u8 (Y.toNat : Int))).drew wr.heap.size (some ⟨g, 0, none⟩) (26 + n) C3 (qbytes a tid seq r m (!e) body) := HO4.out
      have hs4 : w3.heap.size ≤ (w3.setCell ⟨g, 24, none⟩ (.int .u8 (Y.toNat : Int))).drew.heap.size := by simp [World.setCell]
      clear HO4 HB4 HW4 d1 d2 d3 d4 hw3 hx
      generalize (World.drew (w3.setCell _ _)) = w4 at *
      have h4 := HE1'.out.below hb4 (Nat.le_refl _)
      refine (qosRead_any _ (26 + n) C3 _ _ (h4.sub (by decide)) o4.row).mono ?_
      rintro en w5 ⟨a5, t5, s5, r5, m5, e5, A5, n5, C5, b5, rfl, ho5, hq5, hw5⟩
      obtain ⟨hn5, hsame⟩ := read_same (by rw [hbl]; exact hok) hq5
      rw [hn5]
      have HS := Lib.hid hsame
      have hs5 := hw5.size
      have hb5 := hb4.trans (hw5.mono (by omega))
      have HW5 := Lib.hid (hW4.trans (hw5.mono (by omega)))
      clear hW4
      have hf5 := HK1.out.below hb5 (by omega)
      have hr5 := HR1.out.below hb5 (Nat.le_refl _)
      have ni := err_nonnil E none
      have gi := err_guard' E none
      clear hw5 h4 o4 hq5 hsame hn5 hb4
      go_wp2_with (first
        | (refine wpList_load_blk _ (by rfl) 32 _ rfl w5.heap.size rfl 32 _ _ hk8 Tryd.underlying32 rfl (by kernel_rfl) ?_)
        | (refine wpList_load_blk _ (by rfl) 32 _ rfl w6.heap.size rfl 32 _ _ hv8 Tryd.underlying32 rfl (by kernel_rfl) ?_)
        | (refine wpList_load_blk _ (by rfl) 32 _ rfl w.heap.size rfl 32 _ _ hf6 Tryd.underlying32 rfl (by kernel_rfl) ?_)
        | (refine wpList_store_blk _ (by rfl) 32 _ _ rfl w5.heap.size _ rfl rfl 32 _ (Blk.new _ _ _) (by kernel_rfl) rfl (qcells_one _ _ _ _ _ _ _ _ _) ?_; intro w6 hk6 hg6; have hb56 : Below w5.heap.size w5 w6 := Below.stored (Below.refl _ _) (Nat.le_refl _) hg6; have hf6 := hf5.below hb56 (by omega); have hl6 := hk6.lt; clear hg6)
        | (refine wpList_store_blk _ (by rfl) 32 _ _ rfl w6.heap.size _ rfl rfl 32 _ (Blk.new _ _ _) (by kernel_rfl) rfl (qcells_one _ _ _ _ _ _ _ _ _) ?_; intro w7 hk7 hg7; have hb67 : Below w6.heap.size w6 w7 := Below.stored (Below.refl _ _) (Nat.le_refl _) hg7; have hb68 : Below w6.heap.size w6 (w7.setCell ⟨w6.heap.size, 22, none⟩ (.bool (!e))) := hb67.setCell (p := ⟨w6.heap.size, 22, none⟩) (Nat.le_refl _) _; have hk8 : Blk (w7.setCell ⟨w6.heap.size, 22, none⟩ (.bool (!e))) w5.heap.size (qcells a5 t5 s5 r5 m5 e5 A5 n5 C5) 32 := hk6.below hb68 hl6; have hv8 : Blk (w7.setCell ⟨w6.heap.size, 22, none⟩ (.bool (!e))) w6.heap.size (qcells a tid seq r m (!e) A n C) 32 := hk7.set_ 22 (.bool (!e)); have c20 : w7.cell? ⟨w.heap.size, 22, none⟩ = some (.bool e) := (hf6.below hb67 (by omega)).cell 22; have e20 : w7.cell? ⟨w6.heap.size, 22, none⟩ = some (.bool e) := hk7.cell 22; have f20 := hk7.frozen 22; clear hg7))
      have hb58 := hb56.trans (hb68.mono (by omega))
      refine (sameQos_any a5 t5 s5 r5 m5 e5 A5 n5 C5 b5 a tid seq r m (!e) A n C body _ (ho5.below hb58 (Nat.le_refl _)).row (hr5.below hb58 (Nat.le_refl _))).mono ?_
      rintro en w9 ⟨rfl, hw9⟩
      rw [HS.out]
      have hbz := (hb58.mono (show W.heap.size ≤ w5.heap.size by omega)).trans (hw9.mono (by have := hb58.size; omega))
      go_wp2_with fail
      go_roundw
      case rel => exact ⟨3, by omega, rfl, Lib.hid (HW5.out.trans hbz)⟩
      case measure => simp [intOf]
end Go.Proofs.YtidgomffmeplaaaDoor
