/-
  gram.Check of a session that is none.
-/
import Derived.Test.YtoagmehgiaamlaaDoorGramPlain
import Derived.Test.YtoagmehgiaamlaaDoorRules
namespace Go.Proofs.YtoagmehgiaamlaaDoor
open Go.ChangeShapes Go.WideShapes Go.ChangeAt Go.RowKit
set_option linter.unusedVariables false

theorem zsent_eq : zsent = #[.int .i64 0, .slice none 0 0, .slice none 0 0, .bool false, .bool false, .slice none 0 0] := rfl

set_option maxRecDepth 100000 in
set_option maxHeartbeats 1000000 in
theorem check_state {w : World} {E : Nat → Addr} (hE : Errs allErr w E) (m : RulesP) (hm : m.session = false) (A : Option Addr) (n C : Nat) :
    Calls Tryd.prog 11 #[ruv m, .bool true, .slice A n C] w fun e w' => e = .returned (.tuple #[.agg zsent, errV E 9]) ∧ Below w.heap.size w w' := by
  have hk := (Blk.new w (rucells m) 30).alloc (.cells zsent 40)
  have hr0 := Blk.new (w.alloc (.cells (rucells m) 30)) zsent 40
  have hr : Blk ((w.alloc (.cells (rucells m) 30)).alloc (.cells zsent 40)) (w.heap.size + 1) zsent 40 := by simpa using hr0
  have hb0 : Below w.heap.size w ((w.alloc (.cells (rucells m) 30)).alloc (.cells zsent 40)) := ((Below.refl _ _).alloc (Nat.le_refl _) _).alloc (by simp) _
  have hE1 := (hE.alloc (.cells (rucells m) 30)).alloc (.cells zsent 40)
  have e9 := hE1.at_ 9 0 (by decide) rfl
  have l9 := World.block_lt_of_cell? w _ (hE.at_ 9 0 (by decide) rfl)
  simp only [] at l9
  have c21 : ((w.alloc (.cells (rucells m) 30)).alloc (.cells zsent 40)).cell? ⟨w.heap.size, 21, none⟩ = some (.bool false) := by rw [← hm]; exact hk.cell 21
  have hlr := hr.lt
  clear hk hr0 hE hE1
  rw [zsent_eq] at hr hb0 e9 c21 hlr
  unfold ruv
  go_enter Tryd.func11, Tryd.ntmps11
  go_wp2_with fail
  generalize (w.alloc _).alloc _ = W0 at *
  have hr2 := hr.alloc (.cells #[.slice A n C] 22)
  have e92 := (World.cell?_alloc_lt W0 (.cells #[.slice A n C] 22) ⟨0, 0, none⟩ (by simp; omega)).trans e9
  refine wp_zero_err (by kernel_rfl) _ _ _ _ _ _ _ _ _ _ _ _ 40 zsent zsent (errV E 9) (by decide) (by decide) (by decide) (by simp) (by simp) rfl hr2 (by kernel_rfl) (by kernel_rfl) rfl (by kernel_rfl) (by intro w; kernel_rfl) e92 (by omega) ?_
  intro w1 hk1 hg1
  go_wp2_with fail
  exact ret_cell_tmp rfl _ _ zsent (errV E 9) rfl hk1 (by kernel_rfl) (by kernel_rfl) rfl rfl ⟨rfl, Below.grown (hb0.alloc (by omega) _) hg1 (by simp; omega) (by simp)⟩

set_option maxRecDepth 100000 in
set_option maxHeartbeats 1000000 in
theorem check_parts {w : World} {E : Nat → Addr} (hE : Errs allErr w E) (m : RulesP) (hm : m.session = true) (A : Option Addr) (n C : Nat) (b : List UInt8) (h : Row w 1 A n C (b.map u8v)) (hn : n ≤ 1048576) (c : Nat) (hc : partsP b = .error c) :
    Calls Tryd.prog 11 #[ruv m, .bool true, .slice A n C] w fun e w' => e = .returned (.tuple #[.agg zsent, errV E c]) ∧ Below w.heap.size w w' := by
  have hk := (Blk.new w (rucells m) 30).alloc (.cells zsent 40)
  have hr0 := Blk.new (w.alloc (.cells (rucells m) 30)) zsent 40
  have hr : Blk ((w.alloc (.cells (rucells m) 30)).alloc (.cells zsent 40)) (w.heap.size + 1) zsent 40 := by simpa using hr0
  have hb0 : Below w.heap.size w ((w.alloc (.cells (rucells m) 30)).alloc (.cells zsent 40)) := ((Below.refl _ _).alloc (Nat.le_refl _) _).alloc (by simp) _
  have c21 : ((w.alloc (.cells (rucells m) 30)).alloc (.cells zsent 40)).cell? ⟨w.heap.size, 21, none⟩ = some (.bool true) := by rw [← hm]; exact hk.cell 21
  have hlr := hr.lt
  have HE := Lib.hid hE
  have HR := Lib.hid h
  have HC := Lib.hid hc
  clear hk hr0 hE h hc
  rw [zsent_eq] at hr hb0 c21 hlr
  have gp : ∀ w, (eqGuard .neq 42 (.tmp 30) (.const .nilIface) (errV E c) .nilIface).run Tryd.prog w = .ok () w := fun w => err_guard' E (some c) (.tmp 30) .nilIface w
  have ep : ∀ w, (binOp .neq 42 (errV E c) .nilIface).run Tryd.prog w = .ok (.bool true) w := fun w => err_neq E c w
  unfold ruv
  go_enter Tryd.func11, Tryd.ntmps11
  go_wp2_with fail
  generalize (w.alloc _).alloc _ = W0 at *
  have hr2 := hr.alloc (.cells #[.slice A n C] 22)
  have hb2 : Below w.heap.size w (W0.alloc (.cells #[.slice A n C] 22)) := hb0.alloc (by omega) _
  have hlr2 := hr2.lt
  have HPC := Lib.hid (parts_any ((HE.out.below hb2 (Nat.le_refl _)).sub (T := [0, 1, 3, 5]) (by decide)) A n C b (HR.out.below hb2 (Nat.le_refl _)) hn)
  rw [HC.out] at HPC
  clear hr hb0 c21
  generalize W0.alloc (.cells #[.slice A n C] 22) = W1 at *
  refine HPC.out.mono ?_
  rintro e w2 ⟨rfl, hb3⟩
  have hr3 := hr2.below hb3 hlr2
  have HB3 := Lib.hid (hb2.trans (hb3.mono (by omega)))
  clear hb3
  go_wp2_with (refine wpList_store_blk _ (by rfl) 40 _ _ rfl (w.heap.size + 1) zsent rfl rfl 40 _ hr3 (by kernel_rfl) rfl (by kernel_rfl) ?_; intro w4 hk4 hg4)
  exact ret_cell_tmp rfl _ _ zsent (errV E c) rfl hk4 (by kernel_rfl) (by kernel_rfl) rfl rfl ⟨rfl, Below.grown HB3.out hg4 HB3.out.size (by simp)⟩
end Go.Proofs.YtoagmehgiaamlaaDoor
