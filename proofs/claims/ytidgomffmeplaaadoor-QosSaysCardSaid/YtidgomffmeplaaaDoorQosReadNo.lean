/-
  qos.Read, where the bytes are no frame.
-/
import Derived.Test.YtidgomffmeplaaaDoorQosPlain
import Derived.Test.YtidgomffmeplaaaDoorZeroErr
namespace Go.Proofs.YtidgomffmeplaaaDoor
open Go.ChangeShapes Go.WideShapes Go.ChangeAt Go.RowKit
set_option linter.unusedVariables false

/-- the cells of the frame that is none -/
def z0 : Array Value := qcells (fun _ => 0) 0 0 false false false none 0 0

theorem z0_eq : z0 = #[.int .u8 0, .int .u8 0, .int .u8 0, .int .u8 0, .int .u8 0, .int .u8 0, .int .u8 0, .int .u8 0, .int .u8 0, .int .u8 0, .int .u8 0, .int .u8 0, .int .u8 0, .int .u8 0, .int .u8 0, .int .u8 0, .int .u8 0, .int .u8 0, .int .i64 0, .int .i64 0, .bool false, .bool false, .bool false, .slice none 0 0] := by kernel_rfl

theorem u8_ne0 (x : UInt8) (h : ((x.toNat : Int) != 0) = true) : (x == 0) = false := by
  have : x ≠ 0 := by rintro rfl; simp at h
  simpa using this
theorem u8_is0 (x : UInt8) (h : ((x.toNat : Int) != 0) = false) : (x == 0) = true := by
  have : x.toNat = 0 := by simp at h; omega
  have : x = 0 := UInt8.toNat_inj.mp (by simpa using this)
  simpa using this
theorem shape_no1 {x1 x2 x3 x22 x24 x25 : UInt8} (h : (bits .andNot .u8 (x1.toNat : Int) 40 != 2) = true) : shapeOk x1 x2 x3 x22 x24 x25 = false := by
  rw [bne, go_form1] at h
  unfold shapeOk
  have : (x1 == 2 || x1 == 10 || x1 == 34 || x1 == 42) = false := by simpa using h
  simp [this]
theorem shape_no2 {x1 x2 x3 x22 x24 x25 : UInt8} (h : ((x2.toNat : Int) != 0) = true) : shapeOk x1 x2 x3 x22 x24 x25 = false := by
  simp [shapeOk, u8_ne0 _ h]
theorem shape_no3 {x1 x2 x3 x22 x24 x25 : UInt8} (h : ((x3.toNat : Int) != 0) = true) : shapeOk x1 x2 x3 x22 x24 x25 = false := by
  simp [shapeOk, u8_ne0 _ h]
theorem shape_no25 {x1 x2 x3 x22 x24 x25 : UInt8} (h : ((x25.toNat : Int) != 0) = true) : shapeOk x1 x2 x3 x22 x24 x25 = false := by
  simp [shapeOk, u8_ne0 _ h]
theorem shape_no22 {x1 x2 x3 x22 x24 x25 : UInt8} {sq : Nat} (hs : sq % 16 = x22.toNat % 16) (h : ((sq : Int) % 16 != 0) = true) : shapeOk x1 x2 x3 x22 x24 x25 = false := by
  have : x22.toNat % 16 ≠ 0 := by simp at h; omega
  simp [shapeOk, this]
theorem shape_no24 {x1 x2 x3 x22 x24 x25 : UInt8} (h : 8 ≤ bits .andNot .u8 (x24.toNat : Int) 16) : shapeOk x1 x2 x3 x22 x24 x25 = false := by
  have h2 := go_form24 x24
  rw [decide_eq_true h] at h2
  have : (decide (x24.toNat < 8) || (decide (16 ≤ x24.toNat) && decide (x24.toNat < 24))) = false := by revert h2; generalize (decide (x24.toNat < 8) || (decide (16 ≤ x24.toNat) && decide (x24.toNat < 24))) = q; cases q <;> simp
  unfold shapeOk
  rw [this]; simp
theorem shape_yes {x1 x2 x3 x22 x24 x25 : UInt8} {sq : Nat} (hs : sq % 16 = x22.toNat % 16) (h1 : (bits .andNot .u8 (x1.toNat : Int) 40 != 2) = false) (h2 : ((x2.toNat : Int) != 0) = false) (h3 : ((x3.toNat : Int) != 0) = false)
    (h25 : ((x25.toNat : Int) != 0) = false) (h22 : ((sq : Int) % 16 != 0) = false) (h24 : bits .andNot .u8 (x24.toNat : Int) 16 < 8) : shapeOk x1 x2 x3 x22 x24 x25 = true := by
  rw [bne, go_form1] at h1
  have a1 : (x1 == 2 || x1 == 10 || x1 == 34 || x1 == 42) = true := by revert h1; generalize (x1 == 2 || x1 == 10 || x1 == 34 || x1 == 42) = q; cases q <;> simp
  have a4 := go_form24 x24
  rw [decide_eq_false (by omega)] at a4
  have a5 : (decide (x24.toNat < 8) || (decide (16 ≤ x24.toNat) && decide (x24.toNat < 24))) = true := by revert a4; generalize (decide (x24.toNat < 8) || (decide (16 ≤ x24.toNat) && decide (x24.toNat < 24))) = q; cases q <;> simp
  have a6 : x22.toNat % 16 = 0 := by simp at h22; omega
  unfold shapeOk
  rw [a1, a5, u8_is0 _ h2, u8_is0 _ h3, u8_is0 _ h25, a6]; rfl

set_option maxRecDepth 100000 in
set_option maxHeartbeats 1000000 in
theorem qosRead_no (A : Option Addr) (n C : Nat) (xs : List UInt8) (w : World) {E : Nat → Addr} (hE : Errs [0, 1, 2, 4] w E) (hb : Row w 1 A n C (xs.map u8v)) (i : Nat) (hi : rdErr xs = some i) :
    Calls Tryd.prog 14 #[.slice A n C] w fun e w' => e = .returned (.tuple #[.agg z0, errV E i]) ∧ Below w.heap.size w w' := by
  have hlen : xs.length = n := by simpa using hb.length
  have hE1 := hE.alloc (.cells z0 32)
  have hb1 := hb.alloc (.cells z0 32)
  have e0 := hE1.at_ 0 1 (by decide) rfl
  have e1 := hE1.at_ 1 3 (by decide) rfl
  have e2 := hE1.at_ 2 0 (by decide) rfl
  have e4 := hE1.at_ 4 2 (by decide) rfl
  have l0 := World.block_lt_of_cell? w _ (hE.at_ 0 1 (by decide) rfl)
  have l1 := World.block_lt_of_cell? w _ (hE.at_ 1 3 (by decide) rfl)
  have l2 := World.block_lt_of_cell? w _ (hE.at_ 2 0 (by decide) rfl)
  have l4 := World.block_lt_of_cell? w _ (hE.at_ 4 2 (by decide) rfl)
  simp only [] at l0 l1 l2 l4
  have hk0 := Blk.new w z0 32
  have hb0 : Below w.heap.size w (w.alloc (.cells z0 32)) := (Below.refl _ _).alloc (Nat.le_refl _) _
  have hlt0 := hk0.lt
  by_cases h26 : n < 26
  · obtain rfl : i = 0 := by simpa [rdErr, hlen, h26] using hi.symm
    clear hi
    go_enter Tryd.func14, Tryd.ntmps14
    go_wp2_with fail
    change Code.wp _ _ _ _ (w.alloc (.cells z0 32))
    generalize w.alloc (.cells z0 32) = W0 at *
    refine wp_zero_err (by kernel_rfl) _ _ _ _ _ _ _ _ _ _ _ _ 32 z0 z0 (errV E 0) (by decide) (by decide) (by decide) (by simp) (by simp) rfl hk0 (by kernel_rfl) (by kernel_rfl) rfl (by kernel_rfl) (by intro w; kernel_rfl) e0 (by omega) ?_
    intro w1 hk1 hg1
    go_wp2_with fail
    exact ret_cell_tmp rfl _ _ z0 (errV E 0) rfl hk1 (by kernel_rfl) (by kernel_rfl) rfl rfl ⟨rfl, Below.grown (by assumption) hg1 (by omega) (by simp)⟩
  · obtain ⟨b, off, rfl, hbb, hc⟩ := hb1.at_ (by omega)
    have hcell : ∀ k, k < 26 → (w.alloc (.cells z0 32)).cell? ⟨b, off + k, none⟩ = some (u8v (xs.getD k 0)) := fun k hk => hc k _ (by rw [List.getElem?_map, List.getElem?_eq_getElem (by omega)]; simp [List.getD_eq_getElem?_getD, List.getElem?_eq_getElem (show k < xs.length by omega)])
    clear hc
    simp only [rdErr, hlen, if_neg h26] at hi
    have c0 := hcell 0 (by omega); rw [Nat.add_zero] at c0; have c1 := hcell 1 (by omega); have c2 := hcell 2 (by omega); have c3 := hcell 3 (by omega)
    have c22 := hcell 22 (by omega); have c23 := hcell 23 (by omega); have c24 := hcell 24 (by omega); have c25 := hcell 25 (by omega)
    clear hcell
    generalize xs.getD 0 0 = x0 at *
    generalize xs.getD 1 0 = x1 at *
    generalize xs.getD 2 0 = x2 at *
    generalize xs.getD 3 0 = x3 at *
    generalize xs.getD 22 0 = x22 at *
    generalize xs.getD 23 0 = x23 at *
    generalize xs.getD 24 0 = x24 at *
    generalize xs.getD 25 0 = x25 at *
    have t1 := Lib.hid (go_form1 x1)
    have t24 := Lib.hid (go_form24 x24)
    have tj := Lib.hid (go_join x22 x23)
    rw [z0_eq] at c0 c1 c2 c3 c22 c23 c24 c25 e0 e1 e2 e4 hk0 hb0
    simp only [u8v] at c0 c1 c2 c3 c22 c23 c24 c25
    clear hE1 hb1 hlt0
    go_enter Tryd.func14, Tryd.ntmps14
    go_wp2_with fail
    all_goals (have hlt0 := hk0.lt; generalize w.alloc _ = W0 at *)
    · have hq : ((x0.toNat : Int) != 136) = true := by assumption
      obtain rfl : i = 4 := by
        have : x0 ≠ 136 := by rintro rfl; simp at hq
        simpa [this] using hi.symm
      refine wp_zero_err (by kernel_rfl) _ _ _ _ _ _ _ _ _ _ _ _ 32 z0 z0 (errV E 4) (by decide) (by decide) (by decide) (by simp) (by simp) rfl hk0 (by kernel_rfl) (by kernel_rfl) rfl (by kernel_rfl) (by intro w; kernel_rfl) e4 (by omega) ?_
      intro w1 hk1 hg1
      go_wp2_with fail
      exact ret_cell_tmp rfl _ _ z0 (errV E 4) rfl hk1 (by kernel_rfl) (by kernel_rfl) rfl rfl ⟨rfl, Below.grown (by assumption) hg1 (by omega) (by simp)⟩
    · have hq : ((x0.toNat : Int) != 136) = false := by assumption
      have hx0 : x0 = 136 := by apply UInt8.toNat_inj.mp; simp at hq; simp; omega
      simp only [hx0, ne_eq, not_true, if_false] at hi
      clear hq c0
      go_region
      have tj' : bits .or .i64 (wrap64 (x22.toNat : Int)) (wrap64 (wrap64 (x23.toNat : Int) * 256)) = ((x22.toNat + 256 * x23.toNat : Nat) : Int) := by
        have h1 := UInt8.toNat_lt x22
        have h2 := UInt8.toNat_lt x23
        rw [IntWalk.wrap64_in (x22.toNat : Int) (by omega), IntWalk.wrap64_in (x23.toNat : Int) (by omega), IntWalk.wrap64_in _ (by omega)]
        exact tj.out
      obtain ⟨sq, hsq⟩ : ∃ sq, sq = x22.toNat + 256 * x23.toNat := ⟨_, rfl⟩
      have hsq16 : sq % 16 = x22.toNat % 16 := by omega
      rw [tj', ← hsq]
      replace hb0 : Below w.heap.size w W0.drew := hb0.trans (below_drewN (w := W0) 1)
      replace hlt0 : w.heap.size < W0.drew.heap.size := hlt0
      clear tj tj' t1 t24 hsq
      go_wp2_with fail
      all_goals (try (go_simp; go_wp2_with fail))
      iterate 6
        (· have hs : shapeOk x1 x2 x3 x22 x24 x25 = false := by
             first
             | exact shape_no1 (by assumption)
             | exact shape_no2 (by assumption)
             | exact shape_no3 (by assumption)
             | exact shape_no25 (by assumption)
             | exact shape_no22 hsq16 (by assumption)
             | exact shape_no24 (by assumption)
           obtain rfl : i = 1 := by simpa [hs] using hi.symm
           refine wp_zero_err (by kernel_rfl) _ _ _ _ _ _ _ _ _ _ _ _ 32 z0 z0 (errV E 1) (by decide) (by decide) (by decide) (by simp) (by simp) rfl hk0 (by kernel_rfl) (by kernel_rfl) rfl (by kernel_rfl) (by intro w; kernel_rfl) e1 (by omega) ?_
           intro w1 hk1 hg1
           go_wp2_with fail
           exact ret_cell_tmp rfl _ _ z0 (errV E 1) rfl hk1 (by kernel_rfl) (by kernel_rfl) rfl rfl ⟨rfl, Below.grown (by assumption) hg1 (by omega) (by simp)⟩)
      · have hs : shapeOk x1 x2 x3 x22 x24 x25 = true := shape_yes hsq16 (by assumption) (by assumption) (by assumption) (by assumption) (by assumption) (by assumption)
        have hq : 1500 < wrap64 ((n : Int) - 26) := by assumption
        rw [IntWalk.wrap64_in _ (by have := hb.len_le; omega)] at hq
        obtain rfl : i = 2 := by simpa [hs, show 1526 < n by omega] using hi.symm
        refine wp_zero_err (by kernel_rfl) _ _ _ _ _ _ _ _ _ _ _ _ 32 z0 z0 (errV E 2) (by decide) (by decide) (by decide) (by simp) (by simp) rfl hk0 (by kernel_rfl) (by kernel_rfl) rfl (by kernel_rfl) (by intro w; kernel_rfl) e2 (by omega) ?_
        intro w1 hk1 hg1
        go_wp2_with fail
        exact ret_cell_tmp rfl _ _ z0 (errV E 2) rfl hk1 (by kernel_rfl) (by kernel_rfl) rfl rfl ⟨rfl, Below.grown (by assumption) hg1 (by omega) (by simp)⟩
      · exfalso
        have hs : shapeOk x1 x2 x3 x22 x24 x25 = true := shape_yes hsq16 (by assumption) (by assumption) (by assumption) (by assumption) (by assumption) (by assumption)
        have hq : wrap64 ((n : Int) - 26) ≤ 1500 := by assumption
        rw [IntWalk.wrap64_in _ (by have := hb.len_le; omega)] at hq
        simp [hs, show ¬ 1526 < n by omega] at hi
end Go.Proofs.YtidgomffmeplaaaDoor
