/-
  muezzinlaw25.other, same.
-/
import Derived.Test.YtoagmehgiaamlaaDoorGramStep
import Derived.Test.YtoagmehgiaamlaaDoorSameInts
import Derived.Test.YtoagmehgiaamlaaDoorSameBools
import Derived.Test.YtoagmehgiaamlaaDoorMg
namespace Go.Proofs.YtoagmehgiaamlaaDoor
open Go.ChangeShapes Go.WideShapes Go.ChangeAt Go.RowKit
set_option linter.unusedVariables false

theorem ru_one (m : RulesP) : (rucells m).all (·.oneCell') = true := by simp [rucells, Value.oneCell']
set_option maxRecDepth 100000 in
set_option maxHeartbeats 1000000 in
theorem other_any (m : RulesP) (w : World) : Calls Tryd.prog 17 #[.agg (rucells m)] w fun e w' => e = .returned (.agg (rucells m)) ∧ Below w.heap.size w w' := by
  have hz0 : ∃ z, z = rucells zeroR := ⟨_, rfl⟩
  have hm := (Blk.new w (rucells m) 30).alloc (.cells (rucells zeroR) 55)
  have hr0 := Blk.new (w.alloc (.cells (rucells m) 30)) (rucells zeroR) 55
  rw [show (w.alloc (.cells (rucells m) 30)).heap.size = w.heap.size + 1 by simp] at hr0
  have hb0 : Below w.heap.size w ((w.alloc (.cells (rucells m) 30)).alloc (.cells (rucells zeroR) 55)) := ((Below.refl _ _).alloc (Nat.le_refl _) _).alloc (by simp) _
  have k17 : ((w.alloc (.cells (rucells m) 30)).alloc (.cells (rucells zeroR) 55)).cell? ⟨w.heap.size, 17, none⟩ = some (.int .i64 m.start) := hm.cell 17
  have k18 : ((w.alloc (.cells (rucells m) 30)).alloc (.cells (rucells zeroR) 55)).cell? ⟨w.heap.size, 18, none⟩ = some (.int .i64 m.size) := hm.cell 18
  have k19 : ((w.alloc (.cells (rucells m) 30)).alloc (.cells (rucells zeroR) 55)).cell? ⟨w.heap.size, 19, none⟩ = some (.int .i64 m.bytes) := hm.cell 19
  have k20 : ((w.alloc (.cells (rucells m) 30)).alloc (.cells (rucells zeroR) 55)).cell? ⟨w.heap.size, 20, none⟩ = some (.int .i64 m.ticks) := hm.cell 20
  have k21 : ((w.alloc (.cells (rucells m) 30)).alloc (.cells (rucells zeroR) 55)).cell? ⟨w.heap.size, 21, none⟩ = some (.bool m.session) := hm.cell 21
  have HM := Lib.hid hm
  have HR := Lib.hid hr0
  have HB := Lib.hid hb0
  clear hm hr0 hb0 hz0
  rw [show rucells zeroR = #[.int .u8 0, .int .u8 0, .int .u8 0, .int .u8 0, .int .u8 0, .int .u8 0, .int .u8 0, .int .u8 0, .int .u8 0, .int .u8 0, .int .u8 0, .int .u8 0, .int .i64 0, .int .i64 0, .int .i64 0, .int .i64 0, .int .i64 0, .int .i64 0, .int .i64 0, .int .i64 0, .int .i64 0, .bool false] from rfl] at HM HR HB k17 k18 k19 k20 k21
  go_enter Tryd.func17, Tryd.ntmps17
  go_wp2_with (first
    | (refine wpList_load_mid (by rfl) 26 (.tmp 3) rfl w.heap.size 0 rfl [.int .u8 ((m.bss 0).toNat : Int), .int .u8 ((m.bss 1).toNat : Int), .int .u8 ((m.bss 2).toNat : Int), .int .u8 ((m.bss 3).toNat : Int), .int .u8 ((m.bss 4).toNat : Int), .int .u8 ((m.bss 5).toNat : Int)] _ (HM.out.range 0 [.int .u8 ((m.bss 0).toNat : Int), .int .u8 ((m.bss 1).toNat : Int), .int .u8 ((m.bss 2).toNat : Int), .int .u8 ((m.bss 3).toNat : Int), .int .u8 ((m.bss 4).toNat : Int), .int .u8 ((m.bss 5).toNat : Int)] (by rfl)) Tryd.underlying26 rfl (by kernel_rfl) ?_)
    | (refine wpList_load_mid (by rfl) 26 (.tmp 5) rfl w.heap.size 6 rfl [.int .u8 ((m.dst 0).toNat : Int), .int .u8 ((m.dst 1).toNat : Int), .int .u8 ((m.dst 2).toNat : Int), .int .u8 ((m.dst 3).toNat : Int), .int .u8 ((m.dst 4).toNat : Int), .int .u8 ((m.dst 5).toNat : Int)] _ (HM.out.range 6 [.int .u8 ((m.dst 0).toNat : Int), .int .u8 ((m.dst 1).toNat : Int), .int .u8 ((m.dst 2).toNat : Int), .int .u8 ((m.dst 3).toNat : Int), .int .u8 ((m.dst 4).toNat : Int), .int .u8 ((m.dst 5).toNat : Int)] (by rfl)) Tryd.underlying26 rfl (by kernel_rfl) ?_)
    | (refine wpList_load_mid (by rfl) 28 (.tmp 7) rfl w.heap.size 12 rfl [.int .i64 m.r.m, .int .i64 m.r.c, .int .i64 m.r.s, .int .i64 m.r.w, .int .i64 m.r.g] _ (HM.out.range 12 [.int .i64 m.r.m, .int .i64 m.r.c, .int .i64 m.r.s, .int .i64 m.r.w, .int .i64 m.r.g] (by rfl)) Tryd.underlying28 rfl (by kernel_rfl) ?_)
    | (refine wpList_store_blk _ (by rfl) 55 _ _ rfl (w.heap.size + 1) (rucells m) rfl rfl 55 _ HR.out (by kernel_rfl) rfl (ru_one m) ?_; intro w1 hk1 hg1))
  exact ret_cell1 rfl (w.heap.size + 1) _ _ rfl hk1 (by kernel_rfl) (by kernel_rfl) rfl ⟨rfl, Below.grown HB.out hg1 (by simp; omega) (by simp)⟩

set_option maxRecDepth 100000 in
set_option maxHeartbeats 2000000 in
theorem same_any25 (s : SentP) (A1 : Option Addr) (n1 C1 : Nat) (A2 : Option Addr) (n2 C2 : Nat) (A3 : Option Addr) (n3 C3 : Nat) (B1 : Option Addr) (D1 : Nat) (B2 : Option Addr) (D2 : Nat) (B3 : Option Addr) (D3 : Nat) (w : World)
    (a1 : Row w 1 A1 n1 C1 (s.seqs.map (Value.int .i64))) (b1 : Row w 1 B1 n1 D1 (s.seqs.map (Value.int .i64))) (a2 : Row w 1 A2 n2 C2 (s.retry.map Value.bool)) (b2 : Row w 1 B2 n2 D2 (s.retry.map Value.bool)) (a3 : RowP w A3 n3 C3 s.bodies) (b3 : RowP w B3 n3 D3 s.bodies) :
    Calls Tryd.prog 18 #[.agg (sentcells s.tid A1 n1 C1 A2 n2 C2 s.more s.eosp A3 n3 C3), .agg (sentcells s.tid B1 n1 D1 B2 n2 D2 s.more s.eosp B3 n3 D3)] w fun e w' => e = .returned (.bool true) ∧ Below w.heap.size w w' := by
  have hx := (Blk.new w (sentcells s.tid A1 n1 C1 A2 n2 C2 s.more s.eosp A3 n3 C3) 40).alloc (.cells (sentcells s.tid B1 n1 D1 B2 n2 D2 s.more s.eosp B3 n3 D3) 52)
  have hy := Blk.new (w.alloc (.cells (sentcells s.tid A1 n1 C1 A2 n2 C2 s.more s.eosp A3 n3 C3) 40)) (sentcells s.tid B1 n1 D1 B2 n2 D2 s.more s.eosp B3 n3 D3) 52
  rw [show (w.alloc (.cells (sentcells s.tid A1 n1 C1 A2 n2 C2 s.more s.eosp A3 n3 C3) 40)).heap.size = w.heap.size + 1 by simp] at hy
  have hb0 : Below w.heap.size w ((w.alloc (.cells (sentcells s.tid A1 n1 C1 A2 n2 C2 s.more s.eosp A3 n3 C3) 40)).alloc (.cells (sentcells s.tid B1 n1 D1 B2 n2 D2 s.more s.eosp B3 n3 D3) 52)) := ((Below.refl _ _).alloc (Nat.le_refl _) _).alloc (by simp) _
  have HB0 := Lib.hid hb0
  have HX := Lib.hid hx
  have HY := Lib.hid hy
  have HA1 := Lib.hid a1
  have HB1 := Lib.hid b1
  have HA2 := Lib.hid a2
  have HB2 := Lib.hid b2
  have HA3 := Lib.hid a3
  have HB3 := Lib.hid b3
  clear hx hy hb0 a1 b1 a2 b2 a3 b3
  obtain ⟨W, hW⟩ : ∃ W, W = (w.alloc (.cells (sentcells s.tid A1 n1 C1 A2 n2 C2 s.more s.eosp A3 n3 C3) 40)).alloc (.cells (sentcells s.tid B1 n1 D1 B2 n2 D2 s.more s.eosp B3 n3 D3) 52) := ⟨_, rfl⟩
  rw [← hW] at HB0 HX HY
  have z0 := HB0.out.size
  have x0 : W.cell? ⟨w.heap.size, 0, none⟩ = some (.int .i64 s.tid) := HX.out.cell 0
  have y0 : W.cell? ⟨w.heap.size + 1, 0, none⟩ = some (.int .i64 s.tid) := HY.out.cell 0
  have x1 : W.cell? ⟨w.heap.size, 1, none⟩ = some (.slice A1 n1 C1) := HX.out.cell 1
  have y1 : W.cell? ⟨w.heap.size + 1, 1, none⟩ = some (.slice B1 n1 D1) := HY.out.cell 1
  have HC1 := Lib.hid (sameInts_any A1 B1 n1 C1 D1 s.seqs W (HA1.out.below HB0.out (Nat.le_refl _)) (HB1.out.below HB0.out (Nat.le_refl _)))
  unfold sentcells at hW ⊢
  go_enter Tryd.func18, Tryd.ntmps18
  go_wp2_with fail
  rw [← hW]
  clear hW
  refine HC1.out.mono ?_
  rintro e w1 ⟨rfl, hq1⟩
  have hb1 : Below W.heap.size W w1 := by obtain ⟨k, rfl⟩ := hq1; exact below_drewN _
  have hl1 := HX.out.lt
  have hl2 := HY.out.lt
  have HX1 := Lib.hid (HX.out.below hb1 hl1)
  have HY1 := Lib.hid (HY.out.below hb1 hl2)
  have HW1 := Lib.hid (HB0.out.trans (hb1.mono z0))
  have z1 := HW1.out.size
  have x2 : w1.cell? ⟨w.heap.size, 2, none⟩ = some (.slice A2 n2 C2) := HX1.out.cell 2
  have y2 : w1.cell? ⟨w.heap.size + 1, 2, none⟩ = some (.slice B2 n2 D2) := HY1.out.cell 2
  have HC2 := Lib.hid (sameBools_any A2 B2 n2 C2 D2 s.retry w1 (HA2.out.below HW1.out (Nat.le_refl _)) (HB2.out.below HW1.out (Nat.le_refl _)))
  clear hb1 hq1 x0 y0 x1 y1
  go_wp2_with fail
  refine HC2.out.mono ?_
  rintro e w2 ⟨rfl, hq2⟩
  have hb2 : Below w1.heap.size w1 w2 := by obtain ⟨k, rfl⟩ := hq2; exact below_drewN _
  have HX2 := Lib.hid (HX1.out.below hb2 HX1.out.lt)
  have HY2 := Lib.hid (HY1.out.below hb2 HY1.out.lt)
  have HW2 := Lib.hid (HW1.out.trans (hb2.mono z1))
  have z2 := HW2.out.size
  have x3 : w2.cell? ⟨w.heap.size, 3, none⟩ = some (.bool s.more) := HX2.out.cell 3
  have y3 : w2.cell? ⟨w.heap.size + 1, 3, none⟩ = some (.bool s.more) := HY2.out.cell 3
  have x4 : w2.cell? ⟨w.heap.size, 4, none⟩ = some (.bool s.eosp) := HX2.out.cell 4
  have y4 : w2.cell? ⟨w.heap.size + 1, 4, none⟩ = some (.bool s.eosp) := HY2.out.cell 4
  have x5 : w2.cell? ⟨w.heap.size, 5, none⟩ = some (.slice A3 n3 C3) := HX2.out.cell 5
  have y5 : w2.cell? ⟨w.heap.size + 1, 5, none⟩ = some (.slice B3 n3 D3) := HY2.out.cell 5
  have HC3 := Lib.hid (sameParts_yes A3 B3 n3 C3 D3 s.bodies w2 (HA3.out.below HW2.out (Nat.le_refl _)) (HB3.out.below HW2.out (Nat.le_refl _)))
  clear hb2 hq2 x2 y2
  go_wp2_with fail
  refine HC3.out.mono ?_
  rintro e w3 ⟨rfl, hb3⟩
  have HW3 := Lib.hid (HW2.out.trans (hb3.mono z2))
  clear hb3
  go_wp2_with fail
  go_ret
  exact ⟨rfl, HW3.out⟩
end Go.Proofs.YtoagmehgiaamlaaDoor
