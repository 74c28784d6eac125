/-
  gram.part.
-/
import Derived.Test.YtoagmehgiaamlaaDoorGramBase
import Derived.Test.YtoagmehgiaamlaaDoorSeqIn
import Derived.Test.YtoagmehgiaamlaaDoorMe
import Derived.Test.YtoagmehgiaamlaaDoorURead
namespace Go.Proofs.YtoagmehgiaamlaaDoor
open Go.ChangeShapes Go.WideShapes Go.ChangeAt Go.RowKit
set_option linter.unusedVariables false

theorem quiet_add {P : Program} {f : FuncId} {args : Array Value} {v : Value} (h : ∀ w, Calls P f args w fun e w' => e = .returned v ∧ w = w') (w : World) (a b : Nat) : Calls P f args (w.drewN (a + b)) fun e w'' => e = .returned v ∧ ∃ n, w'' = w.drewN (a + n) :=
  (h _).mono (by rintro e w'' ⟨rfl, rfl⟩; exact ⟨rfl, b, rfl⟩)
/-- what is amiss with a frame, behind another one -/
def partG (m : RulesP) (u : URead) (l : Option URead) : Option Nat :=
  if sameA u.a m.dst = false ∨ sameA (fun i => u.a (6 + i)) m.bss = false ∨ sameA (fun i => u.a (12 + i)) m.bss = false ∨ (∃ x, l = some x ∧ u.tid ≠ x.tid) then some 4
  else if ¬ (u.seq - m.start) % 4096 < m.size ∨ (∃ x, l = some x ∧ (u.seq - m.start) % 4096 ≤ (x.seq - m.start) % 4096) then some 10
  else if ∃ x, l = some x ∧ (u.m ≠ x.m ∨ u.e ≠ x.e) then some 9
  else none

set_option maxRecDepth 100000 in
set_option maxHeartbeats 4000000 in
theorem gpart_none {w : World} {E : Nat → Addr} (hE : Errs [4, 9, 10] w E) (m : RulesP) (u : URead) (A : Option Addr) (n C : Nat) :
    Calls Tryd.prog 27 #[ruv m, uv u A n C, (.pointer none)] w fun e w' => e = .returned (errO E (partG m u none)) ∧ Below w.heap.size w w' := by
  have hk := (Blk.new w (rucells m) 30).alloc (.cells (qcells u.a u.tid u.seq u.r u.m u.e A n C) 35)
  have hf0 := Blk.new (w.alloc (.cells (rucells m) 30)) (qcells u.a u.tid u.seq u.r u.m u.e A n C) 35
  have hf : Blk ((w.alloc (.cells (rucells m) 30)).alloc (.cells (qcells u.a u.tid u.seq u.r u.m u.e A n C) 35)) (w.heap.size + 1) (qcells u.a u.tid u.seq u.r u.m u.e A n C) 35 := by simpa using hf0
  have hb0 : Below w.heap.size w ((w.alloc (.cells (rucells m) 30)).alloc (.cells (qcells u.a u.tid u.seq u.r u.m u.e A n C) 35)) := ((Below.refl _ _).alloc (Nat.le_refl _) _).alloc (by simp) _
  have hE1 := (hE.alloc (.cells (rucells m) 30)).alloc (.cells (qcells u.a u.tid u.seq u.r u.m u.e A n C) 35)
  have g4 := hE1.at_ 4 4 (by decide) rfl
  have g9 := hE1.at_ 9 0 (by decide) rfl
  have g10 := hE1.at_ 10 6 (by decide) rfl
  have cm0 : ((w.alloc (.cells (rucells m) 30)).alloc (.cells (qcells u.a u.tid u.seq u.r u.m u.e A n C) 35)).cell? ⟨w.heap.size, 0, none⟩ = some (.int .u8 ((m.bss 0).toNat : Int)) := hk.cell 0
  have cm1 : ((w.alloc (.cells (rucells m) 30)).alloc (.cells (qcells u.a u.tid u.seq u.r u.m u.e A n C) 35)).cell? ⟨w.heap.size, 1, none⟩ = some (.int .u8 ((m.bss 1).toNat : Int)) := hk.cell 1
  have cm2 : ((w.alloc (.cells (rucells m) 30)).alloc (.cells (qcells u.a u.tid u.seq u.r u.m u.e A n C) 35)).cell? ⟨w.heap.size, 2, none⟩ = some (.int .u8 ((m.bss 2).toNat : Int)) := hk.cell 2
  have cm3 : ((w.alloc (.cells (rucells m) 30)).alloc (.cells (qcells u.a u.tid u.seq u.r u.m u.e A n C) 35)).cell? ⟨w.heap.size, 3, none⟩ = some (.int .u8 ((m.bss 3).toNat : Int)) := hk.cell 3
  have cm4 : ((w.alloc (.cells (rucells m) 30)).alloc (.cells (qcells u.a u.tid u.seq u.r u.m u.e A n C) 35)).cell? ⟨w.heap.size, 4, none⟩ = some (.int .u8 ((m.bss 4).toNat : Int)) := hk.cell 4
  have cm5 : ((w.alloc (.cells (rucells m) 30)).alloc (.cells (qcells u.a u.tid u.seq u.r u.m u.e A n C) 35)).cell? ⟨w.heap.size, 5, none⟩ = some (.int .u8 ((m.bss 5).toNat : Int)) := hk.cell 5
  have cm6 : ((w.alloc (.cells (rucells m) 30)).alloc (.cells (qcells u.a u.tid u.seq u.r u.m u.e A n C) 35)).cell? ⟨w.heap.size, 6, none⟩ = some (.int .u8 ((m.dst 0).toNat : Int)) := hk.cell 6
  have cm7 : ((w.alloc (.cells (rucells m) 30)).alloc (.cells (qcells u.a u.tid u.seq u.r u.m u.e A n C) 35)).cell? ⟨w.heap.size, 7, none⟩ = some (.int .u8 ((m.dst 1).toNat : Int)) := hk.cell 7
  have cm8 : ((w.alloc (.cells (rucells m) 30)).alloc (.cells (qcells u.a u.tid u.seq u.r u.m u.e A n C) 35)).cell? ⟨w.heap.size, 8, none⟩ = some (.int .u8 ((m.dst 2).toNat : Int)) := hk.cell 8
  have cm9 : ((w.alloc (.cells (rucells m) 30)).alloc (.cells (qcells u.a u.tid u.seq u.r u.m u.e A n C) 35)).cell? ⟨w.heap.size, 9, none⟩ = some (.int .u8 ((m.dst 3).toNat : Int)) := hk.cell 9
  have cm10 : ((w.alloc (.cells (rucells m) 30)).alloc (.cells (qcells u.a u.tid u.seq u.r u.m u.e A n C) 35)).cell? ⟨w.heap.size, 10, none⟩ = some (.int .u8 ((m.dst 4).toNat : Int)) := hk.cell 10
  have cm11 : ((w.alloc (.cells (rucells m) 30)).alloc (.cells (qcells u.a u.tid u.seq u.r u.m u.e A n C) 35)).cell? ⟨w.heap.size, 11, none⟩ = some (.int .u8 ((m.dst 5).toNat : Int)) := hk.cell 11
  have cm17 : ((w.alloc (.cells (rucells m) 30)).alloc (.cells (qcells u.a u.tid u.seq u.r u.m u.e A n C) 35)).cell? ⟨w.heap.size, 17, none⟩ = some (.int .i64 m.start) := hk.cell 17
  have cm18 : ((w.alloc (.cells (rucells m) 30)).alloc (.cells (qcells u.a u.tid u.seq u.r u.m u.e A n C) 35)).cell? ⟨w.heap.size, 18, none⟩ = some (.int .i64 m.size) := hk.cell 18
  have cf0 : ((w.alloc (.cells (rucells m) 30)).alloc (.cells (qcells u.a u.tid u.seq u.r u.m u.e A n C) 35)).cell? ⟨w.heap.size + 1, 0, none⟩ = some (.int .u8 ((u.a 0).toNat : Int)) := hf.cell 0
  have cf1 : ((w.alloc (.cells (rucells m) 30)).alloc (.cells (qcells u.a u.tid u.seq u.r u.m u.e A n C) 35)).cell? ⟨w.heap.size + 1, 1, none⟩ = some (.int .u8 ((u.a 1).toNat : Int)) := hf.cell 1
  have cf2 : ((w.alloc (.cells (rucells m) 30)).alloc (.cells (qcells u.a u.tid u.seq u.r u.m u.e A n C) 35)).cell? ⟨w.heap.size + 1, 2, none⟩ = some (.int .u8 ((u.a 2).toNat : Int)) := hf.cell 2
  have cf3 : ((w.alloc (.cells (rucells m) 30)).alloc (.cells (qcells u.a u.tid u.seq u.r u.m u.e A n C) 35)).cell? ⟨w.heap.size + 1, 3, none⟩ = some (.int .u8 ((u.a 3).toNat : Int)) := hf.cell 3
  have cf4 : ((w.alloc (.cells (rucells m) 30)).alloc (.cells (qcells u.a u.tid u.seq u.r u.m u.e A n C) 35)).cell? ⟨w.heap.size + 1, 4, none⟩ = some (.int .u8 ((u.a 4).toNat : Int)) := hf.cell 4
  have cf5 : ((w.alloc (.cells (rucells m) 30)).alloc (.cells (qcells u.a u.tid u.seq u.r u.m u.e A n C) 35)).cell? ⟨w.heap.size + 1, 5, none⟩ = some (.int .u8 ((u.a 5).toNat : Int)) := hf.cell 5
  have cf6 : ((w.alloc (.cells (rucells m) 30)).alloc (.cells (qcells u.a u.tid u.seq u.r u.m u.e A n C) 35)).cell? ⟨w.heap.size + 1, 6, none⟩ = some (.int .u8 ((u.a 6).toNat : Int)) := hf.cell 6
  have cf7 : ((w.alloc (.cells (rucells m) 30)).alloc (.cells (qcells u.a u.tid u.seq u.r u.m u.e A n C) 35)).cell? ⟨w.heap.size + 1, 7, none⟩ = some (.int .u8 ((u.a 7).toNat : Int)) := hf.cell 7
  have cf8 : ((w.alloc (.cells (rucells m) 30)).alloc (.cells (qcells u.a u.tid u.seq u.r u.m u.e A n C) 35)).cell? ⟨w.heap.size + 1, 8, none⟩ = some (.int .u8 ((u.a 8).toNat : Int)) := hf.cell 8
  have cf9 : ((w.alloc (.cells (rucells m) 30)).alloc (.cells (qcells u.a u.tid u.seq u.r u.m u.e A n C) 35)).cell? ⟨w.heap.size + 1, 9, none⟩ = some (.int .u8 ((u.a 9).toNat : Int)) := hf.cell 9
  have cf10 : ((w.alloc (.cells (rucells m) 30)).alloc (.cells (qcells u.a u.tid u.seq u.r u.m u.e A n C) 35)).cell? ⟨w.heap.size + 1, 10, none⟩ = some (.int .u8 ((u.a 10).toNat : Int)) := hf.cell 10
  have cf11 : ((w.alloc (.cells (rucells m) 30)).alloc (.cells (qcells u.a u.tid u.seq u.r u.m u.e A n C) 35)).cell? ⟨w.heap.size + 1, 11, none⟩ = some (.int .u8 ((u.a 11).toNat : Int)) := hf.cell 11
  have cf12 : ((w.alloc (.cells (rucells m) 30)).alloc (.cells (qcells u.a u.tid u.seq u.r u.m u.e A n C) 35)).cell? ⟨w.heap.size + 1, 12, none⟩ = some (.int .u8 ((u.a 12).toNat : Int)) := hf.cell 12
  have cf13 : ((w.alloc (.cells (rucells m) 30)).alloc (.cells (qcells u.a u.tid u.seq u.r u.m u.e A n C) 35)).cell? ⟨w.heap.size + 1, 13, none⟩ = some (.int .u8 ((u.a 13).toNat : Int)) := hf.cell 13
  have cf14 : ((w.alloc (.cells (rucells m) 30)).alloc (.cells (qcells u.a u.tid u.seq u.r u.m u.e A n C) 35)).cell? ⟨w.heap.size + 1, 14, none⟩ = some (.int .u8 ((u.a 14).toNat : Int)) := hf.cell 14
  have cf15 : ((w.alloc (.cells (rucells m) 30)).alloc (.cells (qcells u.a u.tid u.seq u.r u.m u.e A n C) 35)).cell? ⟨w.heap.size + 1, 15, none⟩ = some (.int .u8 ((u.a 15).toNat : Int)) := hf.cell 15
  have cf16 : ((w.alloc (.cells (rucells m) 30)).alloc (.cells (qcells u.a u.tid u.seq u.r u.m u.e A n C) 35)).cell? ⟨w.heap.size + 1, 16, none⟩ = some (.int .u8 ((u.a 16).toNat : Int)) := hf.cell 16
  have cf17 : ((w.alloc (.cells (rucells m) 30)).alloc (.cells (qcells u.a u.tid u.seq u.r u.m u.e A n C) 35)).cell? ⟨w.heap.size + 1, 17, none⟩ = some (.int .u8 ((u.a 17).toNat : Int)) := hf.cell 17
  have cf18 : ((w.alloc (.cells (rucells m) 30)).alloc (.cells (qcells u.a u.tid u.seq u.r u.m u.e A n C) 35)).cell? ⟨w.heap.size + 1, 18, none⟩ = some (.int .i64 u.tid) := hf.cell 18
  have cf19 : ((w.alloc (.cells (rucells m) 30)).alloc (.cells (qcells u.a u.tid u.seq u.r u.m u.e A n C) 35)).cell? ⟨w.heap.size + 1, 19, none⟩ = some (.int .i64 u.seq) := hf.cell 19
  have cf21 : ((w.alloc (.cells (rucells m) 30)).alloc (.cells (qcells u.a u.tid u.seq u.r u.m u.e A n C) 35)).cell? ⟨w.heap.size + 1, 21, none⟩ = some (.bool u.m) := hf.cell 21
  have cf22 : ((w.alloc (.cells (rucells m) 30)).alloc (.cells (qcells u.a u.tid u.seq u.r u.m u.e A n C) 35)).cell? ⟨w.heap.size + 1, 22, none⟩ = some (.bool u.e) := hf.cell 22
  have n1 : ∀ w, (binOp .neq 26 (.agg #[.int .u8 ((u.a 0).toNat : Int), .int .u8 ((u.a 1).toNat : Int), .int .u8 ((u.a 2).toNat : Int), .int .u8 ((u.a 3).toNat : Int), .int .u8 ((u.a 4).toNat : Int), .int .u8 ((u.a 5).toNat : Int)]) (.agg #[.int .u8 ((m.dst 0).toNat : Int), .int .u8 ((m.dst 1).toNat : Int), .int .u8 ((m.dst 2).toNat : Int), .int .u8 ((m.dst 3).toNat : Int), .int .u8 ((m.dst 4).toNat : Int), .int .u8 ((m.dst 5).toNat : Int)])).run Tryd.prog w = .ok (.bool (!sameA u.a m.dst)) w := fun w => addr_neq u.a m.dst w
  have n2 : ∀ w, (binOp .neq 26 (.agg #[.int .u8 ((u.a 6).toNat : Int), .int .u8 ((u.a 7).toNat : Int), .int .u8 ((u.a 8).toNat : Int), .int .u8 ((u.a 9).toNat : Int), .int .u8 ((u.a 10).toNat : Int), .int .u8 ((u.a 11).toNat : Int)]) (.agg #[.int .u8 ((m.bss 0).toNat : Int), .int .u8 ((m.bss 1).toNat : Int), .int .u8 ((m.bss 2).toNat : Int), .int .u8 ((m.bss 3).toNat : Int), .int .u8 ((m.bss 4).toNat : Int), .int .u8 ((m.bss 5).toNat : Int)])).run Tryd.prog w = .ok (.bool (!sameA (fun i => u.a (6 + i)) m.bss)) w := fun w => addr_neq (fun i => u.a (6 + i)) m.bss w
  have n3 : ∀ w, (binOp .neq 26 (.agg #[.int .u8 ((u.a 12).toNat : Int), .int .u8 ((u.a 13).toNat : Int), .int .u8 ((u.a 14).toNat : Int), .int .u8 ((u.a 15).toNat : Int), .int .u8 ((u.a 16).toNat : Int), .int .u8 ((u.a 17).toNat : Int)]) (.agg #[.int .u8 ((m.bss 0).toNat : Int), .int .u8 ((m.bss 1).toNat : Int), .int .u8 ((m.bss 2).toNat : Int), .int .u8 ((m.bss 3).toNat : Int), .int .u8 ((m.bss 4).toNat : Int), .int .u8 ((m.bss 5).toNat : Int)])).run Tryd.prog w = .ok (.bool (!sameA (fun i => u.a (12 + i)) m.bss)) w := fun w => addr_neq (fun i => u.a (12 + i)) m.bss w
  obtain ⟨S1, hS1⟩ : ∃ S1, sameA u.a m.dst = S1 := ⟨_, rfl⟩
  obtain ⟨S2, hS2⟩ : ∃ S2, sameA (fun i => u.a (6 + i)) m.bss = S2 := ⟨_, rfl⟩
  obtain ⟨S3, hS3⟩ : ∃ S3, sameA (fun i => u.a (12 + i)) m.bss = S3 := ⟨_, rfl⟩
  rw [hS1] at n1
  rw [hS2] at n2
  rw [hS3] at n3
  have HS1 := Lib.hid hS1
  have HS2 := Lib.hid hS2
  have HS3 := Lib.hid hS3
  have HB := Lib.hid hb0
  clear hS1 hS2 hS3 hk hf hf0 hE hE1 hb0
  unfold ruv uv
  cases S1
  case false =>
    have HR := Lib.hid (show partG m u none = some 4 by unfold partG; rw [HS1.out, HS2.out, HS3.out, if_pos (by simp)])
    go_enter Tryd.func27, Tryd.ntmps27
    go_wp2_with fail
    generalize (w.alloc _).alloc _ = W0 at *
    go_quiet (fail)
    go_wp2_with fail
    go_ret
    exact ⟨by rw [HR.out]; rfl, HB.out.trans (by first | exact below_drewN _ | exact (below_drewN _).trans (below_drewN _) | exact ((below_drewN _).trans (below_drewN _)).trans (below_drewN _))⟩
  case true =>
  cases S2
  case false =>
    have HR := Lib.hid (show partG m u none = some 4 by unfold partG; rw [HS1.out, HS2.out, HS3.out, if_pos (by simp)])
    go_enter Tryd.func27, Tryd.ntmps27
    go_wp2_with fail
    generalize (w.alloc _).alloc _ = W0 at *
    go_quiet (fail)
    go_wp2_with fail
    go_ret
    exact ⟨by rw [HR.out]; rfl, HB.out.trans (by first | exact below_drewN _ | exact (below_drewN _).trans (below_drewN _) | exact ((below_drewN _).trans (below_drewN _)).trans (below_drewN _))⟩
  case true =>
  cases S3
  case false =>
    have HR := Lib.hid (show partG m u none = some 4 by unfold partG; rw [HS1.out, HS2.out, HS3.out, if_pos (by simp)])
    go_enter Tryd.func27, Tryd.ntmps27
    go_wp2_with fail
    generalize (w.alloc _).alloc _ = W0 at *
    go_quiet (fail)
    go_wp2_with fail
    go_ret
    exact ⟨by rw [HR.out]; rfl, HB.out.trans (by first | exact below_drewN _ | exact (below_drewN _).trans (below_drewN _) | exact ((below_drewN _).trans (below_drewN _)).trans (below_drewN _))⟩
  case true =>
  have no4 := Lib.hid (show ¬ (true = false ∨ true = false ∨ true = false ∨ (∃ y, (none : Option URead) = some y ∧ u.tid ≠ y.tid)) by rintro (h | h | h | ⟨y, h, h2⟩) <;> cases h)
  obtain ⟨D, hD⟩ : ∃ D, (u.seq - m.start) % 4096 = D := ⟨_, rfl⟩
  have HD := Lib.hid hD
  by_cases q2 : D < m.size
  case neg =>
    have HR := Lib.hid (show partG m u none = some 10 by unfold partG; rw [HS1.out, HS2.out, HS3.out, if_neg no4.out, HD.out, if_pos (.inl q2)])
    have d2 : decide ((u.seq - m.start) % 4096 < m.size) = false := by rw [hD]; exact decide_eq_false q2
    clear hD q2
    go_enter Tryd.func27, Tryd.ntmps27
    go_wp2_with fail
    generalize (w.alloc _).alloc _ = W0 at *
    go_quiet (fail)
    go_wp2_with fail
    go_quiet ((first
      | (go_at_call 50; exact quiet_add (fun w => in_any _ _ _ w) _ _ _)
      | (go_at_call 51; exact quiet_add (fun w => dist_any _ _ w) _ _ _)))
    go_wp2_with fail
    go_ret
    exact ⟨by rw [HR.out]; rfl, HB.out.trans (by first | exact below_drewN _ | exact (below_drewN _).trans (below_drewN _) | exact ((below_drewN _).trans (below_drewN _)).trans (below_drewN _))⟩
  case pos =>
  have d2 : decide ((u.seq - m.start) % 4096 < m.size) = true := by rw [hD]; exact decide_eq_true q2
  have HR := Lib.hid (show partG m u none = none by unfold partG; rw [HS1.out, HS2.out, HS3.out, if_neg no4.out, HD.out, if_neg (by rintro (h | ⟨y, h, _⟩); exact h q2; cases h), if_neg (by rintro ⟨y, h, _⟩; cases h)])
  clear hD q2
  go_enter Tryd.func27, Tryd.ntmps27
  go_wp2_with fail
  generalize (w.alloc _).alloc _ = W0 at *
  go_quiet (fail)
  go_wp2_with fail
  go_quiet ((first
    | (go_at_call 50; exact quiet_add (fun w => in_any _ _ _ w) _ _ _)
    | (go_at_call 51; exact quiet_add (fun w => dist_any _ _ w) _ _ _)))
  go_wp2_with fail
  go_quiet (fail)
  go_wp2_with fail
  go_ret
  exact ⟨by rw [HR.out]; rfl, HB.out.trans (by first | exact below_drewN _ | exact (below_drewN _).trans (below_drewN _) | exact ((below_drewN _).trans (below_drewN _)).trans (below_drewN _))⟩

set_option maxRecDepth 100000 in
set_option maxHeartbeats 4000000 in
theorem gpart_some {w : World} {E : Nat → Addr} (hE : Errs [4, 9, 10] w E) (m : RulesP) (u : URead) (A : Option Addr) (n C : Nat) (x : URead) (p : Nat) (A' : Option Addr) (n' C' : Nat) (hp : Blk w p (qcells x.a x.tid x.seq x.r x.m x.e A' n' C') 35) :
    Calls Tryd.prog 27 #[ruv m, uv u A n C, (.pointer (some ⟨p, 0, none⟩))] w fun e w' => e = .returned (errO E (partG m u (some x))) ∧ Below w.heap.size w w' := by
  have hk := (Blk.new w (rucells m) 30).alloc (.cells (qcells u.a u.tid u.seq u.r u.m u.e A n C) 35)
  have hf0 := Blk.new (w.alloc (.cells (rucells m) 30)) (qcells u.a u.tid u.seq u.r u.m u.e A n C) 35
  have hf : Blk ((w.alloc (.cells (rucells m) 30)).alloc (.cells (qcells u.a u.tid u.seq u.r u.m u.e A n C) 35)) (w.heap.size + 1) (qcells u.a u.tid u.seq u.r u.m u.e A n C) 35 := by simpa using hf0
  have hb0 : Below w.heap.size w ((w.alloc (.cells (rucells m) 30)).alloc (.cells (qcells u.a u.tid u.seq u.r u.m u.e A n C) 35)) := ((Below.refl _ _).alloc (Nat.le_refl _) _).alloc (by simp) _
  have hE1 := (hE.alloc (.cells (rucells m) 30)).alloc (.cells (qcells u.a u.tid u.seq u.r u.m u.e A n C) 35)
  have g4 := hE1.at_ 4 4 (by decide) rfl
  have g9 := hE1.at_ 9 0 (by decide) rfl
  have g10 := hE1.at_ 10 6 (by decide) rfl
  have cm0 : ((w.alloc (.cells (rucells m) 30)).alloc (.cells (qcells u.a u.tid u.seq u.r u.m u.e A n C) 35)).cell? ⟨w.heap.size, 0, none⟩ = some (.int .u8 ((m.bss 0).toNat : Int)) := hk.cell 0
  have cm1 : ((w.alloc (.cells (rucells m) 30)).alloc (.cells (qcells u.a u.tid u.seq u.r u.m u.e A n C) 35)).cell? ⟨w.heap.size, 1, none⟩ = some (.int .u8 ((m.bss 1).toNat : Int)) := hk.cell 1
  have cm2 : ((w.alloc (.cells (rucells m) 30)).alloc (.cells (qcells u.a u.tid u.seq u.r u.m u.e A n C) 35)).cell? ⟨w.heap.size, 2, none⟩ = some (.int .u8 ((m.bss 2).toNat : Int)) := hk.cell 2
  have cm3 : ((w.alloc (.cells (rucells m) 30)).alloc (.cells (qcells u.a u.tid u.seq u.r u.m u.e A n C) 35)).cell? ⟨w.heap.size, 3, none⟩ = some (.int .u8 ((m.bss 3).toNat : Int)) := hk.cell 3
  have cm4 : ((w.alloc (.cells (rucells m) 30)).alloc (.cells (qcells u.a u.tid u.seq u.r u.m u.e A n C) 35)).cell? ⟨w.heap.size, 4, none⟩ = some (.int .u8 ((m.bss 4).toNat : Int)) := hk.cell 4
  have cm5 : ((w.alloc (.cells (rucells m) 30)).alloc (.cells (qcells u.a u.tid u.seq u.r u.m u.e A n C) 35)).cell? ⟨w.heap.size, 5, none⟩ = some (.int .u8 ((m.bss 5).toNat : Int)) := hk.cell 5
  have cm6 : ((w.alloc (.cells (rucells m) 30)).alloc (.cells (qcells u.a u.tid u.seq u.r u.m u.e A n C) 35)).cell? ⟨w.heap.size, 6, none⟩ = some (.int .u8 ((m.dst 0).toNat : Int)) := hk.cell 6
  have cm7 : ((w.alloc (.cells (rucells m) 30)).alloc (.cells (qcells u.a u.tid u.seq u.r u.m u.e A n C) 35)).cell? ⟨w.heap.size, 7, none⟩ = some (.int .u8 ((m.dst 1).toNat : Int)) := hk.cell 7
  have cm8 : ((w.alloc (.cells (rucells m) 30)).alloc (.cells (qcells u.a u.tid u.seq u.r u.m u.e A n C) 35)).cell? ⟨w.heap.size, 8, none⟩ = some (.int .u8 ((m.dst 2).toNat : Int)) := hk.cell 8
  have cm9 : ((w.alloc (.cells (rucells m) 30)).alloc (.cells (qcells u.a u.tid u.seq u.r u.m u.e A n C) 35)).cell? ⟨w.heap.size, 9, none⟩ = some (.int .u8 ((m.dst 3).toNat : Int)) := hk.cell 9
  have cm10 : ((w.alloc (.cells (rucells m) 30)).alloc (.cells (qcells u.a u.tid u.seq u.r u.m u.e A n C) 35)).cell? ⟨w.heap.size, 10, none⟩ = some (.int .u8 ((m.dst 4).toNat : Int)) := hk.cell 10
  have cm11 : ((w.alloc (.cells (rucells m) 30)).alloc (.cells (qcells u.a u.tid u.seq u.r u.m u.e A n C) 35)).cell? ⟨w.heap.size, 11, none⟩ = some (.int .u8 ((m.dst 5).toNat : Int)) := hk.cell 11
  have cm17 : ((w.alloc (.cells (rucells m) 30)).alloc (.cells (qcells u.a u.tid u.seq u.r u.m u.e A n C) 35)).cell? ⟨w.heap.size, 17, none⟩ = some (.int .i64 m.start) := hk.cell 17
  have cm18 : ((w.alloc (.cells (rucells m) 30)).alloc (.cells (qcells u.a u.tid u.seq u.r u.m u.e A n C) 35)).cell? ⟨w.heap.size, 18, none⟩ = some (.int .i64 m.size) := hk.cell 18
  have cf0 : ((w.alloc (.cells (rucells m) 30)).alloc (.cells (qcells u.a u.tid u.seq u.r u.m u.e A n C) 35)).cell? ⟨w.heap.size + 1, 0, none⟩ = some (.int .u8 ((u.a 0).toNat : Int)) := hf.cell 0
  have cf1 : ((w.alloc (.cells (rucells m) 30)).alloc (.cells (qcells u.a u.tid u.seq u.r u.m u.e A n C) 35)).cell? ⟨w.heap.size + 1, 1, none⟩ = some (.int .u8 ((u.a 1).toNat : Int)) := hf.cell 1
  have cf2 : ((w.alloc (.cells (rucells m) 30)).alloc (.cells (qcells u.a u.tid u.seq u.r u.m u.e A n C) 35)).cell? ⟨w.heap.size + 1, 2, none⟩ = some (.int .u8 ((u.a 2).toNat : Int)) := hf.cell 2
  have cf3 : ((w.alloc (.cells (rucells m) 30)).alloc (.cells (qcells u.a u.tid u.seq u.r u.m u.e A n C) 35)).cell? ⟨w.heap.size + 1, 3, none⟩ = some (.int .u8 ((u.a 3).toNat : Int)) := hf.cell 3
  have cf4 : ((w.alloc (.cells (rucells m) 30)).alloc (.cells (qcells u.a u.tid u.seq u.r u.m u.e A n C) 35)).cell? ⟨w.heap.size + 1, 4, none⟩ = some (.int .u8 ((u.a 4).toNat : Int)) := hf.cell 4
  have cf5 : ((w.alloc (.cells (rucells m) 30)).alloc (.cells (qcells u.a u.tid u.seq u.r u.m u.e A n C) 35)).cell? ⟨w.heap.size + 1, 5, none⟩ = some (.int .u8 ((u.a 5).toNat : Int)) := hf.cell 5
  have cf6 : ((w.alloc (.cells (rucells m) 30)).alloc (.cells (qcells u.a u.tid u.seq u.r u.m u.e A n C) 35)).cell? ⟨w.heap.size + 1, 6, none⟩ = some (.int .u8 ((u.a 6).toNat : Int)) := hf.cell 6
  have cf7 : ((w.alloc (.cells (rucells m) 30)).alloc (.cells (qcells u.a u.tid u.seq u.r u.m u.e A n C) 35)).cell? ⟨w.heap.size + 1, 7, none⟩ = some (.int .u8 ((u.a 7).toNat : Int)) := hf.cell 7
  have cf8 : ((w.alloc (.cells (rucells m) 30)).alloc (.cells (qcells u.a u.tid u.seq u.r u.m u.e A n C) 35)).cell? ⟨w.heap.size + 1, 8, none⟩ = some (.int .u8 ((u.a 8).toNat : Int)) := hf.cell 8
  have cf9 : ((w.alloc (.cells (rucells m) 30)).alloc (.cells (qcells u.a u.tid u.seq u.r u.m u.e A n C) 35)).cell? ⟨w.heap.size + 1, 9, none⟩ = some (.int .u8 ((u.a 9).toNat : Int)) := hf.cell 9
  have cf10 : ((w.alloc (.cells (rucells m) 30)).alloc (.cells (qcells u.a u.tid u.seq u.r u.m u.e A n C) 35)).cell? ⟨w.heap.size + 1, 10, none⟩ = some (.int .u8 ((u.a 10).toNat : Int)) := hf.cell 10
  have cf11 : ((w.alloc (.cells (rucells m) 30)).alloc (.cells (qcells u.a u.tid u.seq u.r u.m u.e A n C) 35)).cell? ⟨w.heap.size + 1, 11, none⟩ = some (.int .u8 ((u.a 11).toNat : Int)) := hf.cell 11
  have cf12 : ((w.alloc (.cells (rucells m) 30)).alloc (.cells (qcells u.a u.tid u.seq u.r u.m u.e A n C) 35)).cell? ⟨w.heap.size + 1, 12, none⟩ = some (.int .u8 ((u.a 12).toNat : Int)) := hf.cell 12
  have cf13 : ((w.alloc (.cells (rucells m) 30)).alloc (.cells (qcells u.a u.tid u.seq u.r u.m u.e A n C) 35)).cell? ⟨w.heap.size + 1, 13, none⟩ = some (.int .u8 ((u.a 13).toNat : Int)) := hf.cell 13
  have cf14 : ((w.alloc (.cells (rucells m) 30)).alloc (.cells (qcells u.a u.tid u.seq u.r u.m u.e A n C) 35)).cell? ⟨w.heap.size + 1, 14, none⟩ = some (.int .u8 ((u.a 14).toNat : Int)) := hf.cell 14
  have cf15 : ((w.alloc (.cells (rucells m) 30)).alloc (.cells (qcells u.a u.tid u.seq u.r u.m u.e A n C) 35)).cell? ⟨w.heap.size + 1, 15, none⟩ = some (.int .u8 ((u.a 15).toNat : Int)) := hf.cell 15
  have cf16 : ((w.alloc (.cells (rucells m) 30)).alloc (.cells (qcells u.a u.tid u.seq u.r u.m u.e A n C) 35)).cell? ⟨w.heap.size + 1, 16, none⟩ = some (.int .u8 ((u.a 16).toNat : Int)) := hf.cell 16
  have cf17 : ((w.alloc (.cells (rucells m) 30)).alloc (.cells (qcells u.a u.tid u.seq u.r u.m u.e A n C) 35)).cell? ⟨w.heap.size + 1, 17, none⟩ = some (.int .u8 ((u.a 17).toNat : Int)) := hf.cell 17
  have cf18 : ((w.alloc (.cells (rucells m) 30)).alloc (.cells (qcells u.a u.tid u.seq u.r u.m u.e A n C) 35)).cell? ⟨w.heap.size + 1, 18, none⟩ = some (.int .i64 u.tid) := hf.cell 18
  have cf19 : ((w.alloc (.cells (rucells m) 30)).alloc (.cells (qcells u.a u.tid u.seq u.r u.m u.e A n C) 35)).cell? ⟨w.heap.size + 1, 19, none⟩ = some (.int .i64 u.seq) := hf.cell 19
  have cf21 : ((w.alloc (.cells (rucells m) 30)).alloc (.cells (qcells u.a u.tid u.seq u.r u.m u.e A n C) 35)).cell? ⟨w.heap.size + 1, 21, none⟩ = some (.bool u.m) := hf.cell 21
  have cf22 : ((w.alloc (.cells (rucells m) 30)).alloc (.cells (qcells u.a u.tid u.seq u.r u.m u.e A n C) 35)).cell? ⟨w.heap.size + 1, 22, none⟩ = some (.bool u.e) := hf.cell 22
  have hp1 := (hp.alloc (.cells (rucells m) 30)).alloc (.cells (qcells u.a u.tid u.seq u.r u.m u.e A n C) 35)
  have cl18 : ((w.alloc (.cells (rucells m) 30)).alloc (.cells (qcells u.a u.tid u.seq u.r u.m u.e A n C) 35)).cell? ⟨p, 18, none⟩ = some (.int .i64 x.tid) := hp1.cell 18
  have cl19 : ((w.alloc (.cells (rucells m) 30)).alloc (.cells (qcells u.a u.tid u.seq u.r u.m u.e A n C) 35)).cell? ⟨p, 19, none⟩ = some (.int .i64 x.seq) := hp1.cell 19
  have cl21 : ((w.alloc (.cells (rucells m) 30)).alloc (.cells (qcells u.a u.tid u.seq u.r u.m u.e A n C) 35)).cell? ⟨p, 21, none⟩ = some (.bool x.m) := hp1.cell 21
  have cl22 : ((w.alloc (.cells (rucells m) 30)).alloc (.cells (qcells u.a u.tid u.seq u.r u.m u.e A n C) 35)).cell? ⟨p, 22, none⟩ = some (.bool x.e) := hp1.cell 22
  have n1 : ∀ w, (binOp .neq 26 (.agg #[.int .u8 ((u.a 0).toNat : Int), .int .u8 ((u.a 1).toNat : Int), .int .u8 ((u.a 2).toNat : Int), .int .u8 ((u.a 3).toNat : Int), .int .u8 ((u.a 4).toNat : Int), .int .u8 ((u.a 5).toNat : Int)]) (.agg #[.int .u8 ((m.dst 0).toNat : Int), .int .u8 ((m.dst 1).toNat : Int), .int .u8 ((m.dst 2).toNat : Int), .int .u8 ((m.dst 3).toNat : Int), .int .u8 ((m.dst 4).toNat : Int), .int .u8 ((m.dst 5).toNat : Int)])).run Tryd.prog w = .ok (.bool (!sameA u.a m.dst)) w := fun w => addr_neq u.a m.dst w
  have n2 : ∀ w, (binOp .neq 26 (.agg #[.int .u8 ((u.a 6).toNat : Int), .int .u8 ((u.a 7).toNat : Int), .int .u8 ((u.a 8).toNat : Int), .int .u8 ((u.a 9).toNat : Int), .int .u8 ((u.a 10).toNat : Int), .int .u8 ((u.a 11).toNat : Int)]) (.agg #[.int .u8 ((m.bss 0).toNat : Int), .int .u8 ((m.bss 1).toNat : Int), .int .u8 ((m.bss 2).toNat : Int), .int .u8 ((m.bss 3).toNat : Int), .int .u8 ((m.bss 4).toNat : Int), .int .u8 ((m.bss 5).toNat : Int)])).run Tryd.prog w = .ok (.bool (!sameA (fun i => u.a (6 + i)) m.bss)) w := fun w => addr_neq (fun i => u.a (6 + i)) m.bss w
  have n3 : ∀ w, (binOp .neq 26 (.agg #[.int .u8 ((u.a 12).toNat : Int), .int .u8 ((u.a 13).toNat : Int), .int .u8 ((u.a 14).toNat : Int), .int .u8 ((u.a 15).toNat : Int), .int .u8 ((u.a 16).toNat : Int), .int .u8 ((u.a 17).toNat : Int)]) (.agg #[.int .u8 ((m.bss 0).toNat : Int), .int .u8 ((m.bss 1).toNat : Int), .int .u8 ((m.bss 2).toNat : Int), .int .u8 ((m.bss 3).toNat : Int), .int .u8 ((m.bss 4).toNat : Int), .int .u8 ((m.bss 5).toNat : Int)])).run Tryd.prog w = .ok (.bool (!sameA (fun i => u.a (12 + i)) m.bss)) w := fun w => addr_neq (fun i => u.a (12 + i)) m.bss w
  obtain ⟨S1, hS1⟩ : ∃ S1, sameA u.a m.dst = S1 := ⟨_, rfl⟩
  obtain ⟨S2, hS2⟩ : ∃ S2, sameA (fun i => u.a (6 + i)) m.bss = S2 := ⟨_, rfl⟩
  obtain ⟨S3, hS3⟩ : ∃ S3, sameA (fun i => u.a (12 + i)) m.bss = S3 := ⟨_, rfl⟩
  rw [hS1] at n1
  rw [hS2] at n2
  rw [hS3] at n3
  have HS1 := Lib.hid hS1
  have HS2 := Lib.hid hS2
  have HS3 := Lib.hid hS3
  have HB := Lib.hid hb0
  clear hS1 hS2 hS3 hk hf hf0 hE hE1 hb0
  unfold ruv uv
  cases S1
  case false =>
    have HR := Lib.hid (show partG m u (some x) = some 4 by unfold partG; rw [HS1.out, HS2.out, HS3.out, if_pos (by simp)])
    go_enter Tryd.func27, Tryd.ntmps27
    go_wp2_with fail
    generalize (w.alloc _).alloc _ = W0 at *
    go_quiet (fail)
    go_wp2_with fail
    go_ret
    exact ⟨by rw [HR.out]; rfl, HB.out.trans (by first | exact below_drewN _ | exact (below_drewN _).trans (below_drewN _) | exact ((below_drewN _).trans (below_drewN _)).trans (below_drewN _))⟩
  case true =>
  cases S2
  case false =>
    have HR := Lib.hid (show partG m u (some x) = some 4 by unfold partG; rw [HS1.out, HS2.out, HS3.out, if_pos (by simp)])
    go_enter Tryd.func27, Tryd.ntmps27
    go_wp2_with fail
    generalize (w.alloc _).alloc _ = W0 at *
    go_quiet (fail)
    go_wp2_with fail
    go_ret
    exact ⟨by rw [HR.out]; rfl, HB.out.trans (by first | exact below_drewN _ | exact (below_drewN _).trans (below_drewN _) | exact ((below_drewN _).trans (below_drewN _)).trans (below_drewN _))⟩
  case true =>
  cases S3
  case false =>
    have HR := Lib.hid (show partG m u (some x) = some 4 by unfold partG; rw [HS1.out, HS2.out, HS3.out, if_pos (by simp)])
    go_enter Tryd.func27, Tryd.ntmps27
    go_wp2_with fail
    generalize (w.alloc _).alloc _ = W0 at *
    go_quiet (fail)
    go_wp2_with fail
    go_ret
    exact ⟨by rw [HR.out]; rfl, HB.out.trans (by first | exact below_drewN _ | exact (below_drewN _).trans (below_drewN _) | exact ((below_drewN _).trans (below_drewN _)).trans (below_drewN _))⟩
  case true =>
  by_cases q1 : u.tid = x.tid
  case neg =>
    have HR := Lib.hid (show partG m u (some x) = some 4 by unfold partG; rw [HS1.out, HS2.out, HS3.out, if_pos (.inr (.inr (.inr ⟨x, rfl, q1⟩)))])
    have d1 : (u.tid != x.tid) = true := by simpa using q1
    go_enter Tryd.func27, Tryd.ntmps27
    go_wp2_with fail
    generalize (w.alloc _).alloc _ = W0 at *
    go_quiet (fail)
    go_wp2_with fail
    go_ret
    exact ⟨by rw [HR.out]; rfl, HB.out.trans (by first | exact below_drewN _ | exact (below_drewN _).trans (below_drewN _) | exact ((below_drewN _).trans (below_drewN _)).trans (below_drewN _))⟩
  case pos =>
  have d1 : (u.tid != x.tid) = false := by simpa using q1
  have no4 := Lib.hid (show ¬ (true = false ∨ true = false ∨ true = false ∨ (∃ y, (some x) = some y ∧ u.tid ≠ y.tid)) by rintro (h | h | h | ⟨y, h, h2⟩); cases h; cases h; cases h; injection h with h; subst h; exact h2 q1)
  clear q1
  obtain ⟨D, hD⟩ : ∃ D, (u.seq - m.start) % 4096 = D := ⟨_, rfl⟩
  have HD := Lib.hid hD
  by_cases q2 : D < m.size
  case neg =>
    have HR := Lib.hid (show partG m u (some x) = some 10 by unfold partG; rw [HS1.out, HS2.out, HS3.out, if_neg no4.out, HD.out, if_pos (.inl q2)])
    have d2 : decide ((u.seq - m.start) % 4096 < m.size) = false := by rw [hD]; exact decide_eq_false q2
    clear hD q2
    go_enter Tryd.func27, Tryd.ntmps27
    go_wp2_with fail
    generalize (w.alloc _).alloc _ = W0 at *
    go_quiet (fail)
    go_wp2_with fail
    go_quiet ((first
      | (go_at_call 50; exact quiet_add (fun w => in_any _ _ _ w) _ _ _)
      | (go_at_call 51; exact quiet_add (fun w => dist_any _ _ w) _ _ _)))
    go_wp2_with fail
    go_ret
    exact ⟨by rw [HR.out]; rfl, HB.out.trans (by first | exact below_drewN _ | exact (below_drewN _).trans (below_drewN _) | exact ((below_drewN _).trans (below_drewN _)).trans (below_drewN _))⟩
  case pos =>
  have d2 : decide ((u.seq - m.start) % 4096 < m.size) = true := by rw [hD]; exact decide_eq_true q2
  obtain ⟨D', hD'⟩ : ∃ D', (x.seq - m.start) % 4096 = D' := ⟨_, rfl⟩
  by_cases q3 : D ≤ D'
  case pos =>
    have HR := Lib.hid (show partG m u (some x) = some 10 by unfold partG; rw [HS1.out, HS2.out, HS3.out, if_neg no4.out, HD.out, if_pos (.inr ⟨x, rfl, by rw [hD']; exact q3⟩)])
    have d3 : decide ((u.seq - m.start) % 4096 ≤ (x.seq - m.start) % 4096) = true := by rw [hD, hD']; exact decide_eq_true q3
    clear hD hD' q2 q3
    go_enter Tryd.func27, Tryd.ntmps27
    go_wp2_with fail
    generalize (w.alloc _).alloc _ = W0 at *
    go_quiet (fail)
    go_wp2_with fail
    go_quiet ((first
      | (go_at_call 50; exact quiet_add (fun w => in_any _ _ _ w) _ _ _)
      | (go_at_call 51; exact quiet_add (fun w => dist_any _ _ w) _ _ _)))
    go_wp2_with fail
    go_ret
    exact ⟨by rw [HR.out]; rfl, HB.out.trans (by first | exact below_drewN _ | exact (below_drewN _).trans (below_drewN _) | exact ((below_drewN _).trans (below_drewN _)).trans (below_drewN _))⟩
  case neg =>
  have d3 : decide ((u.seq - m.start) % 4096 ≤ (x.seq - m.start) % 4096) = false := by rw [hD, hD']; exact decide_eq_false q3
  have no10 := Lib.hid (show ¬ (¬ D < m.size ∨ ∃ y, some x = some y ∧ D ≤ (y.seq - m.start) % 4096) by
    rintro (h | ⟨y, h, h2⟩)
    · exact h q2
    · injection h with h
      subst h
      rw [hD'] at h2
      exact q3 h2)
  clear hD hD' q2 q3
  by_cases q4 : u.m = x.m
  case neg =>
    have HR := Lib.hid (show partG m u (some x) = some 9 by unfold partG; rw [HS1.out, HS2.out, HS3.out, if_neg no4.out, HD.out, if_neg no10.out, if_pos ⟨x, rfl, .inl q4⟩])
    have d4 : (u.m == x.m) = false := by revert q4; cases u.m <;> cases x.m <;> simp
    clear q4
    go_enter Tryd.func27, Tryd.ntmps27
    go_wp2_with fail
    generalize (w.alloc _).alloc _ = W0 at *
    go_quiet (fail)
    go_wp2_with fail
    go_quiet ((first
      | (go_at_call 50; exact quiet_add (fun w => in_any _ _ _ w) _ _ _)
      | (go_at_call 51; exact quiet_add (fun w => dist_any _ _ w) _ _ _)))
    go_wp2_with fail
    go_quiet (fail)
    go_wp2_with fail
    go_ret
    exact ⟨by rw [HR.out]; rfl, HB.out.trans (by first | exact below_drewN _ | exact (below_drewN _).trans (below_drewN _) | exact ((below_drewN _).trans (below_drewN _)).trans (below_drewN _))⟩
  case pos =>
  have d4 : (u.m == x.m) = true := by rw [q4]; cases x.m <;> rfl
  by_cases q5 : u.e = x.e
  case neg =>
    have HR := Lib.hid (show partG m u (some x) = some 9 by unfold partG; rw [HS1.out, HS2.out, HS3.out, if_neg no4.out, HD.out, if_neg no10.out, if_pos ⟨x, rfl, .inr q5⟩])
    have d5 : (u.e == x.e) = false := by revert q5; cases u.e <;> cases x.e <;> simp
    clear q4 q5
    go_enter Tryd.func27, Tryd.ntmps27
    go_wp2_with fail
    generalize (w.alloc _).alloc _ = W0 at *
    go_quiet (fail)
    go_wp2_with fail
    go_quiet ((first
      | (go_at_call 50; exact quiet_add (fun w => in_any _ _ _ w) _ _ _)
      | (go_at_call 51; exact quiet_add (fun w => dist_any _ _ w) _ _ _)))
    go_wp2_with fail
    go_quiet (fail)
    go_wp2_with fail
    go_ret
    exact ⟨by rw [HR.out]; rfl, HB.out.trans (by first | exact below_drewN _ | exact (below_drewN _).trans (below_drewN _) | exact ((below_drewN _).trans (below_drewN _)).trans (below_drewN _))⟩
  case pos =>
  have d5 : (u.e == x.e) = true := by rw [q5]; cases x.e <;> rfl
  have HR := Lib.hid (show partG m u (some x) = none by unfold partG; rw [HS1.out, HS2.out, HS3.out, if_neg no4.out, HD.out, if_neg no10.out, if_neg (by rintro ⟨y, h, h2⟩; injection h with h; subst h; exact h2.elim (fun h => h q4) (fun h => h q5))])
  clear q4 q5
  go_enter Tryd.func27, Tryd.ntmps27
  go_wp2_with fail
  generalize (w.alloc _).alloc _ = W0 at *
  go_quiet (fail)
  go_wp2_with fail
  go_quiet ((first
    | (go_at_call 50; exact quiet_add (fun w => in_any _ _ _ w) _ _ _)
    | (go_at_call 51; exact quiet_add (fun w => dist_any _ _ w) _ _ _)))
  go_wp2_with fail
  go_quiet (fail)
  go_wp2_with fail
  go_ret
  exact ⟨by rw [HR.out]; rfl, HB.out.trans (by first | exact below_drewN _ | exact (below_drewN _).trans (below_drewN _) | exact ((below_drewN _).trans (below_drewN _)).trans (below_drewN _))⟩

end Go.Proofs.YtoagmehgiaamlaaDoor
