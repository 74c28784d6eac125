/-
  gram's rules as values; gram.whole.
-/
import Derived.Test.YtoagmehgiaamlaaDoorAir
import Derived.Test.YtoagmehgiaamlaaDoorMa
namespace Go.Proofs.YtoagmehgiaamlaaDoor
open Go.ChangeShapes Go.WideShapes Go.ChangeAt Go.RowKit
set_option linter.unusedVariables false

/-- what is asked of what is sent -/
structure RulesP where
  bss : Nat → UInt8
  dst : Nat → UInt8
  r : RT
  start : Int
  size : Int
  bytes : Int
  ticks : Int
  session : Bool
def rucells (m : RulesP) : Array Value := #[.int .u8 ((m.bss 0).toNat : Int), .int .u8 ((m.bss 1).toNat : Int), .int .u8 ((m.bss 2).toNat : Int), .int .u8 ((m.bss 3).toNat : Int), .int .u8 ((m.bss 4).toNat : Int), .int .u8 ((m.bss 5).toNat : Int),
  .int .u8 ((m.dst 0).toNat : Int), .int .u8 ((m.dst 1).toNat : Int), .int .u8 ((m.dst 2).toNat : Int), .int .u8 ((m.dst 3).toNat : Int), .int .u8 ((m.dst 4).toNat : Int), .int .u8 ((m.dst 5).toNat : Int),
  .int .i64 m.r.m, .int .i64 m.r.c, .int .i64 m.r.s, .int .i64 m.r.w, .int .i64 m.r.g, .int .i64 m.start, .int .i64 m.size, .int .i64 m.bytes, .int .i64 m.ticks, .bool m.session]
def ruv (m : RulesP) : Value := .agg (rucells m)

/-- what is amiss with all, of so many parts -/
def wholeP (m : RulesP) (ag : Bool) (parts bytes : Int) : Option Nat :=
  if m.size < parts ∨ (ag = true ∧ m.bytes < bytes) then some 3
  else if validP m.r = false ∨ 54840 < ppP m.r bytes ∨ (ag = true ∧ m.ticks < ppP m.r bytes) then some 11
  else none
theorem whole_many {m : RulesP} {ag : Bool} {parts bytes : Int} (h : m.size < parts ∨ (ag = true ∧ m.bytes < bytes)) : wholeP m ag parts bytes = some 3 := by rw [wholeP, if_pos h]
theorem whole_long {m : RulesP} {ag : Bool} {parts bytes : Int} (h : ¬ (m.size < parts ∨ (ag = true ∧ m.bytes < bytes))) (h2 : validP m.r = false ∨ 54840 < ppP m.r bytes ∨ (ag = true ∧ m.ticks < ppP m.r bytes)) : wholeP m ag parts bytes = some 11 := by rw [wholeP, if_neg h, if_pos h2]
theorem whole_fine {m : RulesP} {ag : Bool} {parts bytes : Int} (h : ¬ (m.size < parts ∨ (ag = true ∧ m.bytes < bytes))) (h2 : ¬ (validP m.r = false ∨ 54840 < ppP m.r bytes ∨ (ag = true ∧ m.ticks < ppP m.r bytes))) : wholeP m ag parts bytes = none := by rw [wholeP, if_neg h, if_neg h2]

abbrev RuC (n : Nat) (m : RulesP) (y : World) : Prop :=
  y.cell? ⟨n, 12, none⟩ = some (.int .i64 m.r.m) ∧ y.cell? ⟨n, 13, none⟩ = some (.int .i64 m.r.c) ∧ y.cell? ⟨n, 14, none⟩ = some (.int .i64 m.r.s) ∧ y.cell? ⟨n, 15, none⟩ = some (.int .i64 m.r.w) ∧ y.cell? ⟨n, 16, none⟩ = some (.int .i64 m.r.g) ∧ y.cell? ⟨n, 20, none⟩ = some (.int .i64 m.ticks)
theorem ru_keep {n B : Nat} {m : RulesP} {x y : World} (h : RuC n m x) (hb : Below B x y) (hn : n < B) : RuC n m y :=
  ⟨(hb.cell (p := ⟨n, 12, none⟩) hn).trans h.1, (hb.cell (p := ⟨n, 13, none⟩) hn).trans h.2.1, (hb.cell (p := ⟨n, 14, none⟩) hn).trans h.2.2.1, (hb.cell (p := ⟨n, 15, none⟩) hn).trans h.2.2.2.1, (hb.cell (p := ⟨n, 16, none⟩) hn).trans h.2.2.2.2.1, (hb.cell (p := ⟨n, 20, none⟩) hn).trans h.2.2.2.2.2⟩

set_option maxRecDepth 100000 in
set_option maxHeartbeats 2000000 in
theorem whole_any {w : World} {E : Nat → Addr} (hE : Errs [3, 11] w E) (m : RulesP) (ag : Bool) (parts bytes : Int) (b0 : -9223372036854775808 ≤ bytes) (b1 : bytes ≤ 9223372036854775807) :
    Calls Tryd.prog 28 #[ruv m, .bool ag, .int .i64 parts, .int .i64 bytes] w fun e w' => e = .returned (errO E (wholeP m ag parts bytes)) ∧ Below w.heap.size w w' := by
  have hk := Blk.new w (rucells m) 30
  have hb0 : Below w.heap.size w (w.alloc (.cells (rucells m) 30)) := (Below.refl _ _).alloc (Nat.le_refl _) _
  have c18 : (w.alloc (.cells (rucells m) 30)).cell? ⟨w.heap.size, 18, none⟩ = some (.int .i64 m.size) := hk.cell 18
  have c19 : (w.alloc (.cells (rucells m) 30)).cell? ⟨w.heap.size, 19, none⟩ = some (.int .i64 m.bytes) := hk.cell 19
  have c12 : RuC w.heap.size m (w.alloc (.cells (rucells m) 30)) := ⟨hk.cell 12, hk.cell 13, hk.cell 14, hk.cell 15, hk.cell 16, hk.cell 20⟩
  have hlt := hk.lt
  have hE1 := hE.alloc (.cells (rucells m) 30)
  have g3 := hE1.at_ 3 3 (by decide) rfl
  have gw11 := hE.at_ 11 7 (by decide) rfl
  have l11 := World.block_lt_of_cell? w _ (hE.at_ 11 7 (by decide) rfl)
  simp only [] at l11
  have CV := Lib.hid (fun w => valid_any m.r w)
  have CP := Lib.hid (fun w => ppdu_any m.r bytes w b0 b1)
  obtain ⟨X, hX⟩ : ∃ X, ppP m.r bytes = X := ⟨_, rfl⟩
  obtain ⟨V, hV⟩ : ∃ V, validP m.r = V := ⟨_, rfl⟩
  have HM := Lib.hid (fun h => whole_many (m := m) (ag := ag) (parts := parts) (bytes := bytes) h)
  have HL := Lib.hid (fun h h2 => whole_long (m := m) (ag := ag) (parts := parts) (bytes := bytes) h h2)
  have HF := Lib.hid (fun h h2 => whole_fine (m := m) (ag := ag) (parts := parts) (bytes := bytes) h h2)
  rw [hX] at CP HL HF
  rw [hV] at CV HL HF
  clear hE hE1 hk hX hV
  unfold ruv
  by_cases q1 : m.size < parts
  case pos =>
    have HR := Lib.hid (HM.out (.inl q1))
    have d1 : decide (m.size < parts) = true := decide_eq_true q1
    go_enter Tryd.func28, Tryd.ntmps28
    go_wp2_with fail
    go_ret
    exact ⟨by rw [HR.out]; rfl, hb0⟩
  case neg =>
  have d1 : decide (m.size < parts) = false := decide_eq_false q1
  cases ag
  case false =>
    have hno := Lib.hid (show ¬ (m.size < parts ∨ (false = true ∧ m.bytes < bytes)) from fun h => h.elim q1 (fun h => by cases h.1))
    clear HM
    cases V
    case false =>
      have HR := Lib.hid (HL.out hno.out (.inl rfl))
      clear HL HF
      go_enter Tryd.func28, Tryd.ntmps28
      go_wp2_with fail
      generalize w.alloc _ = W0 at *
      have HB := Lib.hid (show Below w.heap.size w W0.drew from hb0.trans (Below.drew (Below.refl _ _)))
      have c0 : RuC w.heap.size m W0.drew := c12
      have L0 : w.heap.size < W0.drew.heap.size := hlt
      clear g3 hb0
      refine wp_region_held_drew (S := (fun y => y.cell? ⟨w.heap.size, 12, none⟩ = some (.int .i64 m.r.m) ∧ y.cell? ⟨w.heap.size, 13, none⟩ = some (.int .i64 m.r.c) ∧ y.cell? ⟨w.heap.size, 14, none⟩ = some (.int .i64 m.r.s) ∧ y.cell? ⟨w.heap.size, 15, none⟩ = some (.int .i64 m.r.w) ∧ y.cell? ⟨w.heap.size, 16, none⟩ = some (.int .i64 m.r.g) ∧ y.cell? ⟨w.heap.size, 20, none⟩ = some (.int .i64 m.ticks))) (by kernel_rfl) ?_ (fun hHeld => ?_)
      · (try dsimp only); exact c0
      refine wpAnyH_take (i := 0) (oi := { dst := some 25, op := Op.fieldAddr 30 (Operand.tmp 4) 2, type := 0, pos := "gram.go:50", after := #[], guard := none }) (v := ?hv1) rfl (by kernel_rfl) (by kernel_rfl) (by kernel_rfl) (fun _ _ _ h => h) (Or.inl ⟨by rfl, ?hy1⟩) (by assumption) ?_
      case hy1 => ((intro w hSw); (try dsimp only at hSw); go_simp; (try with_reducible rfl))
      try simp only [Act.put, List.setIfInBounds_toArray, List.set_cons_zero, List.set_cons_succ]
      refine wpAnyH_take (i := 1) (oi := { dst := some 26, op := Op.load 28 (Operand.tmp 25), type := 28, pos := "gram.go:50", after := #[{ on := 0, ground := Ground.data }], guard := none }) (v := ?hv2) rfl (by kernel_rfl) (by kernel_rfl) (by kernel_rfl) (fun _ _ _ h => h) (Or.inl ⟨by rfl, ?hy2⟩) (by assumption) ?_
      case hy2 => ((intro w hSw); (try dsimp only at hSw); go_simp; (try with_reducible rfl))
      try simp only [Act.put, List.setIfInBounds_toArray, List.set_cons_zero, List.set_cons_succ]
      refine wpAnyH_ready (rs := [2]) (by kernel_rfl) (by simp) ?_
      refine AllReadyH.cons (o := { dst := some 27, op := Op.call { callee := Callee.value (Operand.func 52), args := #[Operand.tmp 26], argTypes := #[28] }, type := 4, pos := "gram.go:50", after := #[{ on := 1, ground := Ground.data }], guard := none }) rfl (fun K hK => ?_) AllReadyH.nil
      go_simp
      go_at_call 52; (with_reducible refine (CV.out _).mono ?_); rintro e x1 ⟨rfl, z1⟩; have k1 := ru_keep c0 z1 L0; have l1 := Nat.lt_of_lt_of_le L0 z1.size; have H1 := Lib.hid (HB.out.trans (z1.mono (Nat.le_of_lt L0))); clear z1
      refine hK.out _ _ ?_ (fun hHeld => ?_)
      · (try dsimp only); exact k1
      clear hK K
      try simp only [Act.put, List.setIfInBounds_toArray, List.set_cons_zero, List.set_cons_succ]
      refine wpAnyH_take (i := 3) (oi := { dst := some 28, op := Op.unOp UnOp.not 4 (Operand.tmp 27), type := 4, pos := "gram.go:50", after := #[{ on := 2, ground := Ground.data }], guard := none }) (v := ?hv3) rfl (by kernel_rfl) (by kernel_rfl) (by kernel_rfl) (fun _ _ _ h => h) (Or.inl ⟨by rfl, ?hy3⟩) (by assumption) ?_
      case hy3 => ((intro w hSw); (try dsimp only at hSw); go_simp; (try with_reducible rfl))
      try simp only [Act.put, List.setIfInBounds_toArray, List.set_cons_zero, List.set_cons_succ]
      refine wpAnyH_take (i := 4) (oi := { dst := some 29, op := Op.move (Operand.tmp 28), type := 4, pos := "gram.go:50", after := #[{ on := 3, ground := Ground.data }, { on := 2, ground := Ground.chain }], guard := none }) (v := ?hv4) rfl (by kernel_rfl) (by kernel_rfl) (by kernel_rfl) (fun _ _ _ h => h) (Or.inl ⟨by rfl, ?hy4⟩) (by assumption) ?_
      case hy4 => ((intro w hSw); (try dsimp only at hSw); go_simp; (try with_reducible rfl))
      try simp only [Act.put, List.setIfInBounds_toArray, List.set_cons_zero, List.set_cons_succ]
      refine wpAnyH_take (i := 5) (oi := { dst := some 30, op := Op.fieldAddr 30 (Operand.tmp 4) 2, type := 0, pos := "gram.go:50", after := #[{ on := 4, ground := Ground.guard }], guard := some (4, false) }) (v := undef) rfl (by kernel_rfl) (by kernel_rfl) (by kernel_rfl) (fun _ _ _ h => h) (Or.inr ⟨by rfl, rfl⟩) (by assumption) ?_
      try simp only [Act.put, List.setIfInBounds_toArray, List.set_cons_zero, List.set_cons_succ]
      refine wpAnyH_take (i := 6) (oi := { dst := some 31, op := Op.load 28 (Operand.tmp 30), type := 28, pos := "gram.go:50", after := #[{ on := 5, ground := Ground.data }, { on := 4, ground := Ground.guard }], guard := some (4, false) }) (v := undef) rfl (by kernel_rfl) (by kernel_rfl) (by kernel_rfl) (fun _ _ _ h => h) (Or.inr ⟨by rfl, rfl⟩) (by assumption) ?_
      try simp only [Act.put, List.setIfInBounds_toArray, List.set_cons_zero, List.set_cons_succ]
      refine wpAnyH_take (i := 7) (oi := { dst := some 32, op := Op.move (Operand.tmp 3), type := 3, pos := "gram.go:50", after := #[{ on := 4, ground := Ground.guard }], guard := some (4, false) }) (v := undef) rfl (by kernel_rfl) (by kernel_rfl) (by kernel_rfl) (fun _ _ _ h => h) (Or.inr ⟨by rfl, rfl⟩) (by assumption) ?_
      try simp only [Act.put, List.setIfInBounds_toArray, List.set_cons_zero, List.set_cons_succ]
      refine wpAnyH_take (i := 8) (oi := { dst := some 33, op := Op.call { callee := Callee.value (Operand.func 53), args := #[Operand.tmp 31, Operand.tmp 32], argTypes := #[28, 3] }, type := 2, pos := "gram.go:50", after := #[{ on := 6, ground := Ground.data }, { on := 7, ground := Ground.data }, { on := 4, ground := Ground.chain }, { on := 4, ground := Ground.guard }], guard := some (4, false) }) (v := undef) rfl (by kernel_rfl) (by kernel_rfl) (by kernel_rfl) (fun _ _ _ h => h) (Or.inr ⟨by rfl, rfl⟩) (by assumption) ?_
      try simp only [Act.put, List.setIfInBounds_toArray, List.set_cons_zero, List.set_cons_succ]
      refine wpAnyH_take (i := 9) (oi := { dst := some 34, op := Op.binOp BinOp.gtr 2 (Operand.tmp 33) (Operand.const (Value.int IntKind.i64 54840)) 2, type := 4, pos := "gram.go:50", after := #[{ on := 8, ground := Ground.data }, { on := 4, ground := Ground.guard }], guard := some (4, false) }) (v := undef) rfl (by kernel_rfl) (by kernel_rfl) (by kernel_rfl) (fun _ _ _ h => h) (Or.inr ⟨by rfl, rfl⟩) (by assumption) ?_
      try simp only [Act.put, List.setIfInBounds_toArray, List.set_cons_zero, List.set_cons_succ]
      refine wpAnyH_take (i := 10) (oi := { dst := some 35, op := Op.pick (Operand.tmp 29) (Operand.const (Value.bool true)) (Operand.tmp 34), type := 4, pos := "gram.go:50", after := #[{ on := 4, ground := Ground.data }, { on := 9, ground := Ground.data }], guard := none }) (v := ?hv5) rfl (by kernel_rfl) (by kernel_rfl) (by kernel_rfl) (fun _ _ _ h => h) (Or.inl ⟨by rfl, ?hy5⟩) (by assumption) ?_
      case hy5 => ((intro w hSw); (try dsimp only at hSw); go_simp; (try with_reducible rfl))
      try simp only [Act.put, List.setIfInBounds_toArray, List.set_cons_zero, List.set_cons_succ]
      refine wpAnyH_take (i := 11) (oi := { dst := some 36, op := Op.move (Operand.tmp 35), type := 4, pos := "gram.go:50", after := #[{ on := 10, ground := Ground.data }, { on := 8, ground := Ground.chain }], guard := none }) (v := ?hv6) rfl (by kernel_rfl) (by kernel_rfl) (by kernel_rfl) (fun _ _ _ h => h) (Or.inl ⟨by rfl, ?hy6⟩) (by assumption) ?_
      case hy6 => ((intro w hSw); (try dsimp only at hSw); go_simp; (try with_reducible rfl))
      try simp only [Act.put, List.setIfInBounds_toArray, List.set_cons_zero, List.set_cons_succ]
      refine wpAnyH_take (i := 12) (oi := { dst := some 37, op := Op.move (Operand.tmp 1), type := 4, pos := "gram.go:50", after := #[{ on := 11, ground := Ground.guard }], guard := some (11, false) }) (v := undef) rfl (by kernel_rfl) (by kernel_rfl) (by kernel_rfl) (fun _ _ _ h => h) (Or.inr ⟨by rfl, rfl⟩) (by assumption) ?_
      try simp only [Act.put, List.setIfInBounds_toArray, List.set_cons_zero, List.set_cons_succ]
      refine wpAnyH_take (i := 13) (oi := { dst := some 38, op := Op.move (Operand.tmp 37), type := 4, pos := "gram.go:50", after := #[{ on := 12, ground := Ground.data }, { on := 11, ground := Ground.chain }, { on := 11, ground := Ground.guard }], guard := some (11, false) }) (v := undef) rfl (by kernel_rfl) (by kernel_rfl) (by kernel_rfl) (fun _ _ _ h => h) (Or.inr ⟨by rfl, rfl⟩) (by assumption) ?_
      try simp only [Act.put, List.setIfInBounds_toArray, List.set_cons_zero, List.set_cons_succ]
      refine wpAnyH_take (i := 14) (oi := { dst := some 39, op := Op.fieldAddr 30 (Operand.tmp 4) 2, type := 0, pos := "gram.go:50", after := #[{ on := 13, ground := Ground.guard }], guard := some (13, true) }) (v := undef) rfl (by kernel_rfl) (by kernel_rfl) (by kernel_rfl) (fun _ _ _ h => h) (Or.inr ⟨by rfl, rfl⟩) (by assumption) ?_
      try simp only [Act.put, List.setIfInBounds_toArray, List.set_cons_zero, List.set_cons_succ]
      refine wpAnyH_take (i := 15) (oi := { dst := some 40, op := Op.load 28 (Operand.tmp 39), type := 28, pos := "gram.go:50", after := #[{ on := 14, ground := Ground.data }, { on := 13, ground := Ground.guard }], guard := some (13, true) }) (v := undef) rfl (by kernel_rfl) (by kernel_rfl) (by kernel_rfl) (fun _ _ _ h => h) (Or.inr ⟨by rfl, rfl⟩) (by assumption) ?_
      try simp only [Act.put, List.setIfInBounds_toArray, List.set_cons_zero, List.set_cons_succ]
      refine wpAnyH_take (i := 16) (oi := { dst := some 41, op := Op.move (Operand.tmp 3), type := 3, pos := "gram.go:50", after := #[{ on := 13, ground := Ground.guard }], guard := some (13, true) }) (v := undef) rfl (by kernel_rfl) (by kernel_rfl) (by kernel_rfl) (fun _ _ _ h => h) (Or.inr ⟨by rfl, rfl⟩) (by assumption) ?_
      try simp only [Act.put, List.setIfInBounds_toArray, List.set_cons_zero, List.set_cons_succ]
      refine wpAnyH_take (i := 17) (oi := { dst := some 42, op := Op.call { callee := Callee.value (Operand.func 53), args := #[Operand.tmp 40, Operand.tmp 41], argTypes := #[28, 3] }, type := 2, pos := "gram.go:50", after := #[{ on := 15, ground := Ground.data }, { on := 16, ground := Ground.data }, { on := 13, ground := Ground.chain }, { on := 13, ground := Ground.guard }], guard := some (13, true) }) (v := undef) rfl (by kernel_rfl) (by kernel_rfl) (by kernel_rfl) (fun _ _ _ h => h) (Or.inr ⟨by rfl, rfl⟩) (by assumption) ?_
      try simp only [Act.put, List.setIfInBounds_toArray, List.set_cons_zero, List.set_cons_succ]
      refine wpAnyH_take (i := 18) (oi := { dst := some 43, op := Op.fieldAddr 30 (Operand.tmp 4) 6, type := 0, pos := "gram.go:50", after := #[{ on := 13, ground := Ground.guard }], guard := some (13, true) }) (v := undef) rfl (by kernel_rfl) (by kernel_rfl) (by kernel_rfl) (fun _ _ _ h => h) (Or.inr ⟨by rfl, rfl⟩) (by assumption) ?_
      try simp only [Act.put, List.setIfInBounds_toArray, List.set_cons_zero, List.set_cons_succ]
      refine wpAnyH_take (i := 19) (oi := { dst := some 44, op := Op.load 2 (Operand.tmp 43), type := 2, pos := "gram.go:50", after := #[{ on := 18, ground := Ground.data }, { on := 13, ground := Ground.guard }], guard := some (13, true) }) (v := undef) rfl (by kernel_rfl) (by kernel_rfl) (by kernel_rfl) (fun _ _ _ h => h) (Or.inr ⟨by rfl, rfl⟩) (by assumption) ?_
      try simp only [Act.put, List.setIfInBounds_toArray, List.set_cons_zero, List.set_cons_succ]
      refine wpAnyH_take (i := 20) (oi := { dst := some 45, op := Op.binOp BinOp.gtr 2 (Operand.tmp 42) (Operand.tmp 44) 2, type := 4, pos := "gram.go:50", after := #[{ on := 17, ground := Ground.data }, { on := 19, ground := Ground.data }, { on := 13, ground := Ground.guard }], guard := some (13, true) }) (v := undef) rfl (by kernel_rfl) (by kernel_rfl) (by kernel_rfl) (fun _ _ _ h => h) (Or.inr ⟨by rfl, rfl⟩) (by assumption) ?_
      try simp only [Act.put, List.setIfInBounds_toArray, List.set_cons_zero, List.set_cons_succ]
      refine wpAnyH_take (i := 21) (oi := { dst := some 46, op := Op.pick (Operand.tmp 38) (Operand.tmp 45) (Operand.const (Value.bool false)), type := 4, pos := "gram.go:50", after := #[{ on := 13, ground := Ground.data }, { on := 20, ground := Ground.data }, { on := 11, ground := Ground.guard }], guard := some (11, false) }) (v := undef) rfl (by kernel_rfl) (by kernel_rfl) (by kernel_rfl) (fun _ _ _ h => h) (Or.inr ⟨by rfl, rfl⟩) (by assumption) ?_
      try simp only [Act.put, List.setIfInBounds_toArray, List.set_cons_zero, List.set_cons_succ]
      refine wpAnyH_take (i := 22) (oi := { dst := some 47, op := Op.pick (Operand.tmp 36) (Operand.const (Value.bool true)) (Operand.tmp 46), type := 4, pos := "gram.go:50", after := #[{ on := 11, ground := Ground.data }, { on := 21, ground := Ground.data }], guard := none }) (v := ?hv7) rfl (by kernel_rfl) (by kernel_rfl) (by kernel_rfl) (fun _ _ _ h => h) (Or.inl ⟨by rfl, ?hy7⟩) (by assumption) ?_
      case hy7 => ((intro w hSw); (try dsimp only at hSw); go_simp; (try with_reducible rfl))
      try simp only [Act.put, List.setIfInBounds_toArray, List.set_cons_zero, List.set_cons_succ]
      refine wpAnyH_take (i := 23) (oi := { dst := some 24, op := Op.assign (Operand.tmp 47), type := 4, pos := "gram.go:50", after := #[{ on := 22, ground := Ground.data }, { on := 17, ground := Ground.chain }], guard := none }) (v := ?hv8) rfl (by kernel_rfl) (by kernel_rfl) (by kernel_rfl) (fun _ _ _ h => h) (Or.inl ⟨by rfl, ?hy8⟩) (by assumption) ?_
      case hy8 => ((intro w hSw); (try dsimp only at hSw); go_simp; (try with_reducible rfl))
      try simp only [Act.put, List.setIfInBounds_toArray, List.set_cons_zero, List.set_cons_succ]
      refine wpAnyH_done (by kernel_rfl) ?_ _
      have g := (H1.out.cell (p := ⟨7, 0, none⟩) l11).trans gw11
      go_wp2_with fail
      go_ret
      exact ⟨by rw [HR.out]; rfl, H1.out⟩
    case true =>
    by_cases q3 : 54840 < X
    case pos =>
      have HR := Lib.hid (HL.out hno.out (.inr (.inl q3)))
      have d3 : decide ((54840 : Int) < X) = true := decide_eq_true q3
      clear HL HF
      go_enter Tryd.func28, Tryd.ntmps28
      go_wp2_with fail
      generalize w.alloc _ = W0 at *
      have HB := Lib.hid (show Below w.heap.size w W0.drew from hb0.trans (Below.drew (Below.refl _ _)))
      have c0 : RuC w.heap.size m W0.drew := c12
      have L0 : w.heap.size < W0.drew.heap.size := hlt
      clear g3 hb0
      refine wp_region_held_drew (S := (fun y => y.cell? ⟨w.heap.size, 12, none⟩ = some (.int .i64 m.r.m) ∧ y.cell? ⟨w.heap.size, 13, none⟩ = some (.int .i64 m.r.c) ∧ y.cell? ⟨w.heap.size, 14, none⟩ = some (.int .i64 m.r.s) ∧ y.cell? ⟨w.heap.size, 15, none⟩ = some (.int .i64 m.r.w) ∧ y.cell? ⟨w.heap.size, 16, none⟩ = some (.int .i64 m.r.g) ∧ y.cell? ⟨w.heap.size, 20, none⟩ = some (.int .i64 m.ticks))) (by kernel_rfl) ?_ (fun hHeld => ?_)
      · (try dsimp only); exact c0
      refine wpAnyH_take (i := 0) (oi := { dst := some 25, op := Op.fieldAddr 30 (Operand.tmp 4) 2, type := 0, pos := "gram.go:50", after := #[], guard := none }) (v := ?hv9) rfl (by kernel_rfl) (by kernel_rfl) (by kernel_rfl) (fun _ _ _ h => h) (Or.inl ⟨by rfl, ?hy9⟩) (by assumption) ?_
      case hy9 => ((intro w hSw); (try dsimp only at hSw); go_simp; (try with_reducible rfl))
      try simp only [Act.put, List.setIfInBounds_toArray, List.set_cons_zero, List.set_cons_succ]
      refine wpAnyH_take (i := 1) (oi := { dst := some 26, op := Op.load 28 (Operand.tmp 25), type := 28, pos := "gram.go:50", after := #[{ on := 0, ground := Ground.data }], guard := none }) (v := ?hv10) rfl (by kernel_rfl) (by kernel_rfl) (by kernel_rfl) (fun _ _ _ h => h) (Or.inl ⟨by rfl, ?hy10⟩) (by assumption) ?_
      case hy10 => ((intro w hSw); (try dsimp only at hSw); go_simp; (try with_reducible rfl))
      try simp only [Act.put, List.setIfInBounds_toArray, List.set_cons_zero, List.set_cons_succ]
      refine wpAnyH_ready (rs := [2]) (by kernel_rfl) (by simp) ?_
      refine AllReadyH.cons (o := { dst := some 27, op := Op.call { callee := Callee.value (Operand.func 52), args := #[Operand.tmp 26], argTypes := #[28] }, type := 4, pos := "gram.go:50", after := #[{ on := 1, ground := Ground.data }], guard := none }) rfl (fun K hK => ?_) AllReadyH.nil
      go_simp
      go_at_call 52; (with_reducible refine (CV.out _).mono ?_); rintro e x1 ⟨rfl, z1⟩; have k1 := ru_keep c0 z1 L0; have l1 := Nat.lt_of_lt_of_le L0 z1.size; have H1 := Lib.hid (HB.out.trans (z1.mono (Nat.le_of_lt L0))); clear z1
      refine hK.out _ _ ?_ (fun hHeld => ?_)
      · (try dsimp only); exact k1
      clear hK K
      try simp only [Act.put, List.setIfInBounds_toArray, List.set_cons_zero, List.set_cons_succ]
      refine wpAnyH_take (i := 3) (oi := { dst := some 28, op := Op.unOp UnOp.not 4 (Operand.tmp 27), type := 4, pos := "gram.go:50", after := #[{ on := 2, ground := Ground.data }], guard := none }) (v := ?hv11) rfl (by kernel_rfl) (by kernel_rfl) (by kernel_rfl) (fun _ _ _ h => h) (Or.inl ⟨by rfl, ?hy11⟩) (by assumption) ?_
      case hy11 => ((intro w hSw); (try dsimp only at hSw); go_simp; (try with_reducible rfl))
      try simp only [Act.put, List.setIfInBounds_toArray, List.set_cons_zero, List.set_cons_succ]
      refine wpAnyH_take (i := 4) (oi := { dst := some 29, op := Op.move (Operand.tmp 28), type := 4, pos := "gram.go:50", after := #[{ on := 3, ground := Ground.data }, { on := 2, ground := Ground.chain }], guard := none }) (v := ?hv12) rfl (by kernel_rfl) (by kernel_rfl) (by kernel_rfl) (fun _ _ _ h => h) (Or.inl ⟨by rfl, ?hy12⟩) (by assumption) ?_
      case hy12 => ((intro w hSw); (try dsimp only at hSw); go_simp; (try with_reducible rfl))
      try simp only [Act.put, List.setIfInBounds_toArray, List.set_cons_zero, List.set_cons_succ]
      refine wpAnyH_take (i := 5) (oi := { dst := some 30, op := Op.fieldAddr 30 (Operand.tmp 4) 2, type := 0, pos := "gram.go:50", after := #[{ on := 4, ground := Ground.guard }], guard := some (4, false) }) (v := ?hv13) rfl (by kernel_rfl) (by kernel_rfl) (by kernel_rfl) (fun _ _ _ h => h) (Or.inl ⟨by rfl, ?hy13⟩) (by assumption) ?_
      case hy13 => ((intro w hSw); (try dsimp only at hSw); go_simp; (try with_reducible rfl))
      try simp only [Act.put, List.setIfInBounds_toArray, List.set_cons_zero, List.set_cons_succ]
      refine wpAnyH_take (i := 6) (oi := { dst := some 31, op := Op.load 28 (Operand.tmp 30), type := 28, pos := "gram.go:50", after := #[{ on := 5, ground := Ground.data }, { on := 4, ground := Ground.guard }], guard := some (4, false) }) (v := ?hv14) rfl (by kernel_rfl) (by kernel_rfl) (by kernel_rfl) (fun _ _ _ h => h) (Or.inl ⟨by rfl, ?hy14⟩) (by assumption) ?_
      case hy14 => ((intro w hSw); (try dsimp only at hSw); go_simp; (try with_reducible rfl))
      try simp only [Act.put, List.setIfInBounds_toArray, List.set_cons_zero, List.set_cons_succ]
      refine wpAnyH_take (i := 7) (oi := { dst := some 32, op := Op.move (Operand.tmp 3), type := 3, pos := "gram.go:50", after := #[{ on := 4, ground := Ground.guard }], guard := some (4, false) }) (v := ?hv15) rfl (by kernel_rfl) (by kernel_rfl) (by kernel_rfl) (fun _ _ _ h => h) (Or.inl ⟨by rfl, ?hy15⟩) (by assumption) ?_
      case hy15 => ((intro w hSw); (try dsimp only at hSw); go_simp; (try with_reducible rfl))
      try simp only [Act.put, List.setIfInBounds_toArray, List.set_cons_zero, List.set_cons_succ]
      refine wpAnyH_ready (rs := [8]) (by kernel_rfl) (by simp) ?_
      refine AllReadyH.cons (o := { dst := some 33, op := Op.call { callee := Callee.value (Operand.func 53), args := #[Operand.tmp 31, Operand.tmp 32], argTypes := #[28, 3] }, type := 2, pos := "gram.go:50", after := #[{ on := 6, ground := Ground.data }, { on := 7, ground := Ground.data }, { on := 4, ground := Ground.chain }, { on := 4, ground := Ground.guard }], guard := some (4, false) }) rfl (fun K hK => ?_) AllReadyH.nil
      go_simp
      go_at_call 53; (with_reducible refine (CP.out _).mono ?_); rintro e x2 ⟨rfl, z2⟩; have k2 := ru_keep k1 z2 l1; have l2 := Nat.lt_of_lt_of_le l1 z2.size; have H2 := Lib.hid (H1.out.trans (z2.mono (Nat.le_of_lt l1))); clear z2
      refine hK.out _ _ ?_ (fun hHeld => ?_)
      · (try dsimp only); exact k2
      clear hK K
      try simp only [Act.put, List.setIfInBounds_toArray, List.set_cons_zero, List.set_cons_succ]
      refine wpAnyH_take (i := 9) (oi := { dst := some 34, op := Op.binOp BinOp.gtr 2 (Operand.tmp 33) (Operand.const (Value.int IntKind.i64 54840)) 2, type := 4, pos := "gram.go:50", after := #[{ on := 8, ground := Ground.data }, { on := 4, ground := Ground.guard }], guard := some (4, false) }) (v := ?hv16) rfl (by kernel_rfl) (by kernel_rfl) (by kernel_rfl) (fun _ _ _ h => h) (Or.inl ⟨by rfl, ?hy16⟩) (by assumption) ?_
      case hy16 => ((intro w hSw); (try dsimp only at hSw); go_simp; (try with_reducible rfl))
      try simp only [Act.put, List.setIfInBounds_toArray, List.set_cons_zero, List.set_cons_succ]
      refine wpAnyH_take (i := 10) (oi := { dst := some 35, op := Op.pick (Operand.tmp 29) (Operand.const (Value.bool true)) (Operand.tmp 34), type := 4, pos := "gram.go:50", after := #[{ on := 4, ground := Ground.data }, { on := 9, ground := Ground.data }], guard := none }) (v := ?hv17) rfl (by kernel_rfl) (by kernel_rfl) (by kernel_rfl) (fun _ _ _ h => h) (Or.inl ⟨by rfl, ?hy17⟩) (by assumption) ?_
      case hy17 => ((intro w hSw); (try dsimp only at hSw); go_simp; (try with_reducible rfl))
      try simp only [Act.put, List.setIfInBounds_toArray, List.set_cons_zero, List.set_cons_succ]
      refine wpAnyH_take (i := 11) (oi := { dst := some 36, op := Op.move (Operand.tmp 35), type := 4, pos := "gram.go:50", after := #[{ on := 10, ground := Ground.data }, { on := 8, ground := Ground.chain }], guard := none }) (v := ?hv18) rfl (by kernel_rfl) (by kernel_rfl) (by kernel_rfl) (fun _ _ _ h => h) (Or.inl ⟨by rfl, ?hy18⟩) (by assumption) ?_
      case hy18 => ((intro w hSw); (try dsimp only at hSw); go_simp; (try with_reducible rfl))
      try simp only [Act.put, List.setIfInBounds_toArray, List.set_cons_zero, List.set_cons_succ]
      refine wpAnyH_take (i := 12) (oi := { dst := some 37, op := Op.move (Operand.tmp 1), type := 4, pos := "gram.go:50", after := #[{ on := 11, ground := Ground.guard }], guard := some (11, false) }) (v := undef) rfl (by kernel_rfl) (by kernel_rfl) (by kernel_rfl) (fun _ _ _ h => h) (Or.inr ⟨by rfl, rfl⟩) (by assumption) ?_
      try simp only [Act.put, List.setIfInBounds_toArray, List.set_cons_zero, List.set_cons_succ]
      refine wpAnyH_take (i := 13) (oi := { dst := some 38, op := Op.move (Operand.tmp 37), type := 4, pos := "gram.go:50", after := #[{ on := 12, ground := Ground.data }, { on := 11, ground := Ground.chain }, { on := 11, ground := Ground.guard }], guard := some (11, false) }) (v := undef) rfl (by kernel_rfl) (by kernel_rfl) (by kernel_rfl) (fun _ _ _ h => h) (Or.inr ⟨by rfl, rfl⟩) (by assumption) ?_
      try simp only [Act.put, List.setIfInBounds_toArray, List.set_cons_zero, List.set_cons_succ]
      refine wpAnyH_take (i := 14) (oi := { dst := some 39, op := Op.fieldAddr 30 (Operand.tmp 4) 2, type := 0, pos := "gram.go:50", after := #[{ on := 13, ground := Ground.guard }], guard := some (13, true) }) (v := undef) rfl (by kernel_rfl) (by kernel_rfl) (by kernel_rfl) (fun _ _ _ h => h) (Or.inr ⟨by rfl, rfl⟩) (by assumption) ?_
      try simp only [Act.put, List.setIfInBounds_toArray, List.set_cons_zero, List.set_cons_succ]
      refine wpAnyH_take (i := 15) (oi := { dst := some 40, op := Op.load 28 (Operand.tmp 39), type := 28, pos := "gram.go:50", after := #[{ on := 14, ground := Ground.data }, { on := 13, ground := Ground.guard }], guard := some (13, true) }) (v := undef) rfl (by kernel_rfl) (by kernel_rfl) (by kernel_rfl) (fun _ _ _ h => h) (Or.inr ⟨by rfl, rfl⟩) (by assumption) ?_
      try simp only [Act.put, List.setIfInBounds_toArray, List.set_cons_zero, List.set_cons_succ]
      refine wpAnyH_take (i := 16) (oi := { dst := some 41, op := Op.move (Operand.tmp 3), type := 3, pos := "gram.go:50", after := #[{ on := 13, ground := Ground.guard }], guard := some (13, true) }) (v := undef) rfl (by kernel_rfl) (by kernel_rfl) (by kernel_rfl) (fun _ _ _ h => h) (Or.inr ⟨by rfl, rfl⟩) (by assumption) ?_
      try simp only [Act.put, List.setIfInBounds_toArray, List.set_cons_zero, List.set_cons_succ]
      refine wpAnyH_take (i := 17) (oi := { dst := some 42, op := Op.call { callee := Callee.value (Operand.func 53), args := #[Operand.tmp 40, Operand.tmp 41], argTypes := #[28, 3] }, type := 2, pos := "gram.go:50", after := #[{ on := 15, ground := Ground.data }, { on := 16, ground := Ground.data }, { on := 13, ground := Ground.chain }, { on := 13, ground := Ground.guard }], guard := some (13, true) }) (v := undef) rfl (by kernel_rfl) (by kernel_rfl) (by kernel_rfl) (fun _ _ _ h => h) (Or.inr ⟨by rfl, rfl⟩) (by assumption) ?_
      try simp only [Act.put, List.setIfInBounds_toArray, List.set_cons_zero, List.set_cons_succ]
      refine wpAnyH_take (i := 18) (oi := { dst := some 43, op := Op.fieldAddr 30 (Operand.tmp 4) 6, type := 0, pos := "gram.go:50", after := #[{ on := 13, ground := Ground.guard }], guard := some (13, true) }) (v := undef) rfl (by kernel_rfl) (by kernel_rfl) (by kernel_rfl) (fun _ _ _ h => h) (Or.inr ⟨by rfl, rfl⟩) (by assumption) ?_
      try simp only [Act.put, List.setIfInBounds_toArray, List.set_cons_zero, List.set_cons_succ]
      refine wpAnyH_take (i := 19) (oi := { dst := some 44, op := Op.load 2 (Operand.tmp 43), type := 2, pos := "gram.go:50", after := #[{ on := 18, ground := Ground.data }, { on := 13, ground := Ground.guard }], guard := some (13, true) }) (v := undef) rfl (by kernel_rfl) (by kernel_rfl) (by kernel_rfl) (fun _ _ _ h => h) (Or.inr ⟨by rfl, rfl⟩) (by assumption) ?_
      try simp only [Act.put, List.setIfInBounds_toArray, List.set_cons_zero, List.set_cons_succ]
      refine wpAnyH_take (i := 20) (oi := { dst := some 45, op := Op.binOp BinOp.gtr 2 (Operand.tmp 42) (Operand.tmp 44) 2, type := 4, pos := "gram.go:50", after := #[{ on := 17, ground := Ground.data }, { on := 19, ground := Ground.data }, { on := 13, ground := Ground.guard }], guard := some (13, true) }) (v := undef) rfl (by kernel_rfl) (by kernel_rfl) (by kernel_rfl) (fun _ _ _ h => h) (Or.inr ⟨by rfl, rfl⟩) (by assumption) ?_
      try simp only [Act.put, List.setIfInBounds_toArray, List.set_cons_zero, List.set_cons_succ]
      refine wpAnyH_take (i := 21) (oi := { dst := some 46, op := Op.pick (Operand.tmp 38) (Operand.tmp 45) (Operand.const (Value.bool false)), type := 4, pos := "gram.go:50", after := #[{ on := 13, ground := Ground.data }, { on := 20, ground := Ground.data }, { on := 11, ground := Ground.guard }], guard := some (11, false) }) (v := undef) rfl (by kernel_rfl) (by kernel_rfl) (by kernel_rfl) (fun _ _ _ h => h) (Or.inr ⟨by rfl, rfl⟩) (by assumption) ?_
      try simp only [Act.put, List.setIfInBounds_toArray, List.set_cons_zero, List.set_cons_succ]
      refine wpAnyH_take (i := 22) (oi := { dst := some 47, op := Op.pick (Operand.tmp 36) (Operand.const (Value.bool true)) (Operand.tmp 46), type := 4, pos := "gram.go:50", after := #[{ on := 11, ground := Ground.data }, { on := 21, ground := Ground.data }], guard := none }) (v := ?hv19) rfl (by kernel_rfl) (by kernel_rfl) (by kernel_rfl) (fun _ _ _ h => h) (Or.inl ⟨by rfl, ?hy19⟩) (by assumption) ?_
      case hy19 => ((intro w hSw); (try dsimp only at hSw); go_simp; (try with_reducible rfl))
      try simp only [Act.put, List.setIfInBounds_toArray, List.set_cons_zero, List.set_cons_succ]
      refine wpAnyH_take (i := 23) (oi := { dst := some 24, op := Op.assign (Operand.tmp 47), type := 4, pos := "gram.go:50", after := #[{ on := 22, ground := Ground.data }, { on := 17, ground := Ground.chain }], guard := none }) (v := ?hv20) rfl (by kernel_rfl) (by kernel_rfl) (by kernel_rfl) (fun _ _ _ h => h) (Or.inl ⟨by rfl, ?hy20⟩) (by assumption) ?_
      case hy20 => ((intro w hSw); (try dsimp only at hSw); go_simp; (try with_reducible rfl))
      try simp only [Act.put, List.setIfInBounds_toArray, List.set_cons_zero, List.set_cons_succ]
      refine wpAnyH_done (by kernel_rfl) ?_ _
      have g := (H2.out.cell (p := ⟨7, 0, none⟩) l11).trans gw11
      go_wp2_with fail
      go_ret
      exact ⟨by rw [HR.out]; rfl, H2.out⟩
    case neg =>
    have d3 : decide ((54840 : Int) < X) = false := decide_eq_false q3
    have HR := Lib.hid (HF.out hno.out (fun h => h.elim (fun h => by cases h) (fun h => h.elim q3 (fun h => by cases h.1))))
    clear HL HF
    go_enter Tryd.func28, Tryd.ntmps28
    go_wp2_with fail
    generalize w.alloc _ = W0 at *
    have HB := Lib.hid (show Below w.heap.size w W0.drew from hb0.trans (Below.drew (Below.refl _ _)))
    have c0 : RuC w.heap.size m W0.drew := c12
    have L0 : w.heap.size < W0.drew.heap.size := hlt
    clear g3 hb0
    refine wp_region_held_drew (S := (fun y => y.cell? ⟨w.heap.size, 12, none⟩ = some (.int .i64 m.r.m) ∧ y.cell? ⟨w.heap.size, 13, none⟩ = some (.int .i64 m.r.c) ∧ y.cell? ⟨w.heap.size, 14, none⟩ = some (.int .i64 m.r.s) ∧ y.cell? ⟨w.heap.size, 15, none⟩ = some (.int .i64 m.r.w) ∧ y.cell? ⟨w.heap.size, 16, none⟩ = some (.int .i64 m.r.g) ∧ y.cell? ⟨w.heap.size, 20, none⟩ = some (.int .i64 m.ticks))) (by kernel_rfl) ?_ (fun hHeld => ?_)
    · (try dsimp only); exact c0
    refine wpAnyH_take (i := 0) (oi := { dst := some 25, op := Op.fieldAddr 30 (Operand.tmp 4) 2, type := 0, pos := "gram.go:50", after := #[], guard := none }) (v := ?hv21) rfl (by kernel_rfl) (by kernel_rfl) (by kernel_rfl) (fun _ _ _ h => h) (Or.inl ⟨by rfl, ?hy21⟩) (by assumption) ?_
    case hy21 => ((intro w hSw); (try dsimp only at hSw); go_simp; (try with_reducible rfl))
    try simp only [Act.put, List.setIfInBounds_toArray, List.set_cons_zero, List.set_cons_succ]
    refine wpAnyH_take (i := 1) (oi := { dst := some 26, op := Op.load 28 (Operand.tmp 25), type := 28, pos := "gram.go:50", after := #[{ on := 0, ground := Ground.data }], guard := none }) (v := ?hv22) rfl (by kernel_rfl) (by kernel_rfl) (by kernel_rfl) (fun _ _ _ h => h) (Or.inl ⟨by rfl, ?hy22⟩) (by assumption) ?_
    case hy22 => ((intro w hSw); (try dsimp only at hSw); go_simp; (try with_reducible rfl))
    try simp only [Act.put, List.setIfInBounds_toArray, List.set_cons_zero, List.set_cons_succ]
    refine wpAnyH_ready (rs := [2]) (by kernel_rfl) (by simp) ?_
    refine AllReadyH.cons (o := { dst := some 27, op := Op.call { callee := Callee.value (Operand.func 52), args := #[Operand.tmp 26], argTypes := #[28] }, type := 4, pos := "gram.go:50", after := #[{ on := 1, ground := Ground.data }], guard := none }) rfl (fun K hK => ?_) AllReadyH.nil
    go_simp
    go_at_call 52; (with_reducible refine (CV.out _).mono ?_); rintro e x1 ⟨rfl, z1⟩; have k1 := ru_keep c0 z1 L0; have l1 := Nat.lt_of_lt_of_le L0 z1.size; have H1 := Lib.hid (HB.out.trans (z1.mono (Nat.le_of_lt L0))); clear z1
    refine hK.out _ _ ?_ (fun hHeld => ?_)
    · (try dsimp only); exact k1
    clear hK K
    try simp only [Act.put, List.setIfInBounds_toArray, List.set_cons_zero, List.set_cons_succ]
    refine wpAnyH_take (i := 3) (oi := { dst := some 28, op := Op.unOp UnOp.not 4 (Operand.tmp 27), type := 4, pos := "gram.go:50", after := #[{ on := 2, ground := Ground.data }], guard := none }) (v := ?hv23) rfl (by kernel_rfl) (by kernel_rfl) (by kernel_rfl) (fun _ _ _ h => h) (Or.inl ⟨by rfl, ?hy23⟩) (by assumption) ?_
    case hy23 => ((intro w hSw); (try dsimp only at hSw); go_simp; (try with_reducible rfl))
    try simp only [Act.put, List.setIfInBounds_toArray, List.set_cons_zero, List.set_cons_succ]
    refine wpAnyH_take (i := 4) (oi := { dst := some 29, op := Op.move (Operand.tmp 28), type := 4, pos := "gram.go:50", after := #[{ on := 3, ground := Ground.data }, { on := 2, ground := Ground.chain }], guard := none }) (v := ?hv24) rfl (by kernel_rfl) (by kernel_rfl) (by kernel_rfl) (fun _ _ _ h => h) (Or.inl ⟨by rfl, ?hy24⟩) (by assumption) ?_
    case hy24 => ((intro w hSw); (try dsimp only at hSw); go_simp; (try with_reducible rfl))
    try simp only [Act.put, List.setIfInBounds_toArray, List.set_cons_zero, List.set_cons_succ]
    refine wpAnyH_take (i := 5) (oi := { dst := some 30, op := Op.fieldAddr 30 (Operand.tmp 4) 2, type := 0, pos := "gram.go:50", after := #[{ on := 4, ground := Ground.guard }], guard := some (4, false) }) (v := ?hv25) rfl (by kernel_rfl) (by kernel_rfl) (by kernel_rfl) (fun _ _ _ h => h) (Or.inl ⟨by rfl, ?hy25⟩) (by assumption) ?_
    case hy25 => ((intro w hSw); (try dsimp only at hSw); go_simp; (try with_reducible rfl))
    try simp only [Act.put, List.setIfInBounds_toArray, List.set_cons_zero, List.set_cons_succ]
    refine wpAnyH_take (i := 6) (oi := { dst := some 31, op := Op.load 28 (Operand.tmp 30), type := 28, pos := "gram.go:50", after := #[{ on := 5, ground := Ground.data }, { on := 4, ground := Ground.guard }], guard := some (4, false) }) (v := ?hv26) rfl (by kernel_rfl) (by kernel_rfl) (by kernel_rfl) (fun _ _ _ h => h) (Or.inl ⟨by rfl, ?hy26⟩) (by assumption) ?_
    case hy26 => ((intro w hSw); (try dsimp only at hSw); go_simp; (try with_reducible rfl))
    try simp only [Act.put, List.setIfInBounds_toArray, List.set_cons_zero, List.set_cons_succ]
    refine wpAnyH_take (i := 7) (oi := { dst := some 32, op := Op.move (Operand.tmp 3), type := 3, pos := "gram.go:50", after := #[{ on := 4, ground := Ground.guard }], guard := some (4, false) }) (v := ?hv27) rfl (by kernel_rfl) (by kernel_rfl) (by kernel_rfl) (fun _ _ _ h => h) (Or.inl ⟨by rfl, ?hy27⟩) (by assumption) ?_
    case hy27 => ((intro w hSw); (try dsimp only at hSw); go_simp; (try with_reducible rfl))
    try simp only [Act.put, List.setIfInBounds_toArray, List.set_cons_zero, List.set_cons_succ]
    refine wpAnyH_ready (rs := [8]) (by kernel_rfl) (by simp) ?_
    refine AllReadyH.cons (o := { dst := some 33, op := Op.call { callee := Callee.value (Operand.func 53), args := #[Operand.tmp 31, Operand.tmp 32], argTypes := #[28, 3] }, type := 2, pos := "gram.go:50", after := #[{ on := 6, ground := Ground.data }, { on := 7, ground := Ground.data }, { on := 4, ground := Ground.chain }, { on := 4, ground := Ground.guard }], guard := some (4, false) }) rfl (fun K hK => ?_) AllReadyH.nil
    go_simp
    go_at_call 53; (with_reducible refine (CP.out _).mono ?_); rintro e x2 ⟨rfl, z2⟩; have k2 := ru_keep k1 z2 l1; have l2 := Nat.lt_of_lt_of_le l1 z2.size; have H2 := Lib.hid (H1.out.trans (z2.mono (Nat.le_of_lt l1))); clear z2
    refine hK.out _ _ ?_ (fun hHeld => ?_)
    · (try dsimp only); exact k2
    clear hK K
    try simp only [Act.put, List.setIfInBounds_toArray, List.set_cons_zero, List.set_cons_succ]
    refine wpAnyH_take (i := 9) (oi := { dst := some 34, op := Op.binOp BinOp.gtr 2 (Operand.tmp 33) (Operand.const (Value.int IntKind.i64 54840)) 2, type := 4, pos := "gram.go:50", after := #[{ on := 8, ground := Ground.data }, { on := 4, ground := Ground.guard }], guard := some (4, false) }) (v := ?hv28) rfl (by kernel_rfl) (by kernel_rfl) (by kernel_rfl) (fun _ _ _ h => h) (Or.inl ⟨by rfl, ?hy28⟩) (by assumption) ?_
    case hy28 => ((intro w hSw); (try dsimp only at hSw); go_simp; (try with_reducible rfl))
    try simp only [Act.put, List.setIfInBounds_toArray, List.set_cons_zero, List.set_cons_succ]
    refine wpAnyH_take (i := 10) (oi := { dst := some 35, op := Op.pick (Operand.tmp 29) (Operand.const (Value.bool true)) (Operand.tmp 34), type := 4, pos := "gram.go:50", after := #[{ on := 4, ground := Ground.data }, { on := 9, ground := Ground.data }], guard := none }) (v := ?hv29) rfl (by kernel_rfl) (by kernel_rfl) (by kernel_rfl) (fun _ _ _ h => h) (Or.inl ⟨by rfl, ?hy29⟩) (by assumption) ?_
    case hy29 => ((intro w hSw); (try dsimp only at hSw); go_simp; (try with_reducible rfl))
    try simp only [Act.put, List.setIfInBounds_toArray, List.set_cons_zero, List.set_cons_succ]
    refine wpAnyH_take (i := 11) (oi := { dst := some 36, op := Op.move (Operand.tmp 35), type := 4, pos := "gram.go:50", after := #[{ on := 10, ground := Ground.data }, { on := 8, ground := Ground.chain }], guard := none }) (v := ?hv30) rfl (by kernel_rfl) (by kernel_rfl) (by kernel_rfl) (fun _ _ _ h => h) (Or.inl ⟨by rfl, ?hy30⟩) (by assumption) ?_
    case hy30 => ((intro w hSw); (try dsimp only at hSw); go_simp; (try with_reducible rfl))
    try simp only [Act.put, List.setIfInBounds_toArray, List.set_cons_zero, List.set_cons_succ]
    refine wpAnyH_take (i := 12) (oi := { dst := some 37, op := Op.move (Operand.tmp 1), type := 4, pos := "gram.go:50", after := #[{ on := 11, ground := Ground.guard }], guard := some (11, false) }) (v := ?hv31) rfl (by kernel_rfl) (by kernel_rfl) (by kernel_rfl) (fun _ _ _ h => h) (Or.inl ⟨by rfl, ?hy31⟩) (by assumption) ?_
    case hy31 => ((intro w hSw); (try dsimp only at hSw); go_simp; (try with_reducible rfl))
    try simp only [Act.put, List.setIfInBounds_toArray, List.set_cons_zero, List.set_cons_succ]
    refine wpAnyH_take (i := 13) (oi := { dst := some 38, op := Op.move (Operand.tmp 37), type := 4, pos := "gram.go:50", after := #[{ on := 12, ground := Ground.data }, { on := 11, ground := Ground.chain }, { on := 11, ground := Ground.guard }], guard := some (11, false) }) (v := ?hv32) rfl (by kernel_rfl) (by kernel_rfl) (by kernel_rfl) (fun _ _ _ h => h) (Or.inl ⟨by rfl, ?hy32⟩) (by assumption) ?_
    case hy32 => ((intro w hSw); (try dsimp only at hSw); go_simp; (try with_reducible rfl))
    try simp only [Act.put, List.setIfInBounds_toArray, List.set_cons_zero, List.set_cons_succ]
    refine wpAnyH_take (i := 14) (oi := { dst := some 39, op := Op.fieldAddr 30 (Operand.tmp 4) 2, type := 0, pos := "gram.go:50", after := #[{ on := 13, ground := Ground.guard }], guard := some (13, true) }) (v := undef) rfl (by kernel_rfl) (by kernel_rfl) (by kernel_rfl) (fun _ _ _ h => h) (Or.inr ⟨by rfl, rfl⟩) (by assumption) ?_
    try simp only [Act.put, List.setIfInBounds_toArray, List.set_cons_zero, List.set_cons_succ]
    refine wpAnyH_take (i := 15) (oi := { dst := some 40, op := Op.load 28 (Operand.tmp 39), type := 28, pos := "gram.go:50", after := #[{ on := 14, ground := Ground.data }, { on := 13, ground := Ground.guard }], guard := some (13, true) }) (v := undef) rfl (by kernel_rfl) (by kernel_rfl) (by kernel_rfl) (fun _ _ _ h => h) (Or.inr ⟨by rfl, rfl⟩) (by assumption) ?_
    try simp only [Act.put, List.setIfInBounds_toArray, List.set_cons_zero, List.set_cons_succ]
    refine wpAnyH_take (i := 16) (oi := { dst := some 41, op := Op.move (Operand.tmp 3), type := 3, pos := "gram.go:50", after := #[{ on := 13, ground := Ground.guard }], guard := some (13, true) }) (v := undef) rfl (by kernel_rfl) (by kernel_rfl) (by kernel_rfl) (fun _ _ _ h => h) (Or.inr ⟨by rfl, rfl⟩) (by assumption) ?_
    try simp only [Act.put, List.setIfInBounds_toArray, List.set_cons_zero, List.set_cons_succ]
    refine wpAnyH_take (i := 17) (oi := { dst := some 42, op := Op.call { callee := Callee.value (Operand.func 53), args := #[Operand.tmp 40, Operand.tmp 41], argTypes := #[28, 3] }, type := 2, pos := "gram.go:50", after := #[{ on := 15, ground := Ground.data }, { on := 16, ground := Ground.data }, { on := 13, ground := Ground.chain }, { on := 13, ground := Ground.guard }], guard := some (13, true) }) (v := undef) rfl (by kernel_rfl) (by kernel_rfl) (by kernel_rfl) (fun _ _ _ h => h) (Or.inr ⟨by rfl, rfl⟩) (by assumption) ?_
    try simp only [Act.put, List.setIfInBounds_toArray, List.set_cons_zero, List.set_cons_succ]
    refine wpAnyH_take (i := 18) (oi := { dst := some 43, op := Op.fieldAddr 30 (Operand.tmp 4) 6, type := 0, pos := "gram.go:50", after := #[{ on := 13, ground := Ground.guard }], guard := some (13, true) }) (v := undef) rfl (by kernel_rfl) (by kernel_rfl) (by kernel_rfl) (fun _ _ _ h => h) (Or.inr ⟨by rfl, rfl⟩) (by assumption) ?_
    try simp only [Act.put, List.setIfInBounds_toArray, List.set_cons_zero, List.set_cons_succ]
    refine wpAnyH_take (i := 19) (oi := { dst := some 44, op := Op.load 2 (Operand.tmp 43), type := 2, pos := "gram.go:50", after := #[{ on := 18, ground := Ground.data }, { on := 13, ground := Ground.guard }], guard := some (13, true) }) (v := undef) rfl (by kernel_rfl) (by kernel_rfl) (by kernel_rfl) (fun _ _ _ h => h) (Or.inr ⟨by rfl, rfl⟩) (by assumption) ?_
    try simp only [Act.put, List.setIfInBounds_toArray, List.set_cons_zero, List.set_cons_succ]
    refine wpAnyH_take (i := 20) (oi := { dst := some 45, op := Op.binOp BinOp.gtr 2 (Operand.tmp 42) (Operand.tmp 44) 2, type := 4, pos := "gram.go:50", after := #[{ on := 17, ground := Ground.data }, { on := 19, ground := Ground.data }, { on := 13, ground := Ground.guard }], guard := some (13, true) }) (v := undef) rfl (by kernel_rfl) (by kernel_rfl) (by kernel_rfl) (fun _ _ _ h => h) (Or.inr ⟨by rfl, rfl⟩) (by assumption) ?_
    try simp only [Act.put, List.setIfInBounds_toArray, List.set_cons_zero, List.set_cons_succ]
    refine wpAnyH_take (i := 21) (oi := { dst := some 46, op := Op.pick (Operand.tmp 38) (Operand.tmp 45) (Operand.const (Value.bool false)), type := 4, pos := "gram.go:50", after := #[{ on := 13, ground := Ground.data }, { on := 20, ground := Ground.data }, { on := 11, ground := Ground.guard }], guard := some (11, false) }) (v := ?hv33) rfl (by kernel_rfl) (by kernel_rfl) (by kernel_rfl) (fun _ _ _ h => h) (Or.inl ⟨by rfl, ?hy33⟩) (by assumption) ?_
    case hy33 => ((intro w hSw); (try dsimp only at hSw); go_simp; (try with_reducible rfl))
    try simp only [Act.put, List.setIfInBounds_toArray, List.set_cons_zero, List.set_cons_succ]
    refine wpAnyH_take (i := 22) (oi := { dst := some 47, op := Op.pick (Operand.tmp 36) (Operand.const (Value.bool true)) (Operand.tmp 46), type := 4, pos := "gram.go:50", after := #[{ on := 11, ground := Ground.data }, { on := 21, ground := Ground.data }], guard := none }) (v := ?hv34) rfl (by kernel_rfl) (by kernel_rfl) (by kernel_rfl) (fun _ _ _ h => h) (Or.inl ⟨by rfl, ?hy34⟩) (by assumption) ?_
    case hy34 => ((intro w hSw); (try dsimp only at hSw); go_simp; (try with_reducible rfl))
    try simp only [Act.put, List.setIfInBounds_toArray, List.set_cons_zero, List.set_cons_succ]
    refine wpAnyH_take (i := 23) (oi := { dst := some 24, op := Op.assign (Operand.tmp 47), type := 4, pos := "gram.go:50", after := #[{ on := 22, ground := Ground.data }, { on := 17, ground := Ground.chain }], guard := none }) (v := ?hv35) rfl (by kernel_rfl) (by kernel_rfl) (by kernel_rfl) (fun _ _ _ h => h) (Or.inl ⟨by rfl, ?hy35⟩) (by assumption) ?_
    case hy35 => ((intro w hSw); (try dsimp only at hSw); go_simp; (try with_reducible rfl))
    try simp only [Act.put, List.setIfInBounds_toArray, List.set_cons_zero, List.set_cons_succ]
    refine wpAnyH_done (by kernel_rfl) ?_ _
    go_wp2_with fail
    go_ret
    exact ⟨by rw [HR.out]; rfl, H2.out⟩
  case true =>
    by_cases q2 : m.bytes < bytes
    case pos =>
      have HR := Lib.hid (HM.out (.inr ⟨rfl, q2⟩))
      have d2 : decide (m.bytes < bytes) = true := decide_eq_true q2
      go_enter Tryd.func28, Tryd.ntmps28
      go_wp2_with fail
      go_ret
      exact ⟨by rw [HR.out]; rfl, hb0⟩
    case neg =>
    have d2 : decide (m.bytes < bytes) = false := decide_eq_false q2
    have hno := Lib.hid (show ¬ (m.size < parts ∨ (true = true ∧ m.bytes < bytes)) from fun h => h.elim q1 (fun h => q2 h.2))
    clear HM
    cases V
    case false =>
      have HR := Lib.hid (HL.out hno.out (.inl rfl))
      clear HL HF
      go_enter Tryd.func28, Tryd.ntmps28
      go_wp2_with fail
      generalize w.alloc _ = W0 at *
      have HB := Lib.hid (show Below w.heap.size w W0.drew from hb0.trans (Below.drew (Below.refl _ _)))
      have c0 : RuC w.heap.size m W0.drew := c12
      have L0 : w.heap.size < W0.drew.heap.size := hlt
      clear g3 hb0
      refine wp_region_held_drew (S := (fun y => y.cell? ⟨w.heap.size, 12, none⟩ = some (.int .i64 m.r.m) ∧ y.cell? ⟨w.heap.size, 13, none⟩ = some (.int .i64 m.r.c) ∧ y.cell? ⟨w.heap.size, 14, none⟩ = some (.int .i64 m.r.s) ∧ y.cell? ⟨w.heap.size, 15, none⟩ = some (.int .i64 m.r.w) ∧ y.cell? ⟨w.heap.size, 16, none⟩ = some (.int .i64 m.r.g) ∧ y.cell? ⟨w.heap.size, 20, none⟩ = some (.int .i64 m.ticks))) (by kernel_rfl) ?_ (fun hHeld => ?_)
      · (try dsimp only); exact c0
      refine wpAnyH_take (i := 0) (oi := { dst := some 25, op := Op.fieldAddr 30 (Operand.tmp 4) 2, type := 0, pos := "gram.go:50", after := #[], guard := none }) (v := ?hv36) rfl (by kernel_rfl) (by kernel_rfl) (by kernel_rfl) (fun _ _ _ h => h) (Or.inl ⟨by rfl, ?hy36⟩) (by assumption) ?_
      case hy36 => ((intro w hSw); (try dsimp only at hSw); go_simp; (try with_reducible rfl))
      try simp only [Act.put, List.setIfInBounds_toArray, List.set_cons_zero, List.set_cons_succ]
      refine wpAnyH_take (i := 1) (oi := { dst := some 26, op := Op.load 28 (Operand.tmp 25), type := 28, pos := "gram.go:50", after := #[{ on := 0, ground := Ground.data }], guard := none }) (v := ?hv37) rfl (by kernel_rfl) (by kernel_rfl) (by kernel_rfl) (fun _ _ _ h => h) (Or.inl ⟨by rfl, ?hy37⟩) (by assumption) ?_
      case hy37 => ((intro w hSw); (try dsimp only at hSw); go_simp; (try with_reducible rfl))
      try simp only [Act.put, List.setIfInBounds_toArray, List.set_cons_zero, List.set_cons_succ]
      refine wpAnyH_ready (rs := [2]) (by kernel_rfl) (by simp) ?_
      refine AllReadyH.cons (o := { dst := some 27, op := Op.call { callee := Callee.value (Operand.func 52), args := #[Operand.tmp 26], argTypes := #[28] }, type := 4, pos := "gram.go:50", after := #[{ on := 1, ground := Ground.data }], guard := none }) rfl (fun K hK => ?_) AllReadyH.nil
      go_simp
      go_at_call 52; (with_reducible refine (CV.out _).mono ?_); rintro e x1 ⟨rfl, z1⟩; have k1 := ru_keep c0 z1 L0; have l1 := Nat.lt_of_lt_of_le L0 z1.size; have H1 := Lib.hid (HB.out.trans (z1.mono (Nat.le_of_lt L0))); clear z1
      refine hK.out _ _ ?_ (fun hHeld => ?_)
      · (try dsimp only); exact k1
      clear hK K
      try simp only [Act.put, List.setIfInBounds_toArray, List.set_cons_zero, List.set_cons_succ]
      refine wpAnyH_take (i := 3) (oi := { dst := some 28, op := Op.unOp UnOp.not 4 (Operand.tmp 27), type := 4, pos := "gram.go:50", after := #[{ on := 2, ground := Ground.data }], guard := none }) (v := ?hv38) rfl (by kernel_rfl) (by kernel_rfl) (by kernel_rfl) (fun _ _ _ h => h) (Or.inl ⟨by rfl, ?hy38⟩) (by assumption) ?_
      case hy38 => ((intro w hSw); (try dsimp only at hSw); go_simp; (try with_reducible rfl))
      try simp only [Act.put, List.setIfInBounds_toArray, List.set_cons_zero, List.set_cons_succ]
      refine wpAnyH_take (i := 4) (oi := { dst := some 29, op := Op.move (Operand.tmp 28), type := 4, pos := "gram.go:50", after := #[{ on := 3, ground := Ground.data }, { on := 2, ground := Ground.chain }], guard := none }) (v := ?hv39) rfl (by kernel_rfl) (by kernel_rfl) (by kernel_rfl) (fun _ _ _ h => h) (Or.inl ⟨by rfl, ?hy39⟩) (by assumption) ?_
      case hy39 => ((intro w hSw); (try dsimp only at hSw); go_simp; (try with_reducible rfl))
      try simp only [Act.put, List.setIfInBounds_toArray, List.set_cons_zero, List.set_cons_succ]
      refine wpAnyH_take (i := 5) (oi := { dst := some 30, op := Op.fieldAddr 30 (Operand.tmp 4) 2, type := 0, pos := "gram.go:50", after := #[{ on := 4, ground := Ground.guard }], guard := some (4, false) }) (v := undef) rfl (by kernel_rfl) (by kernel_rfl) (by kernel_rfl) (fun _ _ _ h => h) (Or.inr ⟨by rfl, rfl⟩) (by assumption) ?_
      try simp only [Act.put, List.setIfInBounds_toArray, List.set_cons_zero, List.set_cons_succ]
      refine wpAnyH_take (i := 6) (oi := { dst := some 31, op := Op.load 28 (Operand.tmp 30), type := 28, pos := "gram.go:50", after := #[{ on := 5, ground := Ground.data }, { on := 4, ground := Ground.guard }], guard := some (4, false) }) (v := undef) rfl (by kernel_rfl) (by kernel_rfl) (by kernel_rfl) (fun _ _ _ h => h) (Or.inr ⟨by rfl, rfl⟩) (by assumption) ?_
      try simp only [Act.put, List.setIfInBounds_toArray, List.set_cons_zero, List.set_cons_succ]
      refine wpAnyH_take (i := 7) (oi := { dst := some 32, op := Op.move (Operand.tmp 3), type := 3, pos := "gram.go:50", after := #[{ on := 4, ground := Ground.guard }], guard := some (4, false) }) (v := undef) rfl (by kernel_rfl) (by kernel_rfl) (by kernel_rfl) (fun _ _ _ h => h) (Or.inr ⟨by rfl, rfl⟩) (by assumption) ?_
      try simp only [Act.put, List.setIfInBounds_toArray, List.set_cons_zero, List.set_cons_succ]
      refine wpAnyH_take (i := 8) (oi := { dst := some 33, op := Op.call { callee := Callee.value (Operand.func 53), args := #[Operand.tmp 31, Operand.tmp 32], argTypes := #[28, 3] }, type := 2, pos := "gram.go:50", after := #[{ on := 6, ground := Ground.data }, { on := 7, ground := Ground.data }, { on := 4, ground := Ground.chain }, { on := 4, ground := Ground.guard }], guard := some (4, false) }) (v := undef) rfl (by kernel_rfl) (by kernel_rfl) (by kernel_rfl) (fun _ _ _ h => h) (Or.inr ⟨by rfl, rfl⟩) (by assumption) ?_
      try simp only [Act.put, List.setIfInBounds_toArray, List.set_cons_zero, List.set_cons_succ]
      refine wpAnyH_take (i := 9) (oi := { dst := some 34, op := Op.binOp BinOp.gtr 2 (Operand.tmp 33) (Operand.const (Value.int IntKind.i64 54840)) 2, type := 4, pos := "gram.go:50", after := #[{ on := 8, ground := Ground.data }, { on := 4, ground := Ground.guard }], guard := some (4, false) }) (v := undef) rfl (by kernel_rfl) (by kernel_rfl) (by kernel_rfl) (fun _ _ _ h => h) (Or.inr ⟨by rfl, rfl⟩) (by assumption) ?_
      try simp only [Act.put, List.setIfInBounds_toArray, List.set_cons_zero, List.set_cons_succ]
      refine wpAnyH_take (i := 10) (oi := { dst := some 35, op := Op.pick (Operand.tmp 29) (Operand.const (Value.bool true)) (Operand.tmp 34), type := 4, pos := "gram.go:50", after := #[{ on := 4, ground := Ground.data }, { on := 9, ground := Ground.data }], guard := none }) (v := ?hv40) rfl (by kernel_rfl) (by kernel_rfl) (by kernel_rfl) (fun _ _ _ h => h) (Or.inl ⟨by rfl, ?hy40⟩) (by assumption) ?_
      case hy40 => ((intro w hSw); (try dsimp only at hSw); go_simp; (try with_reducible rfl))
      try simp only [Act.put, List.setIfInBounds_toArray, List.set_cons_zero, List.set_cons_succ]
      refine wpAnyH_take (i := 11) (oi := { dst := some 36, op := Op.move (Operand.tmp 35), type := 4, pos := "gram.go:50", after := #[{ on := 10, ground := Ground.data }, { on := 8, ground := Ground.chain }], guard := none }) (v := ?hv41) rfl (by kernel_rfl) (by kernel_rfl) (by kernel_rfl) (fun _ _ _ h => h) (Or.inl ⟨by rfl, ?hy41⟩) (by assumption) ?_
      case hy41 => ((intro w hSw); (try dsimp only at hSw); go_simp; (try with_reducible rfl))
      try simp only [Act.put, List.setIfInBounds_toArray, List.set_cons_zero, List.set_cons_succ]
      refine wpAnyH_take (i := 12) (oi := { dst := some 37, op := Op.move (Operand.tmp 1), type := 4, pos := "gram.go:50", after := #[{ on := 11, ground := Ground.guard }], guard := some (11, false) }) (v := undef) rfl (by kernel_rfl) (by kernel_rfl) (by kernel_rfl) (fun _ _ _ h => h) (Or.inr ⟨by rfl, rfl⟩) (by assumption) ?_
      try simp only [Act.put, List.setIfInBounds_toArray, List.set_cons_zero, List.set_cons_succ]
      refine wpAnyH_take (i := 13) (oi := { dst := some 38, op := Op.move (Operand.tmp 37), type := 4, pos := "gram.go:50", after := #[{ on := 12, ground := Ground.data }, { on := 11, ground := Ground.chain }, { on := 11, ground := Ground.guard }], guard := some (11, false) }) (v := undef) rfl (by kernel_rfl) (by kernel_rfl) (by kernel_rfl) (fun _ _ _ h => h) (Or.inr ⟨by rfl, rfl⟩) (by assumption) ?_
      try simp only [Act.put, List.setIfInBounds_toArray, List.set_cons_zero, List.set_cons_succ]
      refine wpAnyH_take (i := 14) (oi := { dst := some 39, op := Op.fieldAddr 30 (Operand.tmp 4) 2, type := 0, pos := "gram.go:50", after := #[{ on := 13, ground := Ground.guard }], guard := some (13, true) }) (v := undef) rfl (by kernel_rfl) (by kernel_rfl) (by kernel_rfl) (fun _ _ _ h => h) (Or.inr ⟨by rfl, rfl⟩) (by assumption) ?_
      try simp only [Act.put, List.setIfInBounds_toArray, List.set_cons_zero, List.set_cons_succ]
      refine wpAnyH_take (i := 15) (oi := { dst := some 40, op := Op.load 28 (Operand.tmp 39), type := 28, pos := "gram.go:50", after := #[{ on := 14, ground := Ground.data }, { on := 13, ground := Ground.guard }], guard := some (13, true) }) (v := undef) rfl (by kernel_rfl) (by kernel_rfl) (by kernel_rfl) (fun _ _ _ h => h) (Or.inr ⟨by rfl, rfl⟩) (by assumption) ?_
      try simp only [Act.put, List.setIfInBounds_toArray, List.set_cons_zero, List.set_cons_succ]
      refine wpAnyH_take (i := 16) (oi := { dst := some 41, op := Op.move (Operand.tmp 3), type := 3, pos := "gram.go:50", after := #[{ on := 13, ground := Ground.guard }], guard := some (13, true) }) (v := undef) rfl (by kernel_rfl) (by kernel_rfl) (by kernel_rfl) (fun _ _ _ h => h) (Or.inr ⟨by rfl, rfl⟩) (by assumption) ?_
      try simp only [Act.put, List.setIfInBounds_toArray, List.set_cons_zero, List.set_cons_succ]
      refine wpAnyH_take (i := 17) (oi := { dst := some 42, op := Op.call { callee := Callee.value (Operand.func 53), args := #[Operand.tmp 40, Operand.tmp 41], argTypes := #[28, 3] }, type := 2, pos := "gram.go:50", after := #[{ on := 15, ground := Ground.data }, { on := 16, ground := Ground.data }, { on := 13, ground := Ground.chain }, { on := 13, ground := Ground.guard }], guard := some (13, true) }) (v := undef) rfl (by kernel_rfl) (by kernel_rfl) (by kernel_rfl) (fun _ _ _ h => h) (Or.inr ⟨by rfl, rfl⟩) (by assumption) ?_
      try simp only [Act.put, List.setIfInBounds_toArray, List.set_cons_zero, List.set_cons_succ]
      refine wpAnyH_take (i := 18) (oi := { dst := some 43, op := Op.fieldAddr 30 (Operand.tmp 4) 6, type := 0, pos := "gram.go:50", after := #[{ on := 13, ground := Ground.guard }], guard := some (13, true) }) (v := undef) rfl (by kernel_rfl) (by kernel_rfl) (by kernel_rfl) (fun _ _ _ h => h) (Or.inr ⟨by rfl, rfl⟩) (by assumption) ?_
      try simp only [Act.put, List.setIfInBounds_toArray, List.set_cons_zero, List.set_cons_succ]
      refine wpAnyH_take (i := 19) (oi := { dst := some 44, op := Op.load 2 (Operand.tmp 43), type := 2, pos := "gram.go:50", after := #[{ on := 18, ground := Ground.data }, { on := 13, ground := Ground.guard }], guard := some (13, true) }) (v := undef) rfl (by kernel_rfl) (by kernel_rfl) (by kernel_rfl) (fun _ _ _ h => h) (Or.inr ⟨by rfl, rfl⟩) (by assumption) ?_
      try simp only [Act.put, List.setIfInBounds_toArray, List.set_cons_zero, List.set_cons_succ]
      refine wpAnyH_take (i := 20) (oi := { dst := some 45, op := Op.binOp BinOp.gtr 2 (Operand.tmp 42) (Operand.tmp 44) 2, type := 4, pos := "gram.go:50", after := #[{ on := 17, ground := Ground.data }, { on := 19, ground := Ground.data }, { on := 13, ground := Ground.guard }], guard := some (13, true) }) (v := undef) rfl (by kernel_rfl) (by kernel_rfl) (by kernel_rfl) (fun _ _ _ h => h) (Or.inr ⟨by rfl, rfl⟩) (by assumption) ?_
      try simp only [Act.put, List.setIfInBounds_toArray, List.set_cons_zero, List.set_cons_succ]
      refine wpAnyH_take (i := 21) (oi := { dst := some 46, op := Op.pick (Operand.tmp 38) (Operand.tmp 45) (Operand.const (Value.bool false)), type := 4, pos := "gram.go:50", after := #[{ on := 13, ground := Ground.data }, { on := 20, ground := Ground.data }, { on := 11, ground := Ground.guard }], guard := some (11, false) }) (v := undef) rfl (by kernel_rfl) (by kernel_rfl) (by kernel_rfl) (fun _ _ _ h => h) (Or.inr ⟨by rfl, rfl⟩) (by assumption) ?_
      try simp only [Act.put, List.setIfInBounds_toArray, List.set_cons_zero, List.set_cons_succ]
      refine wpAnyH_take (i := 22) (oi := { dst := some 47, op := Op.pick (Operand.tmp 36) (Operand.const (Value.bool true)) (Operand.tmp 46), type := 4, pos := "gram.go:50", after := #[{ on := 11, ground := Ground.data }, { on := 21, ground := Ground.data }], guard := none }) (v := ?hv42) rfl (by kernel_rfl) (by kernel_rfl) (by kernel_rfl) (fun _ _ _ h => h) (Or.inl ⟨by rfl, ?hy42⟩) (by assumption) ?_
      case hy42 => ((intro w hSw); (try dsimp only at hSw); go_simp; (try with_reducible rfl))
      try simp only [Act.put, List.setIfInBounds_toArray, List.set_cons_zero, List.set_cons_succ]
      refine wpAnyH_take (i := 23) (oi := { dst := some 24, op := Op.assign (Operand.tmp 47), type := 4, pos := "gram.go:50", after := #[{ on := 22, ground := Ground.data }, { on := 17, ground := Ground.chain }], guard := none }) (v := ?hv43) rfl (by kernel_rfl) (by kernel_rfl) (by kernel_rfl) (fun _ _ _ h => h) (Or.inl ⟨by rfl, ?hy43⟩) (by assumption) ?_
      case hy43 => ((intro w hSw); (try dsimp only at hSw); go_simp; (try with_reducible rfl))
      try simp only [Act.put, List.setIfInBounds_toArray, List.set_cons_zero, List.set_cons_succ]
      refine wpAnyH_done (by kernel_rfl) ?_ _
      have g := (H1.out.cell (p := ⟨7, 0, none⟩) l11).trans gw11
      go_wp2_with fail
      go_ret
      exact ⟨by rw [HR.out]; rfl, H1.out⟩
    case true =>
    by_cases q3 : 54840 < X
    case pos =>
      have HR := Lib.hid (HL.out hno.out (.inr (.inl q3)))
      have d3 : decide ((54840 : Int) < X) = true := decide_eq_true q3
      clear HL HF
      go_enter Tryd.func28, Tryd.ntmps28
      go_wp2_with fail
      generalize w.alloc _ = W0 at *
      have HB := Lib.hid (show Below w.heap.size w W0.drew from hb0.trans (Below.drew (Below.refl _ _)))
      have c0 : RuC w.heap.size m W0.drew := c12
      have L0 : w.heap.size < W0.drew.heap.size := hlt
      clear g3 hb0
      refine wp_region_held_drew (S := (fun y => y.cell? ⟨w.heap.size, 12, none⟩ = some (.int .i64 m.r.m) ∧ y.cell? ⟨w.heap.size, 13, none⟩ = some (.int .i64 m.r.c) ∧ y.cell? ⟨w.heap.size, 14, none⟩ = some (.int .i64 m.r.s) ∧ y.cell? ⟨w.heap.size, 15, none⟩ = some (.int .i64 m.r.w) ∧ y.cell? ⟨w.heap.size, 16, none⟩ = some (.int .i64 m.r.g) ∧ y.cell? ⟨w.heap.size, 20, none⟩ = some (.int .i64 m.ticks))) (by kernel_rfl) ?_ (fun hHeld => ?_)
      · (try dsimp only); exact c0
      refine wpAnyH_take (i := 0) (oi := { dst := some 25, op := Op.fieldAddr 30 (Operand.tmp 4) 2, type := 0, pos := "gram.go:50", after := #[], guard := none }) (v := ?hv44) rfl (by kernel_rfl) (by kernel_rfl) (by kernel_rfl) (fun _ _ _ h => h) (Or.inl ⟨by rfl, ?hy44⟩) (by assumption) ?_
      case hy44 => ((intro w hSw); (try dsimp only at hSw); go_simp; (try with_reducible rfl))
      try simp only [Act.put, List.setIfInBounds_toArray, List.set_cons_zero, List.set_cons_succ]
      refine wpAnyH_take (i := 1) (oi := { dst := some 26, op := Op.load 28 (Operand.tmp 25), type := 28, pos := "gram.go:50", after := #[{ on := 0, ground := Ground.data }], guard := none }) (v := ?hv45) rfl (by kernel_rfl) (by kernel_rfl) (by kernel_rfl) (fun _ _ _ h => h) (Or.inl ⟨by rfl, ?hy45⟩) (by assumption) ?_
      case hy45 => ((intro w hSw); (try dsimp only at hSw); go_simp; (try with_reducible rfl))
      try simp only [Act.put, List.setIfInBounds_toArray, List.set_cons_zero, List.set_cons_succ]
      refine wpAnyH_ready (rs := [2]) (by kernel_rfl) (by simp) ?_
      refine AllReadyH.cons (o := { dst := some 27, op := Op.call { callee := Callee.value (Operand.func 52), args := #[Operand.tmp 26], argTypes := #[28] }, type := 4, pos := "gram.go:50", after := #[{ on := 1, ground := Ground.data }], guard := none }) rfl (fun K hK => ?_) AllReadyH.nil
      go_simp
      go_at_call 52; (with_reducible refine (CV.out _).mono ?_); rintro e x1 ⟨rfl, z1⟩; have k1 := ru_keep c0 z1 L0; have l1 := Nat.lt_of_lt_of_le L0 z1.size; have H1 := Lib.hid (HB.out.trans (z1.mono (Nat.le_of_lt L0))); clear z1
      refine hK.out _ _ ?_ (fun hHeld => ?_)
      · (try dsimp only); exact k1
      clear hK K
      try simp only [Act.put, List.setIfInBounds_toArray, List.set_cons_zero, List.set_cons_succ]
      refine wpAnyH_take (i := 3) (oi := { dst := some 28, op := Op.unOp UnOp.not 4 (Operand.tmp 27), type := 4, pos := "gram.go:50", after := #[{ on := 2, ground := Ground.data }], guard := none }) (v := ?hv46) rfl (by kernel_rfl) (by kernel_rfl) (by kernel_rfl) (fun _ _ _ h => h) (Or.inl ⟨by rfl, ?hy46⟩) (by assumption) ?_
      case hy46 => ((intro w hSw); (try dsimp only at hSw); go_simp; (try with_reducible rfl))
      try simp only [Act.put, List.setIfInBounds_toArray, List.set_cons_zero, List.set_cons_succ]
      refine wpAnyH_take (i := 4) (oi := { dst := some 29, op := Op.move (Operand.tmp 28), type := 4, pos := "gram.go:50", after := #[{ on := 3, ground := Ground.data }, { on := 2, ground := Ground.chain }], guard := none }) (v := ?hv47) rfl (by kernel_rfl) (by kernel_rfl) (by kernel_rfl) (fun _ _ _ h => h) (Or.inl ⟨by rfl, ?hy47⟩) (by assumption) ?_
      case hy47 => ((intro w hSw); (try dsimp only at hSw); go_simp; (try with_reducible rfl))
      try simp only [Act.put, List.setIfInBounds_toArray, List.set_cons_zero, List.set_cons_succ]
      refine wpAnyH_take (i := 5) (oi := { dst := some 30, op := Op.fieldAddr 30 (Operand.tmp 4) 2, type := 0, pos := "gram.go:50", after := #[{ on := 4, ground := Ground.guard }], guard := some (4, false) }) (v := ?hv48) rfl (by kernel_rfl) (by kernel_rfl) (by kernel_rfl) (fun _ _ _ h => h) (Or.inl ⟨by rfl, ?hy48⟩) (by assumption) ?_
      case hy48 => ((intro w hSw); (try dsimp only at hSw); go_simp; (try with_reducible rfl))
      try simp only [Act.put, List.setIfInBounds_toArray, List.set_cons_zero, List.set_cons_succ]
      refine wpAnyH_take (i := 6) (oi := { dst := some 31, op := Op.load 28 (Operand.tmp 30), type := 28, pos := "gram.go:50", after := #[{ on := 5, ground := Ground.data }, { on := 4, ground := Ground.guard }], guard := some (4, false) }) (v := ?hv49) rfl (by kernel_rfl) (by kernel_rfl) (by kernel_rfl) (fun _ _ _ h => h) (Or.inl ⟨by rfl, ?hy49⟩) (by assumption) ?_
      case hy49 => ((intro w hSw); (try dsimp only at hSw); go_simp; (try with_reducible rfl))
      try simp only [Act.put, List.setIfInBounds_toArray, List.set_cons_zero, List.set_cons_succ]
      refine wpAnyH_take (i := 7) (oi := { dst := some 32, op := Op.move (Operand.tmp 3), type := 3, pos := "gram.go:50", after := #[{ on := 4, ground := Ground.guard }], guard := some (4, false) }) (v := ?hv50) rfl (by kernel_rfl) (by kernel_rfl) (by kernel_rfl) (fun _ _ _ h => h) (Or.inl ⟨by rfl, ?hy50⟩) (by assumption) ?_
      case hy50 => ((intro w hSw); (try dsimp only at hSw); go_simp; (try with_reducible rfl))
      try simp only [Act.put, List.setIfInBounds_toArray, List.set_cons_zero, List.set_cons_succ]
      refine wpAnyH_ready (rs := [8]) (by kernel_rfl) (by simp) ?_
      refine AllReadyH.cons (o := { dst := some 33, op := Op.call { callee := Callee.value (Operand.func 53), args := #[Operand.tmp 31, Operand.tmp 32], argTypes := #[28, 3] }, type := 2, pos := "gram.go:50", after := #[{ on := 6, ground := Ground.data }, { on := 7, ground := Ground.data }, { on := 4, ground := Ground.chain }, { on := 4, ground := Ground.guard }], guard := some (4, false) }) rfl (fun K hK => ?_) AllReadyH.nil
      go_simp
      go_at_call 53; (with_reducible refine (CP.out _).mono ?_); rintro e x2 ⟨rfl, z2⟩; have k2 := ru_keep k1 z2 l1; have l2 := Nat.lt_of_lt_of_le l1 z2.size; have H2 := Lib.hid (H1.out.trans (z2.mono (Nat.le_of_lt l1))); clear z2
      refine hK.out _ _ ?_ (fun hHeld => ?_)
      · (try dsimp only); exact k2
      clear hK K
      try simp only [Act.put, List.setIfInBounds_toArray, List.set_cons_zero, List.set_cons_succ]
      refine wpAnyH_take (i := 9) (oi := { dst := some 34, op := Op.binOp BinOp.gtr 2 (Operand.tmp 33) (Operand.const (Value.int IntKind.i64 54840)) 2, type := 4, pos := "gram.go:50", after := #[{ on := 8, ground := Ground.data }, { on := 4, ground := Ground.guard }], guard := some (4, false) }) (v := ?hv51) rfl (by kernel_rfl) (by kernel_rfl) (by kernel_rfl) (fun _ _ _ h => h) (Or.inl ⟨by rfl, ?hy51⟩) (by assumption) ?_
      case hy51 => ((intro w hSw); (try dsimp only at hSw); go_simp; (try with_reducible rfl))
      try simp only [Act.put, List.setIfInBounds_toArray, List.set_cons_zero, List.set_cons_succ]
      refine wpAnyH_take (i := 10) (oi := { dst := some 35, op := Op.pick (Operand.tmp 29) (Operand.const (Value.bool true)) (Operand.tmp 34), type := 4, pos := "gram.go:50", after := #[{ on := 4, ground := Ground.data }, { on := 9, ground := Ground.data }], guard := none }) (v := ?hv52) rfl (by kernel_rfl) (by kernel_rfl) (by kernel_rfl) (fun _ _ _ h => h) (Or.inl ⟨by rfl, ?hy52⟩) (by assumption) ?_
      case hy52 => ((intro w hSw); (try dsimp only at hSw); go_simp; (try with_reducible rfl))
      try simp only [Act.put, List.setIfInBounds_toArray, List.set_cons_zero, List.set_cons_succ]
      refine wpAnyH_take (i := 11) (oi := { dst := some 36, op := Op.move (Operand.tmp 35), type := 4, pos := "gram.go:50", after := #[{ on := 10, ground := Ground.data }, { on := 8, ground := Ground.chain }], guard := none }) (v := ?hv53) rfl (by kernel_rfl) (by kernel_rfl) (by kernel_rfl) (fun _ _ _ h => h) (Or.inl ⟨by rfl, ?hy53⟩) (by assumption) ?_
      case hy53 => ((intro w hSw); (try dsimp only at hSw); go_simp; (try with_reducible rfl))
      try simp only [Act.put, List.setIfInBounds_toArray, List.set_cons_zero, List.set_cons_succ]
      refine wpAnyH_take (i := 12) (oi := { dst := some 37, op := Op.move (Operand.tmp 1), type := 4, pos := "gram.go:50", after := #[{ on := 11, ground := Ground.guard }], guard := some (11, false) }) (v := undef) rfl (by kernel_rfl) (by kernel_rfl) (by kernel_rfl) (fun _ _ _ h => h) (Or.inr ⟨by rfl, rfl⟩) (by assumption) ?_
      try simp only [Act.put, List.setIfInBounds_toArray, List.set_cons_zero, List.set_cons_succ]
      refine wpAnyH_take (i := 13) (oi := { dst := some 38, op := Op.move (Operand.tmp 37), type := 4, pos := "gram.go:50", after := #[{ on := 12, ground := Ground.data }, { on := 11, ground := Ground.chain }, { on := 11, ground := Ground.guard }], guard := some (11, false) }) (v := undef) rfl (by kernel_rfl) (by kernel_rfl) (by kernel_rfl) (fun _ _ _ h => h) (Or.inr ⟨by rfl, rfl⟩) (by assumption) ?_
      try simp only [Act.put, List.setIfInBounds_toArray, List.set_cons_zero, List.set_cons_succ]
      refine wpAnyH_take (i := 14) (oi := { dst := some 39, op := Op.fieldAddr 30 (Operand.tmp 4) 2, type := 0, pos := "gram.go:50", after := #[{ on := 13, ground := Ground.guard }], guard := some (13, true) }) (v := undef) rfl (by kernel_rfl) (by kernel_rfl) (by kernel_rfl) (fun _ _ _ h => h) (Or.inr ⟨by rfl, rfl⟩) (by assumption) ?_
      try simp only [Act.put, List.setIfInBounds_toArray, List.set_cons_zero, List.set_cons_succ]
      refine wpAnyH_take (i := 15) (oi := { dst := some 40, op := Op.load 28 (Operand.tmp 39), type := 28, pos := "gram.go:50", after := #[{ on := 14, ground := Ground.data }, { on := 13, ground := Ground.guard }], guard := some (13, true) }) (v := undef) rfl (by kernel_rfl) (by kernel_rfl) (by kernel_rfl) (fun _ _ _ h => h) (Or.inr ⟨by rfl, rfl⟩) (by assumption) ?_
      try simp only [Act.put, List.setIfInBounds_toArray, List.set_cons_zero, List.set_cons_succ]
      refine wpAnyH_take (i := 16) (oi := { dst := some 41, op := Op.move (Operand.tmp 3), type := 3, pos := "gram.go:50", after := #[{ on := 13, ground := Ground.guard }], guard := some (13, true) }) (v := undef) rfl (by kernel_rfl) (by kernel_rfl) (by kernel_rfl) (fun _ _ _ h => h) (Or.inr ⟨by rfl, rfl⟩) (by assumption) ?_
      try simp only [Act.put, List.setIfInBounds_toArray, List.set_cons_zero, List.set_cons_succ]
      refine wpAnyH_take (i := 17) (oi := { dst := some 42, op := Op.call { callee := Callee.value (Operand.func 53), args := #[Operand.tmp 40, Operand.tmp 41], argTypes := #[28, 3] }, type := 2, pos := "gram.go:50", after := #[{ on := 15, ground := Ground.data }, { on := 16, ground := Ground.data }, { on := 13, ground := Ground.chain }, { on := 13, ground := Ground.guard }], guard := some (13, true) }) (v := undef) rfl (by kernel_rfl) (by kernel_rfl) (by kernel_rfl) (fun _ _ _ h => h) (Or.inr ⟨by rfl, rfl⟩) (by assumption) ?_
      try simp only [Act.put, List.setIfInBounds_toArray, List.set_cons_zero, List.set_cons_succ]
      refine wpAnyH_take (i := 18) (oi := { dst := some 43, op := Op.fieldAddr 30 (Operand.tmp 4) 6, type := 0, pos := "gram.go:50", after := #[{ on := 13, ground := Ground.guard }], guard := some (13, true) }) (v := undef) rfl (by kernel_rfl) (by kernel_rfl) (by kernel_rfl) (fun _ _ _ h => h) (Or.inr ⟨by rfl, rfl⟩) (by assumption) ?_
      try simp only [Act.put, List.setIfInBounds_toArray, List.set_cons_zero, List.set_cons_succ]
      refine wpAnyH_take (i := 19) (oi := { dst := some 44, op := Op.load 2 (Operand.tmp 43), type := 2, pos := "gram.go:50", after := #[{ on := 18, ground := Ground.data }, { on := 13, ground := Ground.guard }], guard := some (13, true) }) (v := undef) rfl (by kernel_rfl) (by kernel_rfl) (by kernel_rfl) (fun _ _ _ h => h) (Or.inr ⟨by rfl, rfl⟩) (by assumption) ?_
      try simp only [Act.put, List.setIfInBounds_toArray, List.set_cons_zero, List.set_cons_succ]
      refine wpAnyH_take (i := 20) (oi := { dst := some 45, op := Op.binOp BinOp.gtr 2 (Operand.tmp 42) (Operand.tmp 44) 2, type := 4, pos := "gram.go:50", after := #[{ on := 17, ground := Ground.data }, { on := 19, ground := Ground.data }, { on := 13, ground := Ground.guard }], guard := some (13, true) }) (v := undef) rfl (by kernel_rfl) (by kernel_rfl) (by kernel_rfl) (fun _ _ _ h => h) (Or.inr ⟨by rfl, rfl⟩) (by assumption) ?_
      try simp only [Act.put, List.setIfInBounds_toArray, List.set_cons_zero, List.set_cons_succ]
      refine wpAnyH_take (i := 21) (oi := { dst := some 46, op := Op.pick (Operand.tmp 38) (Operand.tmp 45) (Operand.const (Value.bool false)), type := 4, pos := "gram.go:50", after := #[{ on := 13, ground := Ground.data }, { on := 20, ground := Ground.data }, { on := 11, ground := Ground.guard }], guard := some (11, false) }) (v := undef) rfl (by kernel_rfl) (by kernel_rfl) (by kernel_rfl) (fun _ _ _ h => h) (Or.inr ⟨by rfl, rfl⟩) (by assumption) ?_
      try simp only [Act.put, List.setIfInBounds_toArray, List.set_cons_zero, List.set_cons_succ]
      refine wpAnyH_take (i := 22) (oi := { dst := some 47, op := Op.pick (Operand.tmp 36) (Operand.const (Value.bool true)) (Operand.tmp 46), type := 4, pos := "gram.go:50", after := #[{ on := 11, ground := Ground.data }, { on := 21, ground := Ground.data }], guard := none }) (v := ?hv54) rfl (by kernel_rfl) (by kernel_rfl) (by kernel_rfl) (fun _ _ _ h => h) (Or.inl ⟨by rfl, ?hy54⟩) (by assumption) ?_
      case hy54 => ((intro w hSw); (try dsimp only at hSw); go_simp; (try with_reducible rfl))
      try simp only [Act.put, List.setIfInBounds_toArray, List.set_cons_zero, List.set_cons_succ]
      refine wpAnyH_take (i := 23) (oi := { dst := some 24, op := Op.assign (Operand.tmp 47), type := 4, pos := "gram.go:50", after := #[{ on := 22, ground := Ground.data }, { on := 17, ground := Ground.chain }], guard := none }) (v := ?hv55) rfl (by kernel_rfl) (by kernel_rfl) (by kernel_rfl) (fun _ _ _ h => h) (Or.inl ⟨by rfl, ?hy55⟩) (by assumption) ?_
      case hy55 => ((intro w hSw); (try dsimp only at hSw); go_simp; (try with_reducible rfl))
      try simp only [Act.put, List.setIfInBounds_toArray, List.set_cons_zero, List.set_cons_succ]
      refine wpAnyH_done (by kernel_rfl) ?_ _
      have g := (H2.out.cell (p := ⟨7, 0, none⟩) l11).trans gw11
      go_wp2_with fail
      go_ret
      exact ⟨by rw [HR.out]; rfl, H2.out⟩
    case neg =>
    have d3 : decide ((54840 : Int) < X) = false := decide_eq_false q3
    by_cases q4 : m.ticks < X
    case pos =>
      have HR := Lib.hid (HL.out hno.out (.inr (.inr ⟨rfl, q4⟩)))
      have d4 : decide (m.ticks < X) = true := decide_eq_true q4
      clear HL HF
      go_enter Tryd.func28, Tryd.ntmps28
      go_wp2_with fail
      generalize w.alloc _ = W0 at *
      have HB := Lib.hid (show Below w.heap.size w W0.drew from hb0.trans (Below.drew (Below.refl _ _)))
      have c0 : RuC w.heap.size m W0.drew := c12
      have L0 : w.heap.size < W0.drew.heap.size := hlt
      clear g3 hb0
      refine wp_region_held_drew (S := (fun y => y.cell? ⟨w.heap.size, 12, none⟩ = some (.int .i64 m.r.m) ∧ y.cell? ⟨w.heap.size, 13, none⟩ = some (.int .i64 m.r.c) ∧ y.cell? ⟨w.heap.size, 14, none⟩ = some (.int .i64 m.r.s) ∧ y.cell? ⟨w.heap.size, 15, none⟩ = some (.int .i64 m.r.w) ∧ y.cell? ⟨w.heap.size, 16, none⟩ = some (.int .i64 m.r.g) ∧ y.cell? ⟨w.heap.size, 20, none⟩ = some (.int .i64 m.ticks))) (by kernel_rfl) ?_ (fun hHeld => ?_)
      · (try dsimp only); exact c0
      refine wpAnyH_take (i := 0) (oi := { dst := some 25, op := Op.fieldAddr 30 (Operand.tmp 4) 2, type := 0, pos := "gram.go:50", after := #[], guard := none }) (v := ?hv56) rfl (by kernel_rfl) (by kernel_rfl) (by kernel_rfl) (fun _ _ _ h => h) (Or.inl ⟨by rfl, ?hy56⟩) (by assumption) ?_
      case hy56 => ((intro w hSw); (try dsimp only at hSw); go_simp; (try with_reducible rfl))
      try simp only [Act.put, List.setIfInBounds_toArray, List.set_cons_zero, List.set_cons_succ]
      refine wpAnyH_take (i := 1) (oi := { dst := some 26, op := Op.load 28 (Operand.tmp 25), type := 28, pos := "gram.go:50", after := #[{ on := 0, ground := Ground.data }], guard := none }) (v := ?hv57) rfl (by kernel_rfl) (by kernel_rfl) (by kernel_rfl) (fun _ _ _ h => h) (Or.inl ⟨by rfl, ?hy57⟩) (by assumption) ?_
      case hy57 => ((intro w hSw); (try dsimp only at hSw); go_simp; (try with_reducible rfl))
      try simp only [Act.put, List.setIfInBounds_toArray, List.set_cons_zero, List.set_cons_succ]
      refine wpAnyH_ready (rs := [2]) (by kernel_rfl) (by simp) ?_
      refine AllReadyH.cons (o := { dst := some 27, op := Op.call { callee := Callee.value (Operand.func 52), args := #[Operand.tmp 26], argTypes := #[28] }, type := 4, pos := "gram.go:50", after := #[{ on := 1, ground := Ground.data }], guard := none }) rfl (fun K hK => ?_) AllReadyH.nil
      go_simp
      go_at_call 52; (with_reducible refine (CV.out _).mono ?_); rintro e x1 ⟨rfl, z1⟩; have k1 := ru_keep c0 z1 L0; have l1 := Nat.lt_of_lt_of_le L0 z1.size; have H1 := Lib.hid (HB.out.trans (z1.mono (Nat.le_of_lt L0))); clear z1
      refine hK.out _ _ ?_ (fun hHeld => ?_)
      · (try dsimp only); exact k1
      clear hK K
      try simp only [Act.put, List.setIfInBounds_toArray, List.set_cons_zero, List.set_cons_succ]
      refine wpAnyH_take (i := 3) (oi := { dst := some 28, op := Op.unOp UnOp.not 4 (Operand.tmp 27), type := 4, pos := "gram.go:50", after := #[{ on := 2, ground := Ground.data }], guard := none }) (v := ?hv58) rfl (by kernel_rfl) (by kernel_rfl) (by kernel_rfl) (fun _ _ _ h => h) (Or.inl ⟨by rfl, ?hy58⟩) (by assumption) ?_
      case hy58 => ((intro w hSw); (try dsimp only at hSw); go_simp; (try with_reducible rfl))
      try simp only [Act.put, List.setIfInBounds_toArray, List.set_cons_zero, List.set_cons_succ]
      refine wpAnyH_take (i := 4) (oi := { dst := some 29, op := Op.move (Operand.tmp 28), type := 4, pos := "gram.go:50", after := #[{ on := 3, ground := Ground.data }, { on := 2, ground := Ground.chain }], guard := none }) (v := ?hv59) rfl (by kernel_rfl) (by kernel_rfl) (by kernel_rfl) (fun _ _ _ h => h) (Or.inl ⟨by rfl, ?hy59⟩) (by assumption) ?_
      case hy59 => ((intro w hSw); (try dsimp only at hSw); go_simp; (try with_reducible rfl))
      try simp only [Act.put, List.setIfInBounds_toArray, List.set_cons_zero, List.set_cons_succ]
      refine wpAnyH_take (i := 5) (oi := { dst := some 30, op := Op.fieldAddr 30 (Operand.tmp 4) 2, type := 0, pos := "gram.go:50", after := #[{ on := 4, ground := Ground.guard }], guard := some (4, false) }) (v := ?hv60) rfl (by kernel_rfl) (by kernel_rfl) (by kernel_rfl) (fun _ _ _ h => h) (Or.inl ⟨by rfl, ?hy60⟩) (by assumption) ?_
      case hy60 => ((intro w hSw); (try dsimp only at hSw); go_simp; (try with_reducible rfl))
      try simp only [Act.put, List.setIfInBounds_toArray, List.set_cons_zero, List.set_cons_succ]
      refine wpAnyH_take (i := 6) (oi := { dst := some 31, op := Op.load 28 (Operand.tmp 30), type := 28, pos := "gram.go:50", after := #[{ on := 5, ground := Ground.data }, { on := 4, ground := Ground.guard }], guard := some (4, false) }) (v := ?hv61) rfl (by kernel_rfl) (by kernel_rfl) (by kernel_rfl) (fun _ _ _ h => h) (Or.inl ⟨by rfl, ?hy61⟩) (by assumption) ?_
      case hy61 => ((intro w hSw); (try dsimp only at hSw); go_simp; (try with_reducible rfl))
      try simp only [Act.put, List.setIfInBounds_toArray, List.set_cons_zero, List.set_cons_succ]
      refine wpAnyH_take (i := 7) (oi := { dst := some 32, op := Op.move (Operand.tmp 3), type := 3, pos := "gram.go:50", after := #[{ on := 4, ground := Ground.guard }], guard := some (4, false) }) (v := ?hv62) rfl (by kernel_rfl) (by kernel_rfl) (by kernel_rfl) (fun _ _ _ h => h) (Or.inl ⟨by rfl, ?hy62⟩) (by assumption) ?_
      case hy62 => ((intro w hSw); (try dsimp only at hSw); go_simp; (try with_reducible rfl))
      try simp only [Act.put, List.setIfInBounds_toArray, List.set_cons_zero, List.set_cons_succ]
      refine wpAnyH_ready (rs := [8]) (by kernel_rfl) (by simp) ?_
      refine AllReadyH.cons (o := { dst := some 33, op := Op.call { callee := Callee.value (Operand.func 53), args := #[Operand.tmp 31, Operand.tmp 32], argTypes := #[28, 3] }, type := 2, pos := "gram.go:50", after := #[{ on := 6, ground := Ground.data }, { on := 7, ground := Ground.data }, { on := 4, ground := Ground.chain }, { on := 4, ground := Ground.guard }], guard := some (4, false) }) rfl (fun K hK => ?_) AllReadyH.nil
      go_simp
      go_at_call 53; (with_reducible refine (CP.out _).mono ?_); rintro e x2 ⟨rfl, z2⟩; have k2 := ru_keep k1 z2 l1; have l2 := Nat.lt_of_lt_of_le l1 z2.size; have H2 := Lib.hid (H1.out.trans (z2.mono (Nat.le_of_lt l1))); clear z2
      refine hK.out _ _ ?_ (fun hHeld => ?_)
      · (try dsimp only); exact k2
      clear hK K
      try simp only [Act.put, List.setIfInBounds_toArray, List.set_cons_zero, List.set_cons_succ]
      refine wpAnyH_take (i := 9) (oi := { dst := some 34, op := Op.binOp BinOp.gtr 2 (Operand.tmp 33) (Operand.const (Value.int IntKind.i64 54840)) 2, type := 4, pos := "gram.go:50", after := #[{ on := 8, ground := Ground.data }, { on := 4, ground := Ground.guard }], guard := some (4, false) }) (v := ?hv63) rfl (by kernel_rfl) (by kernel_rfl) (by kernel_rfl) (fun _ _ _ h => h) (Or.inl ⟨by rfl, ?hy63⟩) (by assumption) ?_
      case hy63 => ((intro w hSw); (try dsimp only at hSw); go_simp; (try with_reducible rfl))
      try simp only [Act.put, List.setIfInBounds_toArray, List.set_cons_zero, List.set_cons_succ]
      refine wpAnyH_take (i := 10) (oi := { dst := some 35, op := Op.pick (Operand.tmp 29) (Operand.const (Value.bool true)) (Operand.tmp 34), type := 4, pos := "gram.go:50", after := #[{ on := 4, ground := Ground.data }, { on := 9, ground := Ground.data }], guard := none }) (v := ?hv64) rfl (by kernel_rfl) (by kernel_rfl) (by kernel_rfl) (fun _ _ _ h => h) (Or.inl ⟨by rfl, ?hy64⟩) (by assumption) ?_
      case hy64 => ((intro w hSw); (try dsimp only at hSw); go_simp; (try with_reducible rfl))
      try simp only [Act.put, List.setIfInBounds_toArray, List.set_cons_zero, List.set_cons_succ]
      refine wpAnyH_take (i := 11) (oi := { dst := some 36, op := Op.move (Operand.tmp 35), type := 4, pos := "gram.go:50", after := #[{ on := 10, ground := Ground.data }, { on := 8, ground := Ground.chain }], guard := none }) (v := ?hv65) rfl (by kernel_rfl) (by kernel_rfl) (by kernel_rfl) (fun _ _ _ h => h) (Or.inl ⟨by rfl, ?hy65⟩) (by assumption) ?_
      case hy65 => ((intro w hSw); (try dsimp only at hSw); go_simp; (try with_reducible rfl))
      try simp only [Act.put, List.setIfInBounds_toArray, List.set_cons_zero, List.set_cons_succ]
      refine wpAnyH_take (i := 12) (oi := { dst := some 37, op := Op.move (Operand.tmp 1), type := 4, pos := "gram.go:50", after := #[{ on := 11, ground := Ground.guard }], guard := some (11, false) }) (v := ?hv66) rfl (by kernel_rfl) (by kernel_rfl) (by kernel_rfl) (fun _ _ _ h => h) (Or.inl ⟨by rfl, ?hy66⟩) (by assumption) ?_
      case hy66 => ((intro w hSw); (try dsimp only at hSw); go_simp; (try with_reducible rfl))
      try simp only [Act.put, List.setIfInBounds_toArray, List.set_cons_zero, List.set_cons_succ]
      refine wpAnyH_take (i := 13) (oi := { dst := some 38, op := Op.move (Operand.tmp 37), type := 4, pos := "gram.go:50", after := #[{ on := 12, ground := Ground.data }, { on := 11, ground := Ground.chain }, { on := 11, ground := Ground.guard }], guard := some (11, false) }) (v := ?hv67) rfl (by kernel_rfl) (by kernel_rfl) (by kernel_rfl) (fun _ _ _ h => h) (Or.inl ⟨by rfl, ?hy67⟩) (by assumption) ?_
      case hy67 => ((intro w hSw); (try dsimp only at hSw); go_simp; (try with_reducible rfl))
      try simp only [Act.put, List.setIfInBounds_toArray, List.set_cons_zero, List.set_cons_succ]
      refine wpAnyH_take (i := 14) (oi := { dst := some 39, op := Op.fieldAddr 30 (Operand.tmp 4) 2, type := 0, pos := "gram.go:50", after := #[{ on := 13, ground := Ground.guard }], guard := some (13, true) }) (v := ?hv68) rfl (by kernel_rfl) (by kernel_rfl) (by kernel_rfl) (fun _ _ _ h => h) (Or.inl ⟨by rfl, ?hy68⟩) (by assumption) ?_
      case hy68 => ((intro w hSw); (try dsimp only at hSw); go_simp; (try with_reducible rfl))
      try simp only [Act.put, List.setIfInBounds_toArray, List.set_cons_zero, List.set_cons_succ]
      refine wpAnyH_take (i := 15) (oi := { dst := some 40, op := Op.load 28 (Operand.tmp 39), type := 28, pos := "gram.go:50", after := #[{ on := 14, ground := Ground.data }, { on := 13, ground := Ground.guard }], guard := some (13, true) }) (v := ?hv69) rfl (by kernel_rfl) (by kernel_rfl) (by kernel_rfl) (fun _ _ _ h => h) (Or.inl ⟨by rfl, ?hy69⟩) (by assumption) ?_
      case hy69 => ((intro w hSw); (try dsimp only at hSw); go_simp; (try with_reducible rfl))
      try simp only [Act.put, List.setIfInBounds_toArray, List.set_cons_zero, List.set_cons_succ]
      refine wpAnyH_take (i := 16) (oi := { dst := some 41, op := Op.move (Operand.tmp 3), type := 3, pos := "gram.go:50", after := #[{ on := 13, ground := Ground.guard }], guard := some (13, true) }) (v := ?hv70) rfl (by kernel_rfl) (by kernel_rfl) (by kernel_rfl) (fun _ _ _ h => h) (Or.inl ⟨by rfl, ?hy70⟩) (by assumption) ?_
      case hy70 => ((intro w hSw); (try dsimp only at hSw); go_simp; (try with_reducible rfl))
      try simp only [Act.put, List.setIfInBounds_toArray, List.set_cons_zero, List.set_cons_succ]
      refine wpAnyH_take (i := 18) (oi := { dst := some 43, op := Op.fieldAddr 30 (Operand.tmp 4) 6, type := 0, pos := "gram.go:50", after := #[{ on := 13, ground := Ground.guard }], guard := some (13, true) }) (v := ?hv71) rfl (by kernel_rfl) (by kernel_rfl) (by kernel_rfl) (fun _ _ _ h => h) (Or.inl ⟨by rfl, ?hy71⟩) (by assumption) ?_
      case hy71 => ((intro w hSw); (try dsimp only at hSw); go_simp; (try with_reducible rfl))
      try simp only [Act.put, List.setIfInBounds_toArray, List.set_cons_zero, List.set_cons_succ]
      refine wpAnyH_take (i := 19) (oi := { dst := some 44, op := Op.load 2 (Operand.tmp 43), type := 2, pos := "gram.go:50", after := #[{ on := 18, ground := Ground.data }, { on := 13, ground := Ground.guard }], guard := some (13, true) }) (v := ?hv72) rfl (by kernel_rfl) (by kernel_rfl) (by kernel_rfl) (fun _ _ _ h => h) (Or.inl ⟨by rfl, ?hy72⟩) (by assumption) ?_
      case hy72 => ((intro w hSw); (try dsimp only at hSw); go_simp; (try with_reducible rfl))
      try simp only [Act.put, List.setIfInBounds_toArray, List.set_cons_zero, List.set_cons_succ]
      refine wpAnyH_ready (rs := [17]) (by kernel_rfl) (by simp) ?_
      refine AllReadyH.cons (o := { dst := some 42, op := Op.call { callee := Callee.value (Operand.func 53), args := #[Operand.tmp 40, Operand.tmp 41], argTypes := #[28, 3] }, type := 2, pos := "gram.go:50", after := #[{ on := 15, ground := Ground.data }, { on := 16, ground := Ground.data }, { on := 13, ground := Ground.chain }, { on := 13, ground := Ground.guard }], guard := some (13, true) }) rfl (fun K hK => ?_) AllReadyH.nil
      go_simp
      go_at_call 53; (with_reducible refine (CP.out _).mono ?_); rintro e x3 ⟨rfl, z3⟩; have k3 := ru_keep k2 z3 l2; have l3 := Nat.lt_of_lt_of_le l2 z3.size; have H3 := Lib.hid (H2.out.trans (z3.mono (Nat.le_of_lt l2))); clear z3
      refine hK.out _ _ ?_ (fun hHeld => ?_)
      · (try dsimp only); exact k3
      clear hK K
      try simp only [Act.put, List.setIfInBounds_toArray, List.set_cons_zero, List.set_cons_succ]
      refine wpAnyH_take (i := 20) (oi := { dst := some 45, op := Op.binOp BinOp.gtr 2 (Operand.tmp 42) (Operand.tmp 44) 2, type := 4, pos := "gram.go:50", after := #[{ on := 17, ground := Ground.data }, { on := 19, ground := Ground.data }, { on := 13, ground := Ground.guard }], guard := some (13, true) }) (v := ?hv73) rfl (by kernel_rfl) (by kernel_rfl) (by kernel_rfl) (fun _ _ _ h => h) (Or.inl ⟨by rfl, ?hy73⟩) (by assumption) ?_
      case hy73 => ((intro w hSw); (try dsimp only at hSw); go_simp; (try with_reducible rfl))
      try simp only [Act.put, List.setIfInBounds_toArray, List.set_cons_zero, List.set_cons_succ]
      refine wpAnyH_take (i := 21) (oi := { dst := some 46, op := Op.pick (Operand.tmp 38) (Operand.tmp 45) (Operand.const (Value.bool false)), type := 4, pos := "gram.go:50", after := #[{ on := 13, ground := Ground.data }, { on := 20, ground := Ground.data }, { on := 11, ground := Ground.guard }], guard := some (11, false) }) (v := ?hv74) rfl (by kernel_rfl) (by kernel_rfl) (by kernel_rfl) (fun _ _ _ h => h) (Or.inl ⟨by rfl, ?hy74⟩) (by assumption) ?_
      case hy74 => ((intro w hSw); (try dsimp only at hSw); go_simp; (try with_reducible rfl))
      try simp only [Act.put, List.setIfInBounds_toArray, List.set_cons_zero, List.set_cons_succ]
      refine wpAnyH_take (i := 22) (oi := { dst := some 47, op := Op.pick (Operand.tmp 36) (Operand.const (Value.bool true)) (Operand.tmp 46), type := 4, pos := "gram.go:50", after := #[{ on := 11, ground := Ground.data }, { on := 21, ground := Ground.data }], guard := none }) (v := ?hv75) rfl (by kernel_rfl) (by kernel_rfl) (by kernel_rfl) (fun _ _ _ h => h) (Or.inl ⟨by rfl, ?hy75⟩) (by assumption) ?_
      case hy75 => ((intro w hSw); (try dsimp only at hSw); go_simp; (try with_reducible rfl))
      try simp only [Act.put, List.setIfInBounds_toArray, List.set_cons_zero, List.set_cons_succ]
      refine wpAnyH_take (i := 23) (oi := { dst := some 24, op := Op.assign (Operand.tmp 47), type := 4, pos := "gram.go:50", after := #[{ on := 22, ground := Ground.data }, { on := 17, ground := Ground.chain }], guard := none }) (v := ?hv76) rfl (by kernel_rfl) (by kernel_rfl) (by kernel_rfl) (fun _ _ _ h => h) (Or.inl ⟨by rfl, ?hy76⟩) (by assumption) ?_
      case hy76 => ((intro w hSw); (try dsimp only at hSw); go_simp; (try with_reducible rfl))
      try simp only [Act.put, List.setIfInBounds_toArray, List.set_cons_zero, List.set_cons_succ]
      refine wpAnyH_done (by kernel_rfl) ?_ _
      have g := (H3.out.cell (p := ⟨7, 0, none⟩) l11).trans gw11
      go_wp2_with fail
      go_ret
      exact ⟨by rw [HR.out]; rfl, H3.out⟩
    case neg =>
      have HR := Lib.hid (HF.out hno.out (fun h => h.elim (fun h => by cases h) (fun h => h.elim q3 (fun h => q4 h.2))))
      have d4 : decide (m.ticks < X) = false := decide_eq_false q4
      clear HL HF
      go_enter Tryd.func28, Tryd.ntmps28
      go_wp2_with fail
      generalize w.alloc _ = W0 at *
      have HB := Lib.hid (show Below w.heap.size w W0.drew from hb0.trans (Below.drew (Below.refl _ _)))
      have c0 : RuC w.heap.size m W0.drew := c12
      have L0 : w.heap.size < W0.drew.heap.size := hlt
      clear g3 hb0
      refine wp_region_held_drew (S := (fun y => y.cell? ⟨w.heap.size, 12, none⟩ = some (.int .i64 m.r.m) ∧ y.cell? ⟨w.heap.size, 13, none⟩ = some (.int .i64 m.r.c) ∧ y.cell? ⟨w.heap.size, 14, none⟩ = some (.int .i64 m.r.s) ∧ y.cell? ⟨w.heap.size, 15, none⟩ = some (.int .i64 m.r.w) ∧ y.cell? ⟨w.heap.size, 16, none⟩ = some (.int .i64 m.r.g) ∧ y.cell? ⟨w.heap.size, 20, none⟩ = some (.int .i64 m.ticks))) (by kernel_rfl) ?_ (fun hHeld => ?_)
      · (try dsimp only); exact c0
      refine wpAnyH_take (i := 0) (oi := { dst := some 25, op := Op.fieldAddr 30 (Operand.tmp 4) 2, type := 0, pos := "gram.go:50", after := #[], guard := none }) (v := ?hv77) rfl (by kernel_rfl) (by kernel_rfl) (by kernel_rfl) (fun _ _ _ h => h) (Or.inl ⟨by rfl, ?hy77⟩) (by assumption) ?_
      case hy77 => ((intro w hSw); (try dsimp only at hSw); go_simp; (try with_reducible rfl))
      try simp only [Act.put, List.setIfInBounds_toArray, List.set_cons_zero, List.set_cons_succ]
      refine wpAnyH_take (i := 1) (oi := { dst := some 26, op := Op.load 28 (Operand.tmp 25), type := 28, pos := "gram.go:50", after := #[{ on := 0, ground := Ground.data }], guard := none }) (v := ?hv78) rfl (by kernel_rfl) (by kernel_rfl) (by kernel_rfl) (fun _ _ _ h => h) (Or.inl ⟨by rfl, ?hy78⟩) (by assumption) ?_
      case hy78 => ((intro w hSw); (try dsimp only at hSw); go_simp; (try with_reducible rfl))
      try simp only [Act.put, List.setIfInBounds_toArray, List.set_cons_zero, List.set_cons_succ]
      refine wpAnyH_ready (rs := [2]) (by kernel_rfl) (by simp) ?_
      refine AllReadyH.cons (o := { dst := some 27, op := Op.call { callee := Callee.value (Operand.func 52), args := #[Operand.tmp 26], argTypes := #[28] }, type := 4, pos := "gram.go:50", after := #[{ on := 1, ground := Ground.data }], guard := none }) rfl (fun K hK => ?_) AllReadyH.nil
      go_simp
      go_at_call 52; (with_reducible refine (CV.out _).mono ?_); rintro e x1 ⟨rfl, z1⟩; have k1 := ru_keep c0 z1 L0; have l1 := Nat.lt_of_lt_of_le L0 z1.size; have H1 := Lib.hid (HB.out.trans (z1.mono (Nat.le_of_lt L0))); clear z1
      refine hK.out _ _ ?_ (fun hHeld => ?_)
      · (try dsimp only); exact k1
      clear hK K
      try simp only [Act.put, List.setIfInBounds_toArray, List.set_cons_zero, List.set_cons_succ]
      refine wpAnyH_take (i := 3) (oi := { dst := some 28, op := Op.unOp UnOp.not 4 (Operand.tmp 27), type := 4, pos := "gram.go:50", after := #[{ on := 2, ground := Ground.data }], guard := none }) (v := ?hv79) rfl (by kernel_rfl) (by kernel_rfl) (by kernel_rfl) (fun _ _ _ h => h) (Or.inl ⟨by rfl, ?hy79⟩) (by assumption) ?_
      case hy79 => ((intro w hSw); (try dsimp only at hSw); go_simp; (try with_reducible rfl))
      try simp only [Act.put, List.setIfInBounds_toArray, List.set_cons_zero, List.set_cons_succ]
      refine wpAnyH_take (i := 4) (oi := { dst := some 29, op := Op.move (Operand.tmp 28), type := 4, pos := "gram.go:50", after := #[{ on := 3, ground := Ground.data }, { on := 2, ground := Ground.chain }], guard := none }) (v := ?hv80) rfl (by kernel_rfl) (by kernel_rfl) (by kernel_rfl) (fun _ _ _ h => h) (Or.inl ⟨by rfl, ?hy80⟩) (by assumption) ?_
      case hy80 => ((intro w hSw); (try dsimp only at hSw); go_simp; (try with_reducible rfl))
      try simp only [Act.put, List.setIfInBounds_toArray, List.set_cons_zero, List.set_cons_succ]
      refine wpAnyH_take (i := 5) (oi := { dst := some 30, op := Op.fieldAddr 30 (Operand.tmp 4) 2, type := 0, pos := "gram.go:50", after := #[{ on := 4, ground := Ground.guard }], guard := some (4, false) }) (v := ?hv81) rfl (by kernel_rfl) (by kernel_rfl) (by kernel_rfl) (fun _ _ _ h => h) (Or.inl ⟨by rfl, ?hy81⟩) (by assumption) ?_
      case hy81 => ((intro w hSw); (try dsimp only at hSw); go_simp; (try with_reducible rfl))
      try simp only [Act.put, List.setIfInBounds_toArray, List.set_cons_zero, List.set_cons_succ]
      refine wpAnyH_take (i := 6) (oi := { dst := some 31, op := Op.load 28 (Operand.tmp 30), type := 28, pos := "gram.go:50", after := #[{ on := 5, ground := Ground.data }, { on := 4, ground := Ground.guard }], guard := some (4, false) }) (v := ?hv82) rfl (by kernel_rfl) (by kernel_rfl) (by kernel_rfl) (fun _ _ _ h => h) (Or.inl ⟨by rfl, ?hy82⟩) (by assumption) ?_
      case hy82 => ((intro w hSw); (try dsimp only at hSw); go_simp; (try with_reducible rfl))
      try simp only [Act.put, List.setIfInBounds_toArray, List.set_cons_zero, List.set_cons_succ]
      refine wpAnyH_take (i := 7) (oi := { dst := some 32, op := Op.move (Operand.tmp 3), type := 3, pos := "gram.go:50", after := #[{ on := 4, ground := Ground.guard }], guard := some (4, false) }) (v := ?hv83) rfl (by kernel_rfl) (by kernel_rfl) (by kernel_rfl) (fun _ _ _ h => h) (Or.inl ⟨by rfl, ?hy83⟩) (by assumption) ?_
      case hy83 => ((intro w hSw); (try dsimp only at hSw); go_simp; (try with_reducible rfl))
      try simp only [Act.put, List.setIfInBounds_toArray, List.set_cons_zero, List.set_cons_succ]
      refine wpAnyH_ready (rs := [8]) (by kernel_rfl) (by simp) ?_
      refine AllReadyH.cons (o := { dst := some 33, op := Op.call { callee := Callee.value (Operand.func 53), args := #[Operand.tmp 31, Operand.tmp 32], argTypes := #[28, 3] }, type := 2, pos := "gram.go:50", after := #[{ on := 6, ground := Ground.data }, { on := 7, ground := Ground.data }, { on := 4, ground := Ground.chain }, { on := 4, ground := Ground.guard }], guard := some (4, false) }) rfl (fun K hK => ?_) AllReadyH.nil
      go_simp
      go_at_call 53; (with_reducible refine (CP.out _).mono ?_); rintro e x2 ⟨rfl, z2⟩; have k2 := ru_keep k1 z2 l1; have l2 := Nat.lt_of_lt_of_le l1 z2.size; have H2 := Lib.hid (H1.out.trans (z2.mono (Nat.le_of_lt l1))); clear z2
      refine hK.out _ _ ?_ (fun hHeld => ?_)
      · (try dsimp only); exact k2
      clear hK K
      try simp only [Act.put, List.setIfInBounds_toArray, List.set_cons_zero, List.set_cons_succ]
      refine wpAnyH_take (i := 9) (oi := { dst := some 34, op := Op.binOp BinOp.gtr 2 (Operand.tmp 33) (Operand.const (Value.int IntKind.i64 54840)) 2, type := 4, pos := "gram.go:50", after := #[{ on := 8, ground := Ground.data }, { on := 4, ground := Ground.guard }], guard := some (4, false) }) (v := ?hv84) rfl (by kernel_rfl) (by kernel_rfl) (by kernel_rfl) (fun _ _ _ h => h) (Or.inl ⟨by rfl, ?hy84⟩) (by assumption) ?_
      case hy84 => ((intro w hSw); (try dsimp only at hSw); go_simp; (try with_reducible rfl))
      try simp only [Act.put, List.setIfInBounds_toArray, List.set_cons_zero, List.set_cons_succ]
      refine wpAnyH_take (i := 10) (oi := { dst := some 35, op := Op.pick (Operand.tmp 29) (Operand.const (Value.bool true)) (Operand.tmp 34), type := 4, pos := "gram.go:50", after := #[{ on := 4, ground := Ground.data }, { on := 9, ground := Ground.data }], guard := none }) (v := ?hv85) rfl (by kernel_rfl) (by kernel_rfl) (by kernel_rfl) (fun _ _ _ h => h) (Or.inl ⟨by rfl, ?hy85⟩) (by assumption) ?_
      case hy85 => ((intro w hSw); (try dsimp only at hSw); go_simp; (try with_reducible rfl))
      try simp only [Act.put, List.setIfInBounds_toArray, List.set_cons_zero, List.set_cons_succ]
      refine wpAnyH_take (i := 11) (oi := { dst := some 36, op := Op.move (Operand.tmp 35), type := 4, pos := "gram.go:50", after := #[{ on := 10, ground := Ground.data }, { on := 8, ground := Ground.chain }], guard := none }) (v := ?hv86) rfl (by kernel_rfl) (by kernel_rfl) (by kernel_rfl) (fun _ _ _ h => h) (Or.inl ⟨by rfl, ?hy86⟩) (by assumption) ?_
      case hy86 => ((intro w hSw); (try dsimp only at hSw); go_simp; (try with_reducible rfl))
      try simp only [Act.put, List.setIfInBounds_toArray, List.set_cons_zero, List.set_cons_succ]
      refine wpAnyH_take (i := 12) (oi := { dst := some 37, op := Op.move (Operand.tmp 1), type := 4, pos := "gram.go:50", after := #[{ on := 11, ground := Ground.guard }], guard := some (11, false) }) (v := ?hv87) rfl (by kernel_rfl) (by kernel_rfl) (by kernel_rfl) (fun _ _ _ h => h) (Or.inl ⟨by rfl, ?hy87⟩) (by assumption) ?_
      case hy87 => ((intro w hSw); (try dsimp only at hSw); go_simp; (try with_reducible rfl))
      try simp only [Act.put, List.setIfInBounds_toArray, List.set_cons_zero, List.set_cons_succ]
      refine wpAnyH_take (i := 13) (oi := { dst := some 38, op := Op.move (Operand.tmp 37), type := 4, pos := "gram.go:50", after := #[{ on := 12, ground := Ground.data }, { on := 11, ground := Ground.chain }, { on := 11, ground := Ground.guard }], guard := some (11, false) }) (v := ?hv88) rfl (by kernel_rfl) (by kernel_rfl) (by kernel_rfl) (fun _ _ _ h => h) (Or.inl ⟨by rfl, ?hy88⟩) (by assumption) ?_
      case hy88 => ((intro w hSw); (try dsimp only at hSw); go_simp; (try with_reducible rfl))
      try simp only [Act.put, List.setIfInBounds_toArray, List.set_cons_zero, List.set_cons_succ]
      refine wpAnyH_take (i := 14) (oi := { dst := some 39, op := Op.fieldAddr 30 (Operand.tmp 4) 2, type := 0, pos := "gram.go:50", after := #[{ on := 13, ground := Ground.guard }], guard := some (13, true) }) (v := ?hv89) rfl (by kernel_rfl) (by kernel_rfl) (by kernel_rfl) (fun _ _ _ h => h) (Or.inl ⟨by rfl, ?hy89⟩) (by assumption) ?_
      case hy89 => ((intro w hSw); (try dsimp only at hSw); go_simp; (try with_reducible rfl))
      try simp only [Act.put, List.setIfInBounds_toArray, List.set_cons_zero, List.set_cons_succ]
      refine wpAnyH_take (i := 15) (oi := { dst := some 40, op := Op.load 28 (Operand.tmp 39), type := 28, pos := "gram.go:50", after := #[{ on := 14, ground := Ground.data }, { on := 13, ground := Ground.guard }], guard := some (13, true) }) (v := ?hv90) rfl (by kernel_rfl) (by kernel_rfl) (by kernel_rfl) (fun _ _ _ h => h) (Or.inl ⟨by rfl, ?hy90⟩) (by assumption) ?_
      case hy90 => ((intro w hSw); (try dsimp only at hSw); go_simp; (try with_reducible rfl))
      try simp only [Act.put, List.setIfInBounds_toArray, List.set_cons_zero, List.set_cons_succ]
      refine wpAnyH_take (i := 16) (oi := { dst := some 41, op := Op.move (Operand.tmp 3), type := 3, pos := "gram.go:50", after := #[{ on := 13, ground := Ground.guard }], guard := some (13, true) }) (v := ?hv91) rfl (by kernel_rfl) (by kernel_rfl) (by kernel_rfl) (fun _ _ _ h => h) (Or.inl ⟨by rfl, ?hy91⟩) (by assumption) ?_
      case hy91 => ((intro w hSw); (try dsimp only at hSw); go_simp; (try with_reducible rfl))
      try simp only [Act.put, List.setIfInBounds_toArray, List.set_cons_zero, List.set_cons_succ]
      refine wpAnyH_take (i := 18) (oi := { dst := some 43, op := Op.fieldAddr 30 (Operand.tmp 4) 6, type := 0, pos := "gram.go:50", after := #[{ on := 13, ground := Ground.guard }], guard := some (13, true) }) (v := ?hv92) rfl (by kernel_rfl) (by kernel_rfl) (by kernel_rfl) (fun _ _ _ h => h) (Or.inl ⟨by rfl, ?hy92⟩) (by assumption) ?_
      case hy92 => ((intro w hSw); (try dsimp only at hSw); go_simp; (try with_reducible rfl))
      try simp only [Act.put, List.setIfInBounds_toArray, List.set_cons_zero, List.set_cons_succ]
      refine wpAnyH_take (i := 19) (oi := { dst := some 44, op := Op.load 2 (Operand.tmp 43), type := 2, pos := "gram.go:50", after := #[{ on := 18, ground := Ground.data }, { on := 13, ground := Ground.guard }], guard := some (13, true) }) (v := ?hv93) rfl (by kernel_rfl) (by kernel_rfl) (by kernel_rfl) (fun _ _ _ h => h) (Or.inl ⟨by rfl, ?hy93⟩) (by assumption) ?_
      case hy93 => ((intro w hSw); (try dsimp only at hSw); go_simp; (try with_reducible rfl))
      try simp only [Act.put, List.setIfInBounds_toArray, List.set_cons_zero, List.set_cons_succ]
      refine wpAnyH_ready (rs := [17]) (by kernel_rfl) (by simp) ?_
      refine AllReadyH.cons (o := { dst := some 42, op := Op.call { callee := Callee.value (Operand.func 53), args := #[Operand.tmp 40, Operand.tmp 41], argTypes := #[28, 3] }, type := 2, pos := "gram.go:50", after := #[{ on := 15, ground := Ground.data }, { on := 16, ground := Ground.data }, { on := 13, ground := Ground.chain }, { on := 13, ground := Ground.guard }], guard := some (13, true) }) rfl (fun K hK => ?_) AllReadyH.nil
      go_simp
      go_at_call 53; (with_reducible refine (CP.out _).mono ?_); rintro e x3 ⟨rfl, z3⟩; have k3 := ru_keep k2 z3 l2; have l3 := Nat.lt_of_lt_of_le l2 z3.size; have H3 := Lib.hid (H2.out.trans (z3.mono (Nat.le_of_lt l2))); clear z3
      refine hK.out _ _ ?_ (fun hHeld => ?_)
      · (try dsimp only); exact k3
      clear hK K
      try simp only [Act.put, List.setIfInBounds_toArray, List.set_cons_zero, List.set_cons_succ]
      refine wpAnyH_take (i := 20) (oi := { dst := some 45, op := Op.binOp BinOp.gtr 2 (Operand.tmp 42) (Operand.tmp 44) 2, type := 4, pos := "gram.go:50", after := #[{ on := 17, ground := Ground.data }, { on := 19, ground := Ground.data }, { on := 13, ground := Ground.guard }], guard := some (13, true) }) (v := ?hv94) rfl (by kernel_rfl) (by kernel_rfl) (by kernel_rfl) (fun _ _ _ h => h) (Or.inl ⟨by rfl, ?hy94⟩) (by assumption) ?_
      case hy94 => ((intro w hSw); (try dsimp only at hSw); go_simp; (try with_reducible rfl))
      try simp only [Act.put, List.setIfInBounds_toArray, List.set_cons_zero, List.set_cons_succ]
      refine wpAnyH_take (i := 21) (oi := { dst := some 46, op := Op.pick (Operand.tmp 38) (Operand.tmp 45) (Operand.const (Value.bool false)), type := 4, pos := "gram.go:50", after := #[{ on := 13, ground := Ground.data }, { on := 20, ground := Ground.data }, { on := 11, ground := Ground.guard }], guard := some (11, false) }) (v := ?hv95) rfl (by kernel_rfl) (by kernel_rfl) (by kernel_rfl) (fun _ _ _ h => h) (Or.inl ⟨by rfl, ?hy95⟩) (by assumption) ?_
      case hy95 => ((intro w hSw); (try dsimp only at hSw); go_simp; (try with_reducible rfl))
      try simp only [Act.put, List.setIfInBounds_toArray, List.set_cons_zero, List.set_cons_succ]
      refine wpAnyH_take (i := 22) (oi := { dst := some 47, op := Op.pick (Operand.tmp 36) (Operand.const (Value.bool true)) (Operand.tmp 46), type := 4, pos := "gram.go:50", after := #[{ on := 11, ground := Ground.data }, { on := 21, ground := Ground.data }], guard := none }) (v := ?hv96) rfl (by kernel_rfl) (by kernel_rfl) (by kernel_rfl) (fun _ _ _ h => h) (Or.inl ⟨by rfl, ?hy96⟩) (by assumption) ?_
      case hy96 => ((intro w hSw); (try dsimp only at hSw); go_simp; (try with_reducible rfl))
      try simp only [Act.put, List.setIfInBounds_toArray, List.set_cons_zero, List.set_cons_succ]
      refine wpAnyH_take (i := 23) (oi := { dst := some 24, op := Op.assign (Operand.tmp 47), type := 4, pos := "gram.go:50", after := #[{ on := 22, ground := Ground.data }, { on := 17, ground := Ground.chain }], guard := none }) (v := ?hv97) rfl (by kernel_rfl) (by kernel_rfl) (by kernel_rfl) (fun _ _ _ h => h) (Or.inl ⟨by rfl, ?hy97⟩) (by assumption) ?_
      case hy97 => ((intro w hSw); (try dsimp only at hSw); go_simp; (try with_reducible rfl))
      try simp only [Act.put, List.setIfInBounds_toArray, List.set_cons_zero, List.set_cons_succ]
      refine wpAnyH_done (by kernel_rfl) ?_ _
      go_wp2_with fail
      go_ret
      exact ⟨by rw [HR.out]; rfl, H3.out⟩
end Go.Proofs.YtoagmehgiaamlaaDoor
