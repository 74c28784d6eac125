/-
  RateMany: the walk.
-/
import Derived.Test.YtdmgnocpempfnaaSameRates
namespace Go.Proofs.Ytdmgnocpempfnaa
open Go.ChangeShapes Go.WideShapes Go.ChangeAt Go.RowKit
set_option linter.unusedVariables false

set_option maxHeartbeats 4000000 in
theorem rateMany_1 (w : World) :
    Calls Try.prog 3 #[.int .i64 1] w fun e w' => e = .returned (.bool true) ∧ Below w.heap.size w w' := by
  have HN := Lib.hid (show (allP 1).length = 8 from all_len 1)
  have HJ := Lib.hid (all_adj 1)
  go_enter Try.func3, Try.ntmps3
  go_wp2_with fail
  refine (rfirst_any _).mono ?_
  rintro e w1 ⟨rfl, hb1⟩
  have zB1 := hb1.size
  go_wp2_with fail
  refine (all_any 1 _).mono ?_
  rintro e w2 ⟨v, rfl, ho, hb2⟩
  obtain ⟨A, n, C, rfl, hr⟩ := ho.row
  have HB2 := Lib.hid (hb1.trans (hb2.mono zB1))
  clear hb1 hb2 ho zB1
  obtain rfl : n = 8 := hr.1.trans HN.out
  have HR := Lib.hid hr
  clear hr
  go_wp2_with fail
  go_loopw [6] (fun i wr => ∃ k : Nat, k ≤ 8 ∧ i = .int .i64 k ∧ RowR wr A 8 C (allP 1) ∧ Below w.heap.size w wr) (fun i _ => 8 - (intOf i).toNat)
  case atStart => exact ⟨0, Nat.zero_le _, rfl, HR.out, HB2.out⟩
  case round =>
    obtain ⟨k, hk, rfl, hr, hb⟩ := hrel
    have HR := Lib.hid hr
    have HB := Lib.hid hb
    clear hr hb HB2
    have zB := HB.out.size
    by_cases hkn : k < 8
    · obtain ⟨r, hr⟩ : ∃ r, (allP 1)[k]? = some r := ⟨_, List.getElem?_eq_getElem (by rw [HN.out]; exact hkn)⟩
      obtain ⟨rm, rv⟩ := all_mem (List.mem_of_getElem? hr)
      have CV := Lib.hid (fun w => valid_any r w)
      rw [rv] at CV
      obtain ⟨b, o, rfl, l1, e0, e1, e2, e3, e4⟩ := HR.out.at_ hr
      rcases Nat.eq_zero_or_pos k with hk0 | hk0
      · subst hk0
        clear hr rv
        rw [rm] at e0 CV
        clear rm
        rw [Nat.zero_mul, Nat.add_zero] at e0 e1 e2 e3 e4
        rw [show (((0 : Nat)) : Int) = 0 from rfl]
        have x3 : decide ((0 : Int) < 0) = false := by decide
        go_wp2_with fail
        refine wp_region_held_drew (S := (fun y => y.cell? ⟨b, o, none⟩ = some (.int .i64 1) ∧ y.cell? ⟨b, o + 1, none⟩ = some (.int .i64 r.c) ∧ y.cell? ⟨b, o + 2, none⟩ = some (.int .i64 r.s) ∧ y.cell? ⟨b, o + 3, none⟩ = some (.int .i64 r.w) ∧ y.cell? ⟨b, o + 4, none⟩ = some (.int .i64 r.g))) (by kernel_rfl) ?_ (fun hHeld => ?_)
        · (try dsimp only); exact ⟨e0, e1, e2, e3, e4⟩
        refine wpAnyH_take (i := 0) (oi := { dst := some 27, op := Op.move (Operand.tmp 4), type := 23, pos := "law.go:67", after := #[], guard := none }) (v := ?hv1) rfl (by kernel_rfl) (by kernel_rfl) (by kernel_rfl) (fun _ _ _ h => h) (Or.inl ⟨by rfl, ?hy1⟩) (by assumption) ?_
        case hy1 => ((intro w hSw); (try dsimp only at hSw); go_simp; (try with_reducible rfl))
        try simp only [Act.put, List.setIfInBounds_toArray, List.set_cons_zero, List.set_cons_succ]
        refine wpAnyH_take (i := 1) (oi := { dst := some 28, op := Op.move (Operand.tmp 6), type := 3, pos := "law.go:67", after := #[], guard := none }) (v := ?hv2) rfl (by kernel_rfl) (by kernel_rfl) (by kernel_rfl) (fun _ _ _ h => h) (Or.inl ⟨by rfl, ?hy2⟩) (by assumption) ?_
        case hy2 => ((intro w hSw); (try dsimp only at hSw); go_simp; (try with_reducible rfl))
        try simp only [Act.put, List.setIfInBounds_toArray, List.set_cons_zero, List.set_cons_succ]
        refine wpAnyH_take (i := 2) (oi := { dst := some 29, op := Op.indexAddr 23 (Operand.tmp 27) (Operand.tmp 28), type := 0, pos := "law.go:67", after := #[{ on := 0, ground := Ground.data }, { on := 1, ground := Ground.data }], guard := none }) (v := ?hv3) rfl (by kernel_rfl) (by kernel_rfl) (by kernel_rfl) (fun _ _ _ h => h) (Or.inl ⟨by rfl, ?hy3⟩) (by assumption) ?_
        case hy3 => ((intro w hSw); (try dsimp only at hSw); go_simp; (try with_reducible rfl))
        try simp only [Act.put, List.setIfInBounds_toArray, List.set_cons_zero, List.set_cons_succ]
        refine wpAnyH_take (i := 3) (oi := { dst := some 30, op := Op.load 27 (Operand.tmp 29), type := 27, pos := "law.go:67", after := #[{ on := 2, ground := Ground.data }], guard := none }) (v := ?hv4) rfl (by kernel_rfl) (by kernel_rfl) (by kernel_rfl) (fun _ _ _ h => h) (Or.inl ⟨by rfl, ?hy4⟩) (by assumption) ?_
        case hy4 => ((intro w hSw); (try dsimp only at hSw); go_simp; (try with_reducible rfl))
        try simp only [Act.put, List.setIfInBounds_toArray, List.set_cons_zero, List.set_cons_succ]
        refine wpAnyH_ready (rs := [4]) (by kernel_rfl) (by simp) ?_
        refine AllReadyH.cons (o := { dst := some 31, op := Op.call { callee := Callee.value (Operand.func 9), args := #[Operand.tmp 30], argTypes := #[27] }, type := 4, pos := "law.go:67", after := #[{ on := 3, ground := Ground.data }], guard := none }) rfl (fun K hK => ?_) AllReadyH.nil
        go_simp
        go_at_call 9; refine (CV.out _).mono ?_; rintro e wa ⟨rfl, bw⟩
        refine hK.out _ _ ?_ (fun hHeld => ?_)
        · (try dsimp only); exact ⟨(bw.cell (p := ⟨b, _, none⟩) l1).trans e0, (bw.cell (p := ⟨b, _, none⟩) l1).trans e1, (bw.cell (p := ⟨b, _, none⟩) l1).trans e2, (bw.cell (p := ⟨b, _, none⟩) l1).trans e3, (bw.cell (p := ⟨b, _, none⟩) l1).trans e4⟩
        clear hK K
        try simp only [Act.put, List.setIfInBounds_toArray, List.set_cons_zero, List.set_cons_succ]
        refine wpAnyH_take (i := 5) (oi := { dst := some 32, op := Op.unOp UnOp.not 4 (Operand.tmp 31), type := 4, pos := "law.go:67", after := #[{ on := 4, ground := Ground.data }], guard := none }) (v := ?hv5) rfl (by kernel_rfl) (by kernel_rfl) (by kernel_rfl) (fun _ _ _ h => h) (Or.inl ⟨by rfl, ?hy5⟩) (by assumption) ?_
        case hy5 => ((intro w hSw); (try dsimp only at hSw); go_simp; (try with_reducible rfl))
        try simp only [Act.put, List.setIfInBounds_toArray, List.set_cons_zero, List.set_cons_succ]
        refine wpAnyH_take (i := 6) (oi := { dst := some 33, op := Op.move (Operand.tmp 32), type := 4, pos := "law.go:67", after := #[{ on := 5, ground := Ground.data }, { on := 4, ground := Ground.chain }], guard := none }) (v := ?hv6) rfl (by kernel_rfl) (by kernel_rfl) (by kernel_rfl) (fun _ _ _ h => h) (Or.inl ⟨by rfl, ?hy6⟩) (by assumption) ?_
        case hy6 => ((intro w hSw); (try dsimp only at hSw); go_simp; (try with_reducible rfl))
        try simp only [Act.put, List.setIfInBounds_toArray, List.set_cons_zero, List.set_cons_succ]
        refine wpAnyH_take (i := 7) (oi := { dst := some 34, op := Op.move (Operand.tmp 4), type := 23, pos := "law.go:67", after := #[{ on := 6, ground := Ground.guard }], guard := some (6, false) }) (v := ?hv7) rfl (by kernel_rfl) (by kernel_rfl) (by kernel_rfl) (fun _ _ _ h => h) (Or.inl ⟨by rfl, ?hy7⟩) (by assumption) ?_
        case hy7 => ((intro w hSw); (try dsimp only at hSw); go_simp; (try with_reducible rfl))
        try simp only [Act.put, List.setIfInBounds_toArray, List.set_cons_zero, List.set_cons_succ]
        refine wpAnyH_take (i := 8) (oi := { dst := some 35, op := Op.move (Operand.tmp 6), type := 3, pos := "law.go:67", after := #[{ on := 6, ground := Ground.guard }], guard := some (6, false) }) (v := ?hv8) rfl (by kernel_rfl) (by kernel_rfl) (by kernel_rfl) (fun _ _ _ h => h) (Or.inl ⟨by rfl, ?hy8⟩) (by assumption) ?_
        case hy8 => ((intro w hSw); (try dsimp only at hSw); go_simp; (try with_reducible rfl))
        try simp only [Act.put, List.setIfInBounds_toArray, List.set_cons_zero, List.set_cons_succ]
        refine wpAnyH_take (i := 9) (oi := { dst := some 36, op := Op.indexAddr 23 (Operand.tmp 34) (Operand.tmp 35), type := 0, pos := "law.go:67", after := #[{ on := 7, ground := Ground.data }, { on := 8, ground := Ground.data }, { on := 6, ground := Ground.guard }], guard := some (6, false) }) (v := ?hv9) rfl (by kernel_rfl) (by kernel_rfl) (by kernel_rfl) (fun _ _ _ h => h) (Or.inl ⟨by rfl, ?hy9⟩) (by assumption) ?_
        case hy9 => ((intro w hSw); (try dsimp only at hSw); go_simp; (try with_reducible rfl))
        try simp only [Act.put, List.setIfInBounds_toArray, List.set_cons_zero, List.set_cons_succ]
        refine wpAnyH_take (i := 10) (oi := { dst := some 37, op := Op.fieldAddr 27 (Operand.tmp 36) 0, type := 0, pos := "law.go:67", after := #[{ on := 9, ground := Ground.data }, { on := 6, ground := Ground.guard }], guard := some (6, false) }) (v := ?hv10) rfl (by kernel_rfl) (by kernel_rfl) (by kernel_rfl) (fun _ _ _ h => h) (Or.inl ⟨by rfl, ?hy10⟩) (by assumption) ?_
        case hy10 => ((intro w hSw); (try dsimp only at hSw); go_simp; (try with_reducible rfl))
        try simp only [Act.put, List.setIfInBounds_toArray, List.set_cons_zero, List.set_cons_succ]
        refine wpAnyH_take (i := 11) (oi := { dst := some 38, op := Op.load 3 (Operand.tmp 37), type := 3, pos := "law.go:67", after := #[{ on := 10, ground := Ground.data }, { on := 6, ground := Ground.guard }], guard := some (6, false) }) (v := ?hv11) rfl (by kernel_rfl) (by kernel_rfl) (by kernel_rfl) (fun _ _ _ h => h) (Or.inl ⟨by rfl, ?hy11⟩) (by assumption) ?_
        case hy11 => ((intro w hSw); (try dsimp only at hSw); go_simp; (try with_reducible rfl))
        try simp only [Act.put, List.setIfInBounds_toArray, List.set_cons_zero, List.set_cons_succ]
        refine wpAnyH_take (i := 12) (oi := { dst := some 39, op := Op.move (Operand.tmp 0), type := 3, pos := "law.go:67", after := #[{ on := 6, ground := Ground.guard }], guard := some (6, false) }) (v := ?hv12) rfl (by kernel_rfl) (by kernel_rfl) (by kernel_rfl) (fun _ _ _ h => h) (Or.inl ⟨by rfl, ?hy12⟩) (by assumption) ?_
        case hy12 => ((intro w hSw); (try dsimp only at hSw); go_simp; (try with_reducible rfl))
        try simp only [Act.put, List.setIfInBounds_toArray, List.set_cons_zero, List.set_cons_succ]
        refine wpAnyH_take (i := 13) (oi := { dst := some 40, op := Op.binOp BinOp.neq 3 (Operand.tmp 38) (Operand.tmp 39) 3, type := 4, pos := "law.go:67", after := #[{ on := 11, ground := Ground.data }, { on := 12, ground := Ground.data }, { on := 6, ground := Ground.guard }], guard := some (6, false) }) (v := ?hv13) rfl (by kernel_rfl) (by kernel_rfl) (by kernel_rfl) (fun _ _ _ h => h) (Or.inl ⟨by rfl, ?hy13⟩) (by assumption) ?_
        case hy13 => ((intro w hSw); (try dsimp only at hSw); go_simp; (try with_reducible rfl))
        try simp only [Act.put, List.setIfInBounds_toArray, List.set_cons_zero, List.set_cons_succ]
        refine wpAnyH_take (i := 14) (oi := { dst := some 41, op := Op.pick (Operand.tmp 33) (Operand.const (Value.bool true)) (Operand.tmp 40), type := 4, pos := "law.go:67", after := #[{ on := 6, ground := Ground.data }, { on := 13, ground := Ground.data }], guard := none }) (v := ?hv14) rfl (by kernel_rfl) (by kernel_rfl) (by kernel_rfl) (fun _ _ _ h => h) (Or.inl ⟨by rfl, ?hy14⟩) (by assumption) ?_
        case hy14 => ((intro w hSw); (try dsimp only at hSw); go_simp; (try with_reducible rfl))
        try simp only [Act.put, List.setIfInBounds_toArray, List.set_cons_zero, List.set_cons_succ]
        refine wpAnyH_take (i := 15) (oi := { dst := some 42, op := Op.move (Operand.tmp 41), type := 4, pos := "law.go:67", after := #[{ on := 14, ground := Ground.data }, { on := 6, ground := Ground.chain }], guard := none }) (v := ?hv15) rfl (by kernel_rfl) (by kernel_rfl) (by kernel_rfl) (fun _ _ _ h => h) (Or.inl ⟨by rfl, ?hy15⟩) (by assumption) ?_
        case hy15 => ((intro w hSw); (try dsimp only at hSw); go_simp; (try with_reducible rfl))
        try simp only [Act.put, List.setIfInBounds_toArray, List.set_cons_zero, List.set_cons_succ]
        refine wpAnyH_take (i := 16) (oi := { dst := some 43, op := Op.move (Operand.tmp 6), type := 3, pos := "law.go:67", after := #[{ on := 15, ground := Ground.guard }], guard := some (15, false) }) (v := ?hv16) rfl (by kernel_rfl) (by kernel_rfl) (by kernel_rfl) (fun _ _ _ h => h) (Or.inl ⟨by rfl, ?hy16⟩) (by assumption) ?_
        case hy16 => ((intro w hSw); (try dsimp only at hSw); go_simp; (try with_reducible rfl))
        try simp only [Act.put, List.setIfInBounds_toArray, List.set_cons_zero, List.set_cons_succ]
        refine wpAnyH_take (i := 17) (oi := { dst := some 44, op := Op.binOp BinOp.gtr 3 (Operand.tmp 43) (Operand.const (Value.int IntKind.i64 0)) 3, type := 4, pos := "law.go:67", after := #[{ on := 16, ground := Ground.data }, { on := 15, ground := Ground.guard }], guard := some (15, false) }) (v := ?hv17) rfl (by kernel_rfl) (by kernel_rfl) (by kernel_rfl) (fun _ _ _ h => h) (Or.inl ⟨by rfl, ?hy17⟩) (by assumption) ?_
        case hy17 => ((intro w hSw); (try dsimp only at hSw); go_simp; (try with_reducible rfl))
        try simp only [Act.put, List.setIfInBounds_toArray, List.set_cons_zero, List.set_cons_succ]
        refine wpAnyH_take (i := 18) (oi := { dst := some 45, op := Op.move (Operand.tmp 44), type := 4, pos := "law.go:67", after := #[{ on := 17, ground := Ground.data }, { on := 15, ground := Ground.chain }, { on := 15, ground := Ground.guard }], guard := some (15, false) }) (v := ?hv18) rfl (by kernel_rfl) (by kernel_rfl) (by kernel_rfl) (fun _ _ _ h => h) (Or.inl ⟨by rfl, ?hy18⟩) (by assumption) ?_
        case hy18 => ((intro w hSw); (try dsimp only at hSw); go_simp; (try with_reducible rfl))
        try simp only [Act.put, List.setIfInBounds_toArray, List.set_cons_zero, List.set_cons_succ]
        refine wpAnyH_take (i := 19) (oi := { dst := some 46, op := Op.move (Operand.tmp 4), type := 23, pos := "law.go:67", after := #[{ on := 18, ground := Ground.guard }], guard := some (18, true) }) (v := undef) rfl (by kernel_rfl) (by kernel_rfl) (by kernel_rfl) (fun _ _ _ h => h) (Or.inr ⟨by rfl, rfl⟩) (by assumption) ?_
        try simp only [Act.put, List.setIfInBounds_toArray, List.set_cons_zero, List.set_cons_succ]
        refine wpAnyH_take (i := 20) (oi := { dst := some 47, op := Op.move (Operand.tmp 6), type := 3, pos := "law.go:67", after := #[{ on := 18, ground := Ground.guard }], guard := some (18, true) }) (v := undef) rfl (by kernel_rfl) (by kernel_rfl) (by kernel_rfl) (fun _ _ _ h => h) (Or.inr ⟨by rfl, rfl⟩) (by assumption) ?_
        try simp only [Act.put, List.setIfInBounds_toArray, List.set_cons_zero, List.set_cons_succ]
        refine wpAnyH_take (i := 21) (oi := { dst := some 48, op := Op.binOp BinOp.sub 3 (Operand.tmp 47) (Operand.const (Value.int IntKind.i64 1)) 3, type := 3, pos := "law.go:67", after := #[{ on := 20, ground := Ground.data }, { on := 18, ground := Ground.guard }], guard := some (18, true) }) (v := undef) rfl (by kernel_rfl) (by kernel_rfl) (by kernel_rfl) (fun _ _ _ h => h) (Or.inr ⟨by rfl, rfl⟩) (by assumption) ?_
        try simp only [Act.put, List.setIfInBounds_toArray, List.set_cons_zero, List.set_cons_succ]
        refine wpAnyH_take (i := 22) (oi := { dst := some 49, op := Op.indexAddr 23 (Operand.tmp 46) (Operand.tmp 48), type := 0, pos := "law.go:67", after := #[{ on := 19, ground := Ground.data }, { on := 21, ground := Ground.data }, { on := 18, ground := Ground.guard }], guard := some (18, true) }) (v := undef) rfl (by kernel_rfl) (by kernel_rfl) (by kernel_rfl) (fun _ _ _ h => h) (Or.inr ⟨by rfl, rfl⟩) (by assumption) ?_
        try simp only [Act.put, List.setIfInBounds_toArray, List.set_cons_zero, List.set_cons_succ]
        refine wpAnyH_take (i := 23) (oi := { dst := some 50, op := Op.load 27 (Operand.tmp 49), type := 27, pos := "law.go:67", after := #[{ on := 22, ground := Ground.data }, { on := 18, ground := Ground.guard }], guard := some (18, true) }) (v := undef) rfl (by kernel_rfl) (by kernel_rfl) (by kernel_rfl) (fun _ _ _ h => h) (Or.inr ⟨by rfl, rfl⟩) (by assumption) ?_
        try simp only [Act.put, List.setIfInBounds_toArray, List.set_cons_zero, List.set_cons_succ]
        refine wpAnyH_take (i := 24) (oi := { dst := some 51, op := Op.move (Operand.tmp 4), type := 23, pos := "law.go:67", after := #[{ on := 18, ground := Ground.guard }], guard := some (18, true) }) (v := undef) rfl (by kernel_rfl) (by kernel_rfl) (by kernel_rfl) (fun _ _ _ h => h) (Or.inr ⟨by rfl, rfl⟩) (by assumption) ?_
        try simp only [Act.put, List.setIfInBounds_toArray, List.set_cons_zero, List.set_cons_succ]
        refine wpAnyH_take (i := 25) (oi := { dst := some 52, op := Op.move (Operand.tmp 6), type := 3, pos := "law.go:67", after := #[{ on := 18, ground := Ground.guard }], guard := some (18, true) }) (v := undef) rfl (by kernel_rfl) (by kernel_rfl) (by kernel_rfl) (fun _ _ _ h => h) (Or.inr ⟨by rfl, rfl⟩) (by assumption) ?_
        try simp only [Act.put, List.setIfInBounds_toArray, List.set_cons_zero, List.set_cons_succ]
        refine wpAnyH_take (i := 26) (oi := { dst := some 53, op := Op.indexAddr 23 (Operand.tmp 51) (Operand.tmp 52), type := 0, pos := "law.go:67", after := #[{ on := 24, ground := Ground.data }, { on := 25, ground := Ground.data }, { on := 18, ground := Ground.guard }], guard := some (18, true) }) (v := undef) rfl (by kernel_rfl) (by kernel_rfl) (by kernel_rfl) (fun _ _ _ h => h) (Or.inr ⟨by rfl, rfl⟩) (by assumption) ?_
        try simp only [Act.put, List.setIfInBounds_toArray, List.set_cons_zero, List.set_cons_succ]
        refine wpAnyH_take (i := 27) (oi := { dst := some 54, op := Op.load 27 (Operand.tmp 53), type := 27, pos := "law.go:67", after := #[{ on := 26, ground := Ground.data }, { on := 18, ground := Ground.guard }], guard := some (18, true) }) (v := undef) rfl (by kernel_rfl) (by kernel_rfl) (by kernel_rfl) (fun _ _ _ h => h) (Or.inr ⟨by rfl, rfl⟩) (by assumption) ?_
        try simp only [Act.put, List.setIfInBounds_toArray, List.set_cons_zero, List.set_cons_succ]
        refine wpAnyH_take (i := 28) (oi := { dst := some 55, op := Op.call { callee := Callee.value (Operand.func 10), args := #[Operand.tmp 50, Operand.tmp 54], argTypes := #[27, 27] }, type := 4, pos := "law.go:67", after := #[{ on := 23, ground := Ground.data }, { on := 27, ground := Ground.data }, { on := 18, ground := Ground.chain }, { on := 18, ground := Ground.guard }], guard := some (18, true) }) (v := undef) rfl (by kernel_rfl) (by kernel_rfl) (by kernel_rfl) (fun _ _ _ h => h) (Or.inr ⟨by rfl, rfl⟩) (by assumption) ?_
        try simp only [Act.put, List.setIfInBounds_toArray, List.set_cons_zero, List.set_cons_succ]
        refine wpAnyH_take (i := 29) (oi := { dst := some 56, op := Op.pick (Operand.tmp 45) (Operand.tmp 55) (Operand.const (Value.bool false)), type := 4, pos := "law.go:67", after := #[{ on := 18, ground := Ground.data }, { on := 28, ground := Ground.data }, { on := 15, ground := Ground.guard }], guard := some (15, false) }) (v := ?hv19) rfl (by kernel_rfl) (by kernel_rfl) (by kernel_rfl) (fun _ _ _ h => h) (Or.inl ⟨by rfl, ?hy19⟩) (by assumption) ?_
        case hy19 => ((intro w hSw); (try dsimp only at hSw); go_simp; (try with_reducible rfl))
        try simp only [Act.put, List.setIfInBounds_toArray, List.set_cons_zero, List.set_cons_succ]
        refine wpAnyH_take (i := 30) (oi := { dst := some 57, op := Op.pick (Operand.tmp 42) (Operand.const (Value.bool true)) (Operand.tmp 56), type := 4, pos := "law.go:67", after := #[{ on := 15, ground := Ground.data }, { on := 29, ground := Ground.data }], guard := none }) (v := ?hv20) rfl (by kernel_rfl) (by kernel_rfl) (by kernel_rfl) (fun _ _ _ h => h) (Or.inl ⟨by rfl, ?hy20⟩) (by assumption) ?_
        case hy20 => ((intro w hSw); (try dsimp only at hSw); go_simp; (try with_reducible rfl))
        try simp only [Act.put, List.setIfInBounds_toArray, List.set_cons_zero, List.set_cons_succ]
        refine wpAnyH_done (by kernel_rfl) ?_ _
        have bw' : Below wr.heap.size wr wa := (Below.drew (Below.refl _ wr)).trans bw
        have R1' := Lib.hid (HR.out.below bw' (Nat.le_refl _))
        have HB' := Lib.hid (HB.out.trans (bw'.mono zB))
        clear bw bw' e0 e1 e2 e3 e4
        go_wp2_with fail
        go_roundw
        case rel => exact ⟨1, by omega, by go_num, R1'.out, HB'.out⟩
        case measure => simp [intOf]
      · obtain ⟨j, rfl⟩ : ∃ j, k = j + 1 := ⟨k - 1, by omega⟩
        obtain ⟨q, hq⟩ : ∃ q, (allP 1)[j]? = some q := ⟨_, List.getElem?_eq_getElem (by rw [HN.out]; omega)⟩
        have HS := Lib.hid (adj_at HJ.out hq hr)
        obtain ⟨qm, _⟩ := all_mem (List.mem_of_getElem? hq)
        obtain ⟨b', o', hbo, _, f0, f1, f2, f3, f4⟩ := HR.out.at_ hq
        obtain ⟨rfl, rfl⟩ : b' = b ∧ o' = o := by injection hbo with h; injection h with h1 h2; exact ⟨h1.symm, h2.symm⟩
        clear hr rv hq hbo
        have CS := Lib.hid (fun w => sameRate1_any q r w)
        rw [HS.out] at CS
        rw [rm] at e0 CV CS
        rw [qm] at f0 CS
        clear rm qm HS
        rw [show (((j + 1 : Nat)) : Int) = (j : Int) + 1 from rfl]
        have x1 : IntKind.i64.wrap ((j : Int) + 1 - 1) = (j : Int) := by rw [IntWalk.i64_in _ (by omega)]; omega
        have x2 : ((j : Int) + 1).toNat = j + 1 := by omega
        have x3 : decide (0 < (j : Int) + 1) = true := decide_eq_true (by omega)
        have x4 : ((j : Int)).toNat = j := by omega
        have x5 : IntKind.i64.wrap (j : Int) = (j : Int) := IntWalk.i64_in _ (by omega)
        have y1 : (0 : Int) ≤ (j : Int) + 1 := by omega
        have y2 : (j : Int) + 1 < 8 := by omega
        have y3 : (0 : Int) ≤ (j : Int) := by omega
        have y4 : (j : Int) < 8 := by omega
        go_wp2_with fail
        go_region_held3 (fun y => y.cell? ⟨b', o' + (j + 1) * 5, none⟩ = some (.int .i64 1) ∧ y.cell? ⟨b', o' + (j + 1) * 5 + 1, none⟩ = some (.int .i64 r.c) ∧ y.cell? ⟨b', o' + (j + 1) * 5 + 2, none⟩ = some (.int .i64 r.s) ∧ y.cell? ⟨b', o' + (j + 1) * 5 + 3, none⟩ = some (.int .i64 r.w) ∧ y.cell? ⟨b', o' + (j + 1) * 5 + 4, none⟩ = some (.int .i64 r.g) ∧ y.cell? ⟨b', o' + j * 5, none⟩ = some (.int .i64 1) ∧ y.cell? ⟨b', o' + j * 5 + 1, none⟩ = some (.int .i64 q.c) ∧ y.cell? ⟨b', o' + j * 5 + 2, none⟩ = some (.int .i64 q.s) ∧ y.cell? ⟨b', o' + j * 5 + 3, none⟩ = some (.int .i64 q.w) ∧ y.cell? ⟨b', o' + j * 5 + 4, none⟩ = some (.int .i64 q.g))
          (first | exact ⟨e0, e1, e2, e3, e4, f0, f1, f2, f3, f4⟩ | exact ⟨(bw.cell (p := ⟨b', _, none⟩) l1).trans e0, (bw.cell (p := ⟨b', _, none⟩) l1).trans e1, (bw.cell (p := ⟨b', _, none⟩) l1).trans e2, (bw.cell (p := ⟨b', _, none⟩) l1).trans e3, (bw.cell (p := ⟨b', _, none⟩) l1).trans e4, (bw.cell (p := ⟨b', _, none⟩) l1).trans f0, (bw.cell (p := ⟨b', _, none⟩) l1).trans f1, (bw.cell (p := ⟨b', _, none⟩) l1).trans f2, (bw.cell (p := ⟨b', _, none⟩) l1).trans f3, (bw.cell (p := ⟨b', _, none⟩) l1).trans f4⟩ | exact ⟨(bz.cell (p := ⟨b', _, none⟩) l1).trans e0, (bz.cell (p := ⟨b', _, none⟩) l1).trans e1, (bz.cell (p := ⟨b', _, none⟩) l1).trans e2, (bz.cell (p := ⟨b', _, none⟩) l1).trans e3, (bz.cell (p := ⟨b', _, none⟩) l1).trans e4, (bz.cell (p := ⟨b', _, none⟩) l1).trans f0, (bz.cell (p := ⟨b', _, none⟩) l1).trans f1, (bz.cell (p := ⟨b', _, none⟩) l1).trans f2, (bz.cell (p := ⟨b', _, none⟩) l1).trans f3, (bz.cell (p := ⟨b', _, none⟩) l1).trans f4⟩)
          (first
            | (go_at_call 9; refine (CV.out _).mono ?_; rintro e wa ⟨rfl, bw⟩)
            | (go_at_call 10; refine (CS.out _).mono ?_; rintro e wb ⟨rfl, by0⟩; have bz := bw.trans (by0.mono bw.size)))
        have bw' : Below wr.heap.size wr wb := (Below.drew (Below.refl _ wr)).trans bz
        have R1' := Lib.hid (HR.out.below bw' (Nat.le_refl _))
        have HB' := Lib.hid (HB.out.trans (bw'.mono zB))
        clear bw bw' by0 bz e0 e1 e2 e3 e4 f0 f1 f2 f3 f4 x1 x2 x3 x4 x5 y1 y2 y3 y4
        go_wp2_with fail
        go_roundw
        case rel => exact ⟨j + 1 + 1, by omega, by go_num, R1'.out, HB'.out⟩
        case measure => simp [intOf]; omega
    · obtain rfl : k = 8 := by omega
      go_wp2_with fail
      go_ret
      exact ⟨rfl, HB.out⟩

set_option maxHeartbeats 4000000 in
theorem rateMany_2 (w : World) :
    Calls Try.prog 3 #[.int .i64 2] w fun e w' => e = .returned (.bool true) ∧ Below w.heap.size w w' := by
  have HN := Lib.hid (show (allP 2).length = 128 from all_len 2)
  have HJ := Lib.hid (all_adj 2)
  go_enter Try.func3, Try.ntmps3
  go_wp2_with fail
  refine (rfirst_any _).mono ?_
  rintro e w1 ⟨rfl, hb1⟩
  have zB1 := hb1.size
  go_wp2_with fail
  refine (all_any 2 _).mono ?_
  rintro e w2 ⟨v, rfl, ho, hb2⟩
  obtain ⟨A, n, C, rfl, hr⟩ := ho.row
  have HB2 := Lib.hid (hb1.trans (hb2.mono zB1))
  clear hb1 hb2 ho zB1
  obtain rfl : n = 128 := hr.1.trans HN.out
  have HR := Lib.hid hr
  clear hr
  go_wp2_with fail
  go_loopw [6] (fun i wr => ∃ k : Nat, k ≤ 128 ∧ i = .int .i64 k ∧ RowR wr A 128 C (allP 2) ∧ Below w.heap.size w wr) (fun i _ => 128 - (intOf i).toNat)
  case atStart => exact ⟨0, Nat.zero_le _, rfl, HR.out, HB2.out⟩
  case round =>
    obtain ⟨k, hk, rfl, hr, hb⟩ := hrel
    have HR := Lib.hid hr
    have HB := Lib.hid hb
    clear hr hb HB2
    have zB := HB.out.size
    by_cases hkn : k < 128
    · obtain ⟨r, hr⟩ : ∃ r, (allP 2)[k]? = some r := ⟨_, List.getElem?_eq_getElem (by rw [HN.out]; exact hkn)⟩
      obtain ⟨rm, rv⟩ := all_mem (List.mem_of_getElem? hr)
      have CV := Lib.hid (fun w => valid_any r w)
      rw [rv] at CV
      obtain ⟨b, o, rfl, l1, e0, e1, e2, e3, e4⟩ := HR.out.at_ hr
      rcases Nat.eq_zero_or_pos k with hk0 | hk0
      · subst hk0
        clear hr rv
        rw [rm] at e0 CV
        clear rm
        rw [Nat.zero_mul, Nat.add_zero] at e0 e1 e2 e3 e4
        rw [show (((0 : Nat)) : Int) = 0 from rfl]
        have x3 : decide ((0 : Int) < 0) = false := by decide
        go_wp2_with fail
        refine wp_region_held_drew (S := (fun y => y.cell? ⟨b, o, none⟩ = some (.int .i64 2) ∧ y.cell? ⟨b, o + 1, none⟩ = some (.int .i64 r.c) ∧ y.cell? ⟨b, o + 2, none⟩ = some (.int .i64 r.s) ∧ y.cell? ⟨b, o + 3, none⟩ = some (.int .i64 r.w) ∧ y.cell? ⟨b, o + 4, none⟩ = some (.int .i64 r.g))) (by kernel_rfl) ?_ (fun hHeld => ?_)
        · (try dsimp only); exact ⟨e0, e1, e2, e3, e4⟩
        refine wpAnyH_take (i := 0) (oi := { dst := some 27, op := Op.move (Operand.tmp 4), type := 23, pos := "law.go:67", after := #[], guard := none }) (v := ?hv21) rfl (by kernel_rfl) (by kernel_rfl) (by kernel_rfl) (fun _ _ _ h => h) (Or.inl ⟨by rfl, ?hy21⟩) (by assumption) ?_
        case hy21 => ((intro w hSw); (try dsimp only at hSw); go_simp; (try with_reducible rfl))
        try simp only [Act.put, List.setIfInBounds_toArray, List.set_cons_zero, List.set_cons_succ]
        refine wpAnyH_take (i := 1) (oi := { dst := some 28, op := Op.move (Operand.tmp 6), type := 3, pos := "law.go:67", after := #[], guard := none }) (v := ?hv22) rfl (by kernel_rfl) (by kernel_rfl) (by kernel_rfl) (fun _ _ _ h => h) (Or.inl ⟨by rfl, ?hy22⟩) (by assumption) ?_
        case hy22 => ((intro w hSw); (try dsimp only at hSw); go_simp; (try with_reducible rfl))
        try simp only [Act.put, List.setIfInBounds_toArray, List.set_cons_zero, List.set_cons_succ]
        refine wpAnyH_take (i := 2) (oi := { dst := some 29, op := Op.indexAddr 23 (Operand.tmp 27) (Operand.tmp 28), type := 0, pos := "law.go:67", after := #[{ on := 0, ground := Ground.data }, { on := 1, ground := Ground.data }], guard := none }) (v := ?hv23) rfl (by kernel_rfl) (by kernel_rfl) (by kernel_rfl) (fun _ _ _ h => h) (Or.inl ⟨by rfl, ?hy23⟩) (by assumption) ?_
        case hy23 => ((intro w hSw); (try dsimp only at hSw); go_simp; (try with_reducible rfl))
        try simp only [Act.put, List.setIfInBounds_toArray, List.set_cons_zero, List.set_cons_succ]
        refine wpAnyH_take (i := 3) (oi := { dst := some 30, op := Op.load 27 (Operand.tmp 29), type := 27, pos := "law.go:67", after := #[{ on := 2, ground := Ground.data }], guard := none }) (v := ?hv24) rfl (by kernel_rfl) (by kernel_rfl) (by kernel_rfl) (fun _ _ _ h => h) (Or.inl ⟨by rfl, ?hy24⟩) (by assumption) ?_
        case hy24 => ((intro w hSw); (try dsimp only at hSw); go_simp; (try with_reducible rfl))
        try simp only [Act.put, List.setIfInBounds_toArray, List.set_cons_zero, List.set_cons_succ]
        refine wpAnyH_ready (rs := [4]) (by kernel_rfl) (by simp) ?_
        refine AllReadyH.cons (o := { dst := some 31, op := Op.call { callee := Callee.value (Operand.func 9), args := #[Operand.tmp 30], argTypes := #[27] }, type := 4, pos := "law.go:67", after := #[{ on := 3, ground := Ground.data }], guard := none }) rfl (fun K hK => ?_) AllReadyH.nil
        go_simp
        go_at_call 9; refine (CV.out _).mono ?_; rintro e wa ⟨rfl, bw⟩
        refine hK.out _ _ ?_ (fun hHeld => ?_)
        · (try dsimp only); exact ⟨(bw.cell (p := ⟨b, _, none⟩) l1).trans e0, (bw.cell (p := ⟨b, _, none⟩) l1).trans e1, (bw.cell (p := ⟨b, _, none⟩) l1).trans e2, (bw.cell (p := ⟨b, _, none⟩) l1).trans e3, (bw.cell (p := ⟨b, _, none⟩) l1).trans e4⟩
        clear hK K
        try simp only [Act.put, List.setIfInBounds_toArray, List.set_cons_zero, List.set_cons_succ]
        refine wpAnyH_take (i := 5) (oi := { dst := some 32, op := Op.unOp UnOp.not 4 (Operand.tmp 31), type := 4, pos := "law.go:67", after := #[{ on := 4, ground := Ground.data }], guard := none }) (v := ?hv25) rfl (by kernel_rfl) (by kernel_rfl) (by kernel_rfl) (fun _ _ _ h => h) (Or.inl ⟨by rfl, ?hy25⟩) (by assumption) ?_
        case hy25 => ((intro w hSw); (try dsimp only at hSw); go_simp; (try with_reducible rfl))
        try simp only [Act.put, List.setIfInBounds_toArray, List.set_cons_zero, List.set_cons_succ]
        refine wpAnyH_take (i := 6) (oi := { dst := some 33, op := Op.move (Operand.tmp 32), type := 4, pos := "law.go:67", after := #[{ on := 5, ground := Ground.data }, { on := 4, ground := Ground.chain }], guard := none }) (v := ?hv26) rfl (by kernel_rfl) (by kernel_rfl) (by kernel_rfl) (fun _ _ _ h => h) (Or.inl ⟨by rfl, ?hy26⟩) (by assumption) ?_
        case hy26 => ((intro w hSw); (try dsimp only at hSw); go_simp; (try with_reducible rfl))
        try simp only [Act.put, List.setIfInBounds_toArray, List.set_cons_zero, List.set_cons_succ]
        refine wpAnyH_take (i := 7) (oi := { dst := some 34, op := Op.move (Operand.tmp 4), type := 23, pos := "law.go:67", after := #[{ on := 6, ground := Ground.guard }], guard := some (6, false) }) (v := ?hv27) rfl (by kernel_rfl) (by kernel_rfl) (by kernel_rfl) (fun _ _ _ h => h) (Or.inl ⟨by rfl, ?hy27⟩) (by assumption) ?_
        case hy27 => ((intro w hSw); (try dsimp only at hSw); go_simp; (try with_reducible rfl))
        try simp only [Act.put, List.setIfInBounds_toArray, List.set_cons_zero, List.set_cons_succ]
        refine wpAnyH_take (i := 8) (oi := { dst := some 35, op := Op.move (Operand.tmp 6), type := 3, pos := "law.go:67", after := #[{ on := 6, ground := Ground.guard }], guard := some (6, false) }) (v := ?hv28) rfl (by kernel_rfl) (by kernel_rfl) (by kernel_rfl) (fun _ _ _ h => h) (Or.inl ⟨by rfl, ?hy28⟩) (by assumption) ?_
        case hy28 => ((intro w hSw); (try dsimp only at hSw); go_simp; (try with_reducible rfl))
        try simp only [Act.put, List.setIfInBounds_toArray, List.set_cons_zero, List.set_cons_succ]
        refine wpAnyH_take (i := 9) (oi := { dst := some 36, op := Op.indexAddr 23 (Operand.tmp 34) (Operand.tmp 35), type := 0, pos := "law.go:67", after := #[{ on := 7, ground := Ground.data }, { on := 8, ground := Ground.data }, { on := 6, ground := Ground.guard }], guard := some (6, false) }) (v := ?hv29) rfl (by kernel_rfl) (by kernel_rfl) (by kernel_rfl) (fun _ _ _ h => h) (Or.inl ⟨by rfl, ?hy29⟩) (by assumption) ?_
        case hy29 => ((intro w hSw); (try dsimp only at hSw); go_simp; (try with_reducible rfl))
        try simp only [Act.put, List.setIfInBounds_toArray, List.set_cons_zero, List.set_cons_succ]
        refine wpAnyH_take (i := 10) (oi := { dst := some 37, op := Op.fieldAddr 27 (Operand.tmp 36) 0, type := 0, pos := "law.go:67", after := #[{ on := 9, ground := Ground.data }, { on := 6, ground := Ground.guard }], guard := some (6, false) }) (v := ?hv30) rfl (by kernel_rfl) (by kernel_rfl) (by kernel_rfl) (fun _ _ _ h => h) (Or.inl ⟨by rfl, ?hy30⟩) (by assumption) ?_
        case hy30 => ((intro w hSw); (try dsimp only at hSw); go_simp; (try with_reducible rfl))
        try simp only [Act.put, List.setIfInBounds_toArray, List.set_cons_zero, List.set_cons_succ]
        refine wpAnyH_take (i := 11) (oi := { dst := some 38, op := Op.load 3 (Operand.tmp 37), type := 3, pos := "law.go:67", after := #[{ on := 10, ground := Ground.data }, { on := 6, ground := Ground.guard }], guard := some (6, false) }) (v := ?hv31) rfl (by kernel_rfl) (by kernel_rfl) (by kernel_rfl) (fun _ _ _ h => h) (Or.inl ⟨by rfl, ?hy31⟩) (by assumption) ?_
        case hy31 => ((intro w hSw); (try dsimp only at hSw); go_simp; (try with_reducible rfl))
        try simp only [Act.put, List.setIfInBounds_toArray, List.set_cons_zero, List.set_cons_succ]
        refine wpAnyH_take (i := 12) (oi := { dst := some 39, op := Op.move (Operand.tmp 0), type := 3, pos := "law.go:67", after := #[{ on := 6, ground := Ground.guard }], guard := some (6, false) }) (v := ?hv32) rfl (by kernel_rfl) (by kernel_rfl) (by kernel_rfl) (fun _ _ _ h => h) (Or.inl ⟨by rfl, ?hy32⟩) (by assumption) ?_
        case hy32 => ((intro w hSw); (try dsimp only at hSw); go_simp; (try with_reducible rfl))
        try simp only [Act.put, List.setIfInBounds_toArray, List.set_cons_zero, List.set_cons_succ]
        refine wpAnyH_take (i := 13) (oi := { dst := some 40, op := Op.binOp BinOp.neq 3 (Operand.tmp 38) (Operand.tmp 39) 3, type := 4, pos := "law.go:67", after := #[{ on := 11, ground := Ground.data }, { on := 12, ground := Ground.data }, { on := 6, ground := Ground.guard }], guard := some (6, false) }) (v := ?hv33) rfl (by kernel_rfl) (by kernel_rfl) (by kernel_rfl) (fun _ _ _ h => h) (Or.inl ⟨by rfl, ?hy33⟩) (by assumption) ?_
        case hy33 => ((intro w hSw); (try dsimp only at hSw); go_simp; (try with_reducible rfl))
        try simp only [Act.put, List.setIfInBounds_toArray, List.set_cons_zero, List.set_cons_succ]
        refine wpAnyH_take (i := 14) (oi := { dst := some 41, op := Op.pick (Operand.tmp 33) (Operand.const (Value.bool true)) (Operand.tmp 40), type := 4, pos := "law.go:67", after := #[{ on := 6, ground := Ground.data }, { on := 13, ground := Ground.data }], guard := none }) (v := ?hv34) rfl (by kernel_rfl) (by kernel_rfl) (by kernel_rfl) (fun _ _ _ h => h) (Or.inl ⟨by rfl, ?hy34⟩) (by assumption) ?_
        case hy34 => ((intro w hSw); (try dsimp only at hSw); go_simp; (try with_reducible rfl))
        try simp only [Act.put, List.setIfInBounds_toArray, List.set_cons_zero, List.set_cons_succ]
        refine wpAnyH_take (i := 15) (oi := { dst := some 42, op := Op.move (Operand.tmp 41), type := 4, pos := "law.go:67", after := #[{ on := 14, ground := Ground.data }, { on := 6, ground := Ground.chain }], guard := none }) (v := ?hv35) rfl (by kernel_rfl) (by kernel_rfl) (by kernel_rfl) (fun _ _ _ h => h) (Or.inl ⟨by rfl, ?hy35⟩) (by assumption) ?_
        case hy35 => ((intro w hSw); (try dsimp only at hSw); go_simp; (try with_reducible rfl))
        try simp only [Act.put, List.setIfInBounds_toArray, List.set_cons_zero, List.set_cons_succ]
        refine wpAnyH_take (i := 16) (oi := { dst := some 43, op := Op.move (Operand.tmp 6), type := 3, pos := "law.go:67", after := #[{ on := 15, ground := Ground.guard }], guard := some (15, false) }) (v := ?hv36) rfl (by kernel_rfl) (by kernel_rfl) (by kernel_rfl) (fun _ _ _ h => h) (Or.inl ⟨by rfl, ?hy36⟩) (by assumption) ?_
        case hy36 => ((intro w hSw); (try dsimp only at hSw); go_simp; (try with_reducible rfl))
        try simp only [Act.put, List.setIfInBounds_toArray, List.set_cons_zero, List.set_cons_succ]
        refine wpAnyH_take (i := 17) (oi := { dst := some 44, op := Op.binOp BinOp.gtr 3 (Operand.tmp 43) (Operand.const (Value.int IntKind.i64 0)) 3, type := 4, pos := "law.go:67", after := #[{ on := 16, ground := Ground.data }, { on := 15, ground := Ground.guard }], guard := some (15, false) }) (v := ?hv37) rfl (by kernel_rfl) (by kernel_rfl) (by kernel_rfl) (fun _ _ _ h => h) (Or.inl ⟨by rfl, ?hy37⟩) (by assumption) ?_
        case hy37 => ((intro w hSw); (try dsimp only at hSw); go_simp; (try with_reducible rfl))
        try simp only [Act.put, List.setIfInBounds_toArray, List.set_cons_zero, List.set_cons_succ]
        refine wpAnyH_take (i := 18) (oi := { dst := some 45, op := Op.move (Operand.tmp 44), type := 4, pos := "law.go:67", after := #[{ on := 17, ground := Ground.data }, { on := 15, ground := Ground.chain }, { on := 15, ground := Ground.guard }], guard := some (15, false) }) (v := ?hv38) rfl (by kernel_rfl) (by kernel_rfl) (by kernel_rfl) (fun _ _ _ h => h) (Or.inl ⟨by rfl, ?hy38⟩) (by assumption) ?_
        case hy38 => ((intro w hSw); (try dsimp only at hSw); go_simp; (try with_reducible rfl))
        try simp only [Act.put, List.setIfInBounds_toArray, List.set_cons_zero, List.set_cons_succ]
        refine wpAnyH_take (i := 19) (oi := { dst := some 46, op := Op.move (Operand.tmp 4), type := 23, pos := "law.go:67", after := #[{ on := 18, ground := Ground.guard }], guard := some (18, true) }) (v := undef) rfl (by kernel_rfl) (by kernel_rfl) (by kernel_rfl) (fun _ _ _ h => h) (Or.inr ⟨by rfl, rfl⟩) (by assumption) ?_
        try simp only [Act.put, List.setIfInBounds_toArray, List.set_cons_zero, List.set_cons_succ]
        refine wpAnyH_take (i := 20) (oi := { dst := some 47, op := Op.move (Operand.tmp 6), type := 3, pos := "law.go:67", after := #[{ on := 18, ground := Ground.guard }], guard := some (18, true) }) (v := undef) rfl (by kernel_rfl) (by kernel_rfl) (by kernel_rfl) (fun _ _ _ h => h) (Or.inr ⟨by rfl, rfl⟩) (by assumption) ?_
        try simp only [Act.put, List.setIfInBounds_toArray, List.set_cons_zero, List.set_cons_succ]
        refine wpAnyH_take (i := 21) (oi := { dst := some 48, op := Op.binOp BinOp.sub 3 (Operand.tmp 47) (Operand.const (Value.int IntKind.i64 1)) 3, type := 3, pos := "law.go:67", after := #[{ on := 20, ground := Ground.data }, { on := 18, ground := Ground.guard }], guard := some (18, true) }) (v := undef) rfl (by kernel_rfl) (by kernel_rfl) (by kernel_rfl) (fun _ _ _ h => h) (Or.inr ⟨by rfl, rfl⟩) (by assumption) ?_
        try simp only [Act.put, List.setIfInBounds_toArray, List.set_cons_zero, List.set_cons_succ]
        refine wpAnyH_take (i := 22) (oi := { dst := some 49, op := Op.indexAddr 23 (Operand.tmp 46) (Operand.tmp 48), type := 0, pos := "law.go:67", after := #[{ on := 19, ground := Ground.data }, { on := 21, ground := Ground.data }, { on := 18, ground := Ground.guard }], guard := some (18, true) }) (v := undef) rfl (by kernel_rfl) (by kernel_rfl) (by kernel_rfl) (fun _ _ _ h => h) (Or.inr ⟨by rfl, rfl⟩) (by assumption) ?_
        try simp only [Act.put, List.setIfInBounds_toArray, List.set_cons_zero, List.set_cons_succ]
        refine wpAnyH_take (i := 23) (oi := { dst := some 50, op := Op.load 27 (Operand.tmp 49), type := 27, pos := "law.go:67", after := #[{ on := 22, ground := Ground.data }, { on := 18, ground := Ground.guard }], guard := some (18, true) }) (v := undef) rfl (by kernel_rfl) (by kernel_rfl) (by kernel_rfl) (fun _ _ _ h => h) (Or.inr ⟨by rfl, rfl⟩) (by assumption) ?_
        try simp only [Act.put, List.setIfInBounds_toArray, List.set_cons_zero, List.set_cons_succ]
        refine wpAnyH_take (i := 24) (oi := { dst := some 51, op := Op.move (Operand.tmp 4), type := 23, pos := "law.go:67", after := #[{ on := 18, ground := Ground.guard }], guard := some (18, true) }) (v := undef) rfl (by kernel_rfl) (by kernel_rfl) (by kernel_rfl) (fun _ _ _ h => h) (Or.inr ⟨by rfl, rfl⟩) (by assumption) ?_
        try simp only [Act.put, List.setIfInBounds_toArray, List.set_cons_zero, List.set_cons_succ]
        refine wpAnyH_take (i := 25) (oi := { dst := some 52, op := Op.move (Operand.tmp 6), type := 3, pos := "law.go:67", after := #[{ on := 18, ground := Ground.guard }], guard := some (18, true) }) (v := undef) rfl (by kernel_rfl) (by kernel_rfl) (by kernel_rfl) (fun _ _ _ h => h) (Or.inr ⟨by rfl, rfl⟩) (by assumption) ?_
        try simp only [Act.put, List.setIfInBounds_toArray, List.set_cons_zero, List.set_cons_succ]
        refine wpAnyH_take (i := 26) (oi := { dst := some 53, op := Op.indexAddr 23 (Operand.tmp 51) (Operand.tmp 52), type := 0, pos := "law.go:67", after := #[{ on := 24, ground := Ground.data }, { on := 25, ground := Ground.data }, { on := 18, ground := Ground.guard }], guard := some (18, true) }) (v := undef) rfl (by kernel_rfl) (by kernel_rfl) (by kernel_rfl) (fun _ _ _ h => h) (Or.inr ⟨by rfl, rfl⟩) (by assumption) ?_
        try simp only [Act.put, List.setIfInBounds_toArray, List.set_cons_zero, List.set_cons_succ]
        refine wpAnyH_take (i := 27) (oi := { dst := some 54, op := Op.load 27 (Operand.tmp 53), type := 27, pos := "law.go:67", after := #[{ on := 26, ground := Ground.data }, { on := 18, ground := Ground.guard }], guard := some (18, true) }) (v := undef) rfl (by kernel_rfl) (by kernel_rfl) (by kernel_rfl) (fun _ _ _ h => h) (Or.inr ⟨by rfl, rfl⟩) (by assumption) ?_
        try simp only [Act.put, List.setIfInBounds_toArray, List.set_cons_zero, List.set_cons_succ]
        refine wpAnyH_take (i := 28) (oi := { dst := some 55, op := Op.call { callee := Callee.value (Operand.func 10), args := #[Operand.tmp 50, Operand.tmp 54], argTypes := #[27, 27] }, type := 4, pos := "law.go:67", after := #[{ on := 23, ground := Ground.data }, { on := 27, ground := Ground.data }, { on := 18, ground := Ground.chain }, { on := 18, ground := Ground.guard }], guard := some (18, true) }) (v := undef) rfl (by kernel_rfl) (by kernel_rfl) (by kernel_rfl) (fun _ _ _ h => h) (Or.inr ⟨by rfl, rfl⟩) (by assumption) ?_
        try simp only [Act.put, List.setIfInBounds_toArray, List.set_cons_zero, List.set_cons_succ]
        refine wpAnyH_take (i := 29) (oi := { dst := some 56, op := Op.pick (Operand.tmp 45) (Operand.tmp 55) (Operand.const (Value.bool false)), type := 4, pos := "law.go:67", after := #[{ on := 18, ground := Ground.data }, { on := 28, ground := Ground.data }, { on := 15, ground := Ground.guard }], guard := some (15, false) }) (v := ?hv39) rfl (by kernel_rfl) (by kernel_rfl) (by kernel_rfl) (fun _ _ _ h => h) (Or.inl ⟨by rfl, ?hy39⟩) (by assumption) ?_
        case hy39 => ((intro w hSw); (try dsimp only at hSw); go_simp; (try with_reducible rfl))
        try simp only [Act.put, List.setIfInBounds_toArray, List.set_cons_zero, List.set_cons_succ]
        refine wpAnyH_take (i := 30) (oi := { dst := some 57, op := Op.pick (Operand.tmp 42) (Operand.const (Value.bool true)) (Operand.tmp 56), type := 4, pos := "law.go:67", after := #[{ on := 15, ground := Ground.data }, { on := 29, ground := Ground.data }], guard := none }) (v := ?hv40) rfl (by kernel_rfl) (by kernel_rfl) (by kernel_rfl) (fun _ _ _ h => h) (Or.inl ⟨by rfl, ?hy40⟩) (by assumption) ?_
        case hy40 => ((intro w hSw); (try dsimp only at hSw); go_simp; (try with_reducible rfl))
        try simp only [Act.put, List.setIfInBounds_toArray, List.set_cons_zero, List.set_cons_succ]
        refine wpAnyH_done (by kernel_rfl) ?_ _
        have bw' : Below wr.heap.size wr wa := (Below.drew (Below.refl _ wr)).trans bw
        have R1' := Lib.hid (HR.out.below bw' (Nat.le_refl _))
        have HB' := Lib.hid (HB.out.trans (bw'.mono zB))
        clear bw bw' e0 e1 e2 e3 e4
        go_wp2_with fail
        go_roundw
        case rel => exact ⟨1, by omega, by go_num, R1'.out, HB'.out⟩
        case measure => simp [intOf]
      · obtain ⟨j, rfl⟩ : ∃ j, k = j + 1 := ⟨k - 1, by omega⟩
        obtain ⟨q, hq⟩ : ∃ q, (allP 2)[j]? = some q := ⟨_, List.getElem?_eq_getElem (by rw [HN.out]; omega)⟩
        have HS := Lib.hid (adj_at HJ.out hq hr)
        obtain ⟨qm, _⟩ := all_mem (List.mem_of_getElem? hq)
        obtain ⟨b', o', hbo, _, f0, f1, f2, f3, f4⟩ := HR.out.at_ hq
        obtain ⟨rfl, rfl⟩ : b' = b ∧ o' = o := by injection hbo with h; injection h with h1 h2; exact ⟨h1.symm, h2.symm⟩
        clear hr rv hq hbo
        have CS := Lib.hid (fun w => sameRate1_any q r w)
        rw [HS.out] at CS
        rw [rm] at e0 CV CS
        rw [qm] at f0 CS
        clear rm qm HS
        rw [show (((j + 1 : Nat)) : Int) = (j : Int) + 1 from rfl]
        have x1 : IntKind.i64.wrap ((j : Int) + 1 - 1) = (j : Int) := by rw [IntWalk.i64_in _ (by omega)]; omega
        have x2 : ((j : Int) + 1).toNat = j + 1 := by omega
        have x3 : decide (0 < (j : Int) + 1) = true := decide_eq_true (by omega)
        have x4 : ((j : Int)).toNat = j := by omega
        have x5 : IntKind.i64.wrap (j : Int) = (j : Int) := IntWalk.i64_in _ (by omega)
        have y1 : (0 : Int) ≤ (j : Int) + 1 := by omega
        have y2 : (j : Int) + 1 < 128 := by omega
        have y3 : (0 : Int) ≤ (j : Int) := by omega
        have y4 : (j : Int) < 128 := by omega
        go_wp2_with fail
        go_region_held3 (fun y => y.cell? ⟨b', o' + (j + 1) * 5, none⟩ = some (.int .i64 2) ∧ y.cell? ⟨b', o' + (j + 1) * 5 + 1, none⟩ = some (.int .i64 r.c) ∧ y.cell? ⟨b', o' + (j + 1) * 5 + 2, none⟩ = some (.int .i64 r.s) ∧ y.cell? ⟨b', o' + (j + 1) * 5 + 3, none⟩ = some (.int .i64 r.w) ∧ y.cell? ⟨b', o' + (j + 1) * 5 + 4, none⟩ = some (.int .i64 r.g) ∧ y.cell? ⟨b', o' + j * 5, none⟩ = some (.int .i64 2) ∧ y.cell? ⟨b', o' + j * 5 + 1, none⟩ = some (.int .i64 q.c) ∧ y.cell? ⟨b', o' + j * 5 + 2, none⟩ = some (.int .i64 q.s) ∧ y.cell? ⟨b', o' + j * 5 + 3, none⟩ = some (.int .i64 q.w) ∧ y.cell? ⟨b', o' + j * 5 + 4, none⟩ = some (.int .i64 q.g))
          (first | exact ⟨e0, e1, e2, e3, e4, f0, f1, f2, f3, f4⟩ | exact ⟨(bw.cell (p := ⟨b', _, none⟩) l1).trans e0, (bw.cell (p := ⟨b', _, none⟩) l1).trans e1, (bw.cell (p := ⟨b', _, none⟩) l1).trans e2, (bw.cell (p := ⟨b', _, none⟩) l1).trans e3, (bw.cell (p := ⟨b', _, none⟩) l1).trans e4, (bw.cell (p := ⟨b', _, none⟩) l1).trans f0, (bw.cell (p := ⟨b', _, none⟩) l1).trans f1, (bw.cell (p := ⟨b', _, none⟩) l1).trans f2, (bw.cell (p := ⟨b', _, none⟩) l1).trans f3, (bw.cell (p := ⟨b', _, none⟩) l1).trans f4⟩ | exact ⟨(bz.cell (p := ⟨b', _, none⟩) l1).trans e0, (bz.cell (p := ⟨b', _, none⟩) l1).trans e1, (bz.cell (p := ⟨b', _, none⟩) l1).trans e2, (bz.cell (p := ⟨b', _, none⟩) l1).trans e3, (bz.cell (p := ⟨b', _, none⟩) l1).trans e4, (bz.cell (p := ⟨b', _, none⟩) l1).trans f0, (bz.cell (p := ⟨b', _, none⟩) l1).trans f1, (bz.cell (p := ⟨b', _, none⟩) l1).trans f2, (bz.cell (p := ⟨b', _, none⟩) l1).trans f3, (bz.cell (p := ⟨b', _, none⟩) l1).trans f4⟩)
          (first
            | (go_at_call 9; refine (CV.out _).mono ?_; rintro e wa ⟨rfl, bw⟩)
            | (go_at_call 10; refine (CS.out _).mono ?_; rintro e wb ⟨rfl, by0⟩; have bz := bw.trans (by0.mono bw.size)))
        have bw' : Below wr.heap.size wr wb := (Below.drew (Below.refl _ wr)).trans bz
        have R1' := Lib.hid (HR.out.below bw' (Nat.le_refl _))
        have HB' := Lib.hid (HB.out.trans (bw'.mono zB))
        clear bw bw' by0 bz e0 e1 e2 e3 e4 f0 f1 f2 f3 f4 x1 x2 x3 x4 x5 y1 y2 y3 y4
        go_wp2_with fail
        go_roundw
        case rel => exact ⟨j + 1 + 1, by omega, by go_num, R1'.out, HB'.out⟩
        case measure => simp [intOf]; omega
    · obtain rfl : k = 128 := by omega
      go_wp2_with fail
      go_ret
      exact ⟨rfl, HB.out⟩

set_option maxHeartbeats 4000000 in
theorem rateMany_3 (w : World) :
    Calls Try.prog 3 #[.int .i64 3] w fun e w' => e = .returned (.bool true) ∧ Below w.heap.size w w' := by
  have HN := Lib.hid (show (allP 3).length = 640 from all_len 3)
  have HJ := Lib.hid (all_adj 3)
  go_enter Try.func3, Try.ntmps3
  go_wp2_with fail
  refine (rfirst_any _).mono ?_
  rintro e w1 ⟨rfl, hb1⟩
  have zB1 := hb1.size
  go_wp2_with fail
  refine (all_any 3 _).mono ?_
  rintro e w2 ⟨v, rfl, ho, hb2⟩
  obtain ⟨A, n, C, rfl, hr⟩ := ho.row
  have HB2 := Lib.hid (hb1.trans (hb2.mono zB1))
  clear hb1 hb2 ho zB1
  obtain rfl : n = 640 := hr.1.trans HN.out
  have HR := Lib.hid hr
  clear hr
  go_wp2_with fail
  go_loopw [6] (fun i wr => ∃ k : Nat, k ≤ 640 ∧ i = .int .i64 k ∧ RowR wr A 640 C (allP 3) ∧ Below w.heap.size w wr) (fun i _ => 640 - (intOf i).toNat)
  case atStart => exact ⟨0, Nat.zero_le _, rfl, HR.out, HB2.out⟩
  case round =>
    obtain ⟨k, hk, rfl, hr, hb⟩ := hrel
    have HR := Lib.hid hr
    have HB := Lib.hid hb
    clear hr hb HB2
    have zB := HB.out.size
    by_cases hkn : k < 640
    · obtain ⟨r, hr⟩ : ∃ r, (allP 3)[k]? = some r := ⟨_, List.getElem?_eq_getElem (by rw [HN.out]; exact hkn)⟩
      obtain ⟨rm, rv⟩ := all_mem (List.mem_of_getElem? hr)
      have CV := Lib.hid (fun w => valid_any r w)
      rw [rv] at CV
      obtain ⟨b, o, rfl, l1, e0, e1, e2, e3, e4⟩ := HR.out.at_ hr
      rcases Nat.eq_zero_or_pos k with hk0 | hk0
      · subst hk0
        clear hr rv
        rw [rm] at e0 CV
        clear rm
        rw [Nat.zero_mul, Nat.add_zero] at e0 e1 e2 e3 e4
        rw [show (((0 : Nat)) : Int) = 0 from rfl]
        have x3 : decide ((0 : Int) < 0) = false := by decide
        go_wp2_with fail
        refine wp_region_held_drew (S := (fun y => y.cell? ⟨b, o, none⟩ = some (.int .i64 3) ∧ y.cell? ⟨b, o + 1, none⟩ = some (.int .i64 r.c) ∧ y.cell? ⟨b, o + 2, none⟩ = some (.int .i64 r.s) ∧ y.cell? ⟨b, o + 3, none⟩ = some (.int .i64 r.w) ∧ y.cell? ⟨b, o + 4, none⟩ = some (.int .i64 r.g))) (by kernel_rfl) ?_ (fun hHeld => ?_)
        · (try dsimp only); exact ⟨e0, e1, e2, e3, e4⟩
        refine wpAnyH_take (i := 0) (oi := { dst := some 27, op := Op.move (Operand.tmp 4), type := 23, pos := "law.go:67", after := #[], guard := none }) (v := ?hv41) rfl (by kernel_rfl) (by kernel_rfl) (by kernel_rfl) (fun _ _ _ h => h) (Or.inl ⟨by rfl, ?hy41⟩) (by assumption) ?_
        case hy41 => ((intro w hSw); (try dsimp only at hSw); go_simp; (try with_reducible rfl))
        try simp only [Act.put, List.setIfInBounds_toArray, List.set_cons_zero, List.set_cons_succ]
        refine wpAnyH_take (i := 1) (oi := { dst := some 28, op := Op.move (Operand.tmp 6), type := 3, pos := "law.go:67", after := #[], guard := none }) (v := ?hv42) rfl (by kernel_rfl) (by kernel_rfl) (by kernel_rfl) (fun _ _ _ h => h) (Or.inl ⟨by rfl, ?hy42⟩) (by assumption) ?_
        case hy42 => ((intro w hSw); (try dsimp only at hSw); go_simp; (try with_reducible rfl))
        try simp only [Act.put, List.setIfInBounds_toArray, List.set_cons_zero, List.set_cons_succ]
        refine wpAnyH_take (i := 2) (oi := { dst := some 29, op := Op.indexAddr 23 (Operand.tmp 27) (Operand.tmp 28), type := 0, pos := "law.go:67", after := #[{ on := 0, ground := Ground.data }, { on := 1, ground := Ground.data }], guard := none }) (v := ?hv43) rfl (by kernel_rfl) (by kernel_rfl) (by kernel_rfl) (fun _ _ _ h => h) (Or.inl ⟨by rfl, ?hy43⟩) (by assumption) ?_
        case hy43 => ((intro w hSw); (try dsimp only at hSw); go_simp; (try with_reducible rfl))
        try simp only [Act.put, List.setIfInBounds_toArray, List.set_cons_zero, List.set_cons_succ]
        refine wpAnyH_take (i := 3) (oi := { dst := some 30, op := Op.load 27 (Operand.tmp 29), type := 27, pos := "law.go:67", after := #[{ on := 2, ground := Ground.data }], guard := none }) (v := ?hv44) rfl (by kernel_rfl) (by kernel_rfl) (by kernel_rfl) (fun _ _ _ h => h) (Or.inl ⟨by rfl, ?hy44⟩) (by assumption) ?_
        case hy44 => ((intro w hSw); (try dsimp only at hSw); go_simp; (try with_reducible rfl))
        try simp only [Act.put, List.setIfInBounds_toArray, List.set_cons_zero, List.set_cons_succ]
        refine wpAnyH_ready (rs := [4]) (by kernel_rfl) (by simp) ?_
        refine AllReadyH.cons (o := { dst := some 31, op := Op.call { callee := Callee.value (Operand.func 9), args := #[Operand.tmp 30], argTypes := #[27] }, type := 4, pos := "law.go:67", after := #[{ on := 3, ground := Ground.data }], guard := none }) rfl (fun K hK => ?_) AllReadyH.nil
        go_simp
        go_at_call 9; refine (CV.out _).mono ?_; rintro e wa ⟨rfl, bw⟩
        refine hK.out _ _ ?_ (fun hHeld => ?_)
        · (try dsimp only); exact ⟨(bw.cell (p := ⟨b, _, none⟩) l1).trans e0, (bw.cell (p := ⟨b, _, none⟩) l1).trans e1, (bw.cell (p := ⟨b, _, none⟩) l1).trans e2, (bw.cell (p := ⟨b, _, none⟩) l1).trans e3, (bw.cell (p := ⟨b, _, none⟩) l1).trans e4⟩
        clear hK K
        try simp only [Act.put, List.setIfInBounds_toArray, List.set_cons_zero, List.set_cons_succ]
        refine wpAnyH_take (i := 5) (oi := { dst := some 32, op := Op.unOp UnOp.not 4 (Operand.tmp 31), type := 4, pos := "law.go:67", after := #[{ on := 4, ground := Ground.data }], guard := none }) (v := ?hv45) rfl (by kernel_rfl) (by kernel_rfl) (by kernel_rfl) (fun _ _ _ h => h) (Or.inl ⟨by rfl, ?hy45⟩) (by assumption) ?_
        case hy45 => ((intro w hSw); (try dsimp only at hSw); go_simp; (try with_reducible rfl))
        try simp only [Act.put, List.setIfInBounds_toArray, List.set_cons_zero, List.set_cons_succ]
        refine wpAnyH_take (i := 6) (oi := { dst := some 33, op := Op.move (Operand.tmp 32), type := 4, pos := "law.go:67", after := #[{ on := 5, ground := Ground.data }, { on := 4, ground := Ground.chain }], guard := none }) (v := ?hv46) rfl (by kernel_rfl) (by kernel_rfl) (by kernel_rfl) (fun _ _ _ h => h) (Or.inl ⟨by rfl, ?hy46⟩) (by assumption) ?_
        case hy46 => ((intro w hSw); (try dsimp only at hSw); go_simp; (try with_reducible rfl))
        try simp only [Act.put, List.setIfInBounds_toArray, List.set_cons_zero, List.set_cons_succ]
        refine wpAnyH_take (i := 7) (oi := { dst := some 34, op := Op.move (Operand.tmp 4), type := 23, pos := "law.go:67", after := #[{ on := 6, ground := Ground.guard }], guard := some (6, false) }) (v := ?hv47) rfl (by kernel_rfl) (by kernel_rfl) (by kernel_rfl) (fun _ _ _ h => h) (Or.inl ⟨by rfl, ?hy47⟩) (by assumption) ?_
        case hy47 => ((intro w hSw); (try dsimp only at hSw); go_simp; (try with_reducible rfl))
        try simp only [Act.put, List.setIfInBounds_toArray, List.set_cons_zero, List.set_cons_succ]
        refine wpAnyH_take (i := 8) (oi := { dst := some 35, op := Op.move (Operand.tmp 6), type := 3, pos := "law.go:67", after := #[{ on := 6, ground := Ground.guard }], guard := some (6, false) }) (v := ?hv48) rfl (by kernel_rfl) (by kernel_rfl) (by kernel_rfl) (fun _ _ _ h => h) (Or.inl ⟨by rfl, ?hy48⟩) (by assumption) ?_
        case hy48 => ((intro w hSw); (try dsimp only at hSw); go_simp; (try with_reducible rfl))
        try simp only [Act.put, List.setIfInBounds_toArray, List.set_cons_zero, List.set_cons_succ]
        refine wpAnyH_take (i := 9) (oi := { dst := some 36, op := Op.indexAddr 23 (Operand.tmp 34) (Operand.tmp 35), type := 0, pos := "law.go:67", after := #[{ on := 7, ground := Ground.data }, { on := 8, ground := Ground.data }, { on := 6, ground := Ground.guard }], guard := some (6, false) }) (v := ?hv49) rfl (by kernel_rfl) (by kernel_rfl) (by kernel_rfl) (fun _ _ _ h => h) (Or.inl ⟨by rfl, ?hy49⟩) (by assumption) ?_
        case hy49 => ((intro w hSw); (try dsimp only at hSw); go_simp; (try with_reducible rfl))
        try simp only [Act.put, List.setIfInBounds_toArray, List.set_cons_zero, List.set_cons_succ]
        refine wpAnyH_take (i := 10) (oi := { dst := some 37, op := Op.fieldAddr 27 (Operand.tmp 36) 0, type := 0, pos := "law.go:67", after := #[{ on := 9, ground := Ground.data }, { on := 6, ground := Ground.guard }], guard := some (6, false) }) (v := ?hv50) rfl (by kernel_rfl) (by kernel_rfl) (by kernel_rfl) (fun _ _ _ h => h) (Or.inl ⟨by rfl, ?hy50⟩) (by assumption) ?_
        case hy50 => ((intro w hSw); (try dsimp only at hSw); go_simp; (try with_reducible rfl))
        try simp only [Act.put, List.setIfInBounds_toArray, List.set_cons_zero, List.set_cons_succ]
        refine wpAnyH_take (i := 11) (oi := { dst := some 38, op := Op.load 3 (Operand.tmp 37), type := 3, pos := "law.go:67", after := #[{ on := 10, ground := Ground.data }, { on := 6, ground := Ground.guard }], guard := some (6, false) }) (v := ?hv51) rfl (by kernel_rfl) (by kernel_rfl) (by kernel_rfl) (fun _ _ _ h => h) (Or.inl ⟨by rfl, ?hy51⟩) (by assumption) ?_
        case hy51 => ((intro w hSw); (try dsimp only at hSw); go_simp; (try with_reducible rfl))
        try simp only [Act.put, List.setIfInBounds_toArray, List.set_cons_zero, List.set_cons_succ]
        refine wpAnyH_take (i := 12) (oi := { dst := some 39, op := Op.move (Operand.tmp 0), type := 3, pos := "law.go:67", after := #[{ on := 6, ground := Ground.guard }], guard := some (6, false) }) (v := ?hv52) rfl (by kernel_rfl) (by kernel_rfl) (by kernel_rfl) (fun _ _ _ h => h) (Or.inl ⟨by rfl, ?hy52⟩) (by assumption) ?_
        case hy52 => ((intro w hSw); (try dsimp only at hSw); go_simp; (try with_reducible rfl))
        try simp only [Act.put, List.setIfInBounds_toArray, List.set_cons_zero, List.set_cons_succ]
        refine wpAnyH_take (i := 13) (oi := { dst := some 40, op := Op.binOp BinOp.neq 3 (Operand.tmp 38) (Operand.tmp 39) 3, type := 4, pos := "law.go:67", after := #[{ on := 11, ground := Ground.data }, { on := 12, ground := Ground.data }, { on := 6, ground := Ground.guard }], guard := some (6, false) }) (v := ?hv53) rfl (by kernel_rfl) (by kernel_rfl) (by kernel_rfl) (fun _ _ _ h => h) (Or.inl ⟨by rfl, ?hy53⟩) (by assumption) ?_
        case hy53 => ((intro w hSw); (try dsimp only at hSw); go_simp; (try with_reducible rfl))
        try simp only [Act.put, List.setIfInBounds_toArray, List.set_cons_zero, List.set_cons_succ]
        refine wpAnyH_take (i := 14) (oi := { dst := some 41, op := Op.pick (Operand.tmp 33) (Operand.const (Value.bool true)) (Operand.tmp 40), type := 4, pos := "law.go:67", after := #[{ on := 6, ground := Ground.data }, { on := 13, ground := Ground.data }], guard := none }) (v := ?hv54) rfl (by kernel_rfl) (by kernel_rfl) (by kernel_rfl) (fun _ _ _ h => h) (Or.inl ⟨by rfl, ?hy54⟩) (by assumption) ?_
        case hy54 => ((intro w hSw); (try dsimp only at hSw); go_simp; (try with_reducible rfl))
        try simp only [Act.put, List.setIfInBounds_toArray, List.set_cons_zero, List.set_cons_succ]
        refine wpAnyH_take (i := 15) (oi := { dst := some 42, op := Op.move (Operand.tmp 41), type := 4, pos := "law.go:67", after := #[{ on := 14, ground := Ground.data }, { on := 6, ground := Ground.chain }], guard := none }) (v := ?hv55) rfl (by kernel_rfl) (by kernel_rfl) (by kernel_rfl) (fun _ _ _ h => h) (Or.inl ⟨by rfl, ?hy55⟩) (by assumption) ?_
        case hy55 => ((intro w hSw); (try dsimp only at hSw); go_simp; (try with_reducible rfl))
        try simp only [Act.put, List.setIfInBounds_toArray, List.set_cons_zero, List.set_cons_succ]
        refine wpAnyH_take (i := 16) (oi := { dst := some 43, op := Op.move (Operand.tmp 6), type := 3, pos := "law.go:67", after := #[{ on := 15, ground := Ground.guard }], guard := some (15, false) }) (v := ?hv56) rfl (by kernel_rfl) (by kernel_rfl) (by kernel_rfl) (fun _ _ _ h => h) (Or.inl ⟨by rfl, ?hy56⟩) (by assumption) ?_
        case hy56 => ((intro w hSw); (try dsimp only at hSw); go_simp; (try with_reducible rfl))
        try simp only [Act.put, List.setIfInBounds_toArray, List.set_cons_zero, List.set_cons_succ]
        refine wpAnyH_take (i := 17) (oi := { dst := some 44, op := Op.binOp BinOp.gtr 3 (Operand.tmp 43) (Operand.const (Value.int IntKind.i64 0)) 3, type := 4, pos := "law.go:67", after := #[{ on := 16, ground := Ground.data }, { on := 15, ground := Ground.guard }], guard := some (15, false) }) (v := ?hv57) rfl (by kernel_rfl) (by kernel_rfl) (by kernel_rfl) (fun _ _ _ h => h) (Or.inl ⟨by rfl, ?hy57⟩) (by assumption) ?_
        case hy57 => ((intro w hSw); (try dsimp only at hSw); go_simp; (try with_reducible rfl))
        try simp only [Act.put, List.setIfInBounds_toArray, List.set_cons_zero, List.set_cons_succ]
        refine wpAnyH_take (i := 18) (oi := { dst := some 45, op := Op.move (Operand.tmp 44), type := 4, pos := "law.go:67", after := #[{ on := 17, ground := Ground.data }, { on := 15, ground := Ground.chain }, { on := 15, ground := Ground.guard }], guard := some (15, false) }) (v := ?hv58) rfl (by kernel_rfl) (by kernel_rfl) (by kernel_rfl) (fun _ _ _ h => h) (Or.inl ⟨by rfl, ?hy58⟩) (by assumption) ?_
        case hy58 => ((intro w hSw); (try dsimp only at hSw); go_simp; (try with_reducible rfl))
        try simp only [Act.put, List.setIfInBounds_toArray, List.set_cons_zero, List.set_cons_succ]
        refine wpAnyH_take (i := 19) (oi := { dst := some 46, op := Op.move (Operand.tmp 4), type := 23, pos := "law.go:67", after := #[{ on := 18, ground := Ground.guard }], guard := some (18, true) }) (v := undef) rfl (by kernel_rfl) (by kernel_rfl) (by kernel_rfl) (fun _ _ _ h => h) (Or.inr ⟨by rfl, rfl⟩) (by assumption) ?_
        try simp only [Act.put, List.setIfInBounds_toArray, List.set_cons_zero, List.set_cons_succ]
        refine wpAnyH_take (i := 20) (oi := { dst := some 47, op := Op.move (Operand.tmp 6), type := 3, pos := "law.go:67", after := #[{ on := 18, ground := Ground.guard }], guard := some (18, true) }) (v := undef) rfl (by kernel_rfl) (by kernel_rfl) (by kernel_rfl) (fun _ _ _ h => h) (Or.inr ⟨by rfl, rfl⟩) (by assumption) ?_
        try simp only [Act.put, List.setIfInBounds_toArray, List.set_cons_zero, List.set_cons_succ]
        refine wpAnyH_take (i := 21) (oi := { dst := some 48, op := Op.binOp BinOp.sub 3 (Operand.tmp 47) (Operand.const (Value.int IntKind.i64 1)) 3, type := 3, pos := "law.go:67", after := #[{ on := 20, ground := Ground.data }, { on := 18, ground := Ground.guard }], guard := some (18, true) }) (v := undef) rfl (by kernel_rfl) (by kernel_rfl) (by kernel_rfl) (fun _ _ _ h => h) (Or.inr ⟨by rfl, rfl⟩) (by assumption) ?_
        try simp only [Act.put, List.setIfInBounds_toArray, List.set_cons_zero, List.set_cons_succ]
        refine wpAnyH_take (i := 22) (oi := { dst := some 49, op := Op.indexAddr 23 (Operand.tmp 46) (Operand.tmp 48), type := 0, pos := "law.go:67", after := #[{ on := 19, ground := Ground.data }, { on := 21, ground := Ground.data }, { on := 18, ground := Ground.guard }], guard := some (18, true) }) (v := undef) rfl (by kernel_rfl) (by kernel_rfl) (by kernel_rfl) (fun _ _ _ h => h) (Or.inr ⟨by rfl, rfl⟩) (by assumption) ?_
        try simp only [Act.put, List.setIfInBounds_toArray, List.set_cons_zero, List.set_cons_succ]
        refine wpAnyH_take (i := 23) (oi := { dst := some 50, op := Op.load 27 (Operand.tmp 49), type := 27, pos := "law.go:67", after := #[{ on := 22, ground := Ground.data }, { on := 18, ground := Ground.guard }], guard := some (18, true) }) (v := undef) rfl (by kernel_rfl) (by kernel_rfl) (by kernel_rfl) (fun _ _ _ h => h) (Or.inr ⟨by rfl, rfl⟩) (by assumption) ?_
        try simp only [Act.put, List.setIfInBounds_toArray, List.set_cons_zero, List.set_cons_succ]
        refine wpAnyH_take (i := 24) (oi := { dst := some 51, op := Op.move (Operand.tmp 4), type := 23, pos := "law.go:67", after := #[{ on := 18, ground := Ground.guard }], guard := some (18, true) }) (v := undef) rfl (by kernel_rfl) (by kernel_rfl) (by kernel_rfl) (fun _ _ _ h => h) (Or.inr ⟨by rfl, rfl⟩) (by assumption) ?_
        try simp only [Act.put, List.setIfInBounds_toArray, List.set_cons_zero, List.set_cons_succ]
        refine wpAnyH_take (i := 25) (oi := { dst := some 52, op := Op.move (Operand.tmp 6), type := 3, pos := "law.go:67", after := #[{ on := 18, ground := Ground.guard }], guard := some (18, true) }) (v := undef) rfl (by kernel_rfl) (by kernel_rfl) (by kernel_rfl) (fun _ _ _ h => h) (Or.inr ⟨by rfl, rfl⟩) (by assumption) ?_
        try simp only [Act.put, List.setIfInBounds_toArray, List.set_cons_zero, List.set_cons_succ]
        refine wpAnyH_take (i := 26) (oi := { dst := some 53, op := Op.indexAddr 23 (Operand.tmp 51) (Operand.tmp 52), type := 0, pos := "law.go:67", after := #[{ on := 24, ground := Ground.data }, { on := 25, ground := Ground.data }, { on := 18, ground := Ground.guard }], guard := some (18, true) }) (v := undef) rfl (by kernel_rfl) (by kernel_rfl) (by kernel_rfl) (fun _ _ _ h => h) (Or.inr ⟨by rfl, rfl⟩) (by assumption) ?_
        try simp only [Act.put, List.setIfInBounds_toArray, List.set_cons_zero, List.set_cons_succ]
        refine wpAnyH_take (i := 27) (oi := { dst := some 54, op := Op.load 27 (Operand.tmp 53), type := 27, pos := "law.go:67", after := #[{ on := 26, ground := Ground.data }, { on := 18, ground := Ground.guard }], guard := some (18, true) }) (v := undef) rfl (by kernel_rfl) (by kernel_rfl) (by kernel_rfl) (fun _ _ _ h => h) (Or.inr ⟨by rfl, rfl⟩) (by assumption) ?_
        try simp only [Act.put, List.setIfInBounds_toArray, List.set_cons_zero, List.set_cons_succ]
        refine wpAnyH_take (i := 28) (oi := { dst := some 55, op := Op.call { callee := Callee.value (Operand.func 10), args := #[Operand.tmp 50, Operand.tmp 54], argTypes := #[27, 27] }, type := 4, pos := "law.go:67", after := #[{ on := 23, ground := Ground.data }, { on := 27, ground := Ground.data }, { on := 18, ground := Ground.chain }, { on := 18, ground := Ground.guard }], guard := some (18, true) }) (v := undef) rfl (by kernel_rfl) (by kernel_rfl) (by kernel_rfl) (fun _ _ _ h => h) (Or.inr ⟨by rfl, rfl⟩) (by assumption) ?_
        try simp only [Act.put, List.setIfInBounds_toArray, List.set_cons_zero, List.set_cons_succ]
        refine wpAnyH_take (i := 29) (oi := { dst := some 56, op := Op.pick (Operand.tmp 45) (Operand.tmp 55) (Operand.const (Value.bool false)), type := 4, pos := "law.go:67", after := #[{ on := 18, ground := Ground.data }, { on := 28, ground := Ground.data }, { on := 15, ground := Ground.guard }], guard := some (15, false) }) (v := ?hv59) rfl (by kernel_rfl) (by kernel_rfl) (by kernel_rfl) (fun _ _ _ h => h) (Or.inl ⟨by rfl, ?hy59⟩) (by assumption) ?_
        case hy59 => ((intro w hSw); (try dsimp only at hSw); go_simp; (try with_reducible rfl))
        try simp only [Act.put, List.setIfInBounds_toArray, List.set_cons_zero, List.set_cons_succ]
        refine wpAnyH_take (i := 30) (oi := { dst := some 57, op := Op.pick (Operand.tmp 42) (Operand.const (Value.bool true)) (Operand.tmp 56), type := 4, pos := "law.go:67", after := #[{ on := 15, ground := Ground.data }, { on := 29, ground := Ground.data }], guard := none }) (v := ?hv60) rfl (by kernel_rfl) (by kernel_rfl) (by kernel_rfl) (fun _ _ _ h => h) (Or.inl ⟨by rfl, ?hy60⟩) (by assumption) ?_
        case hy60 => ((intro w hSw); (try dsimp only at hSw); go_simp; (try with_reducible rfl))
        try simp only [Act.put, List.setIfInBounds_toArray, List.set_cons_zero, List.set_cons_succ]
        refine wpAnyH_done (by kernel_rfl) ?_ _
        have bw' : Below wr.heap.size wr wa := (Below.drew (Below.refl _ wr)).trans bw
        have R1' := Lib.hid (HR.out.below bw' (Nat.le_refl _))
        have HB' := Lib.hid (HB.out.trans (bw'.mono zB))
        clear bw bw' e0 e1 e2 e3 e4
        go_wp2_with fail
        go_roundw
        case rel => exact ⟨1, by omega, by go_num, R1'.out, HB'.out⟩
        case measure => simp [intOf]
      · obtain ⟨j, rfl⟩ : ∃ j, k = j + 1 := ⟨k - 1, by omega⟩
        obtain ⟨q, hq⟩ : ∃ q, (allP 3)[j]? = some q := ⟨_, List.getElem?_eq_getElem (by rw [HN.out]; omega)⟩
        have HS := Lib.hid (adj_at HJ.out hq hr)
        obtain ⟨qm, _⟩ := all_mem (List.mem_of_getElem? hq)
        obtain ⟨b', o', hbo, _, f0, f1, f2, f3, f4⟩ := HR.out.at_ hq
        obtain ⟨rfl, rfl⟩ : b' = b ∧ o' = o := by injection hbo with h; injection h with h1 h2; exact ⟨h1.symm, h2.symm⟩
        clear hr rv hq hbo
        have CS := Lib.hid (fun w => sameRate1_any q r w)
        rw [HS.out] at CS
        rw [rm] at e0 CV CS
        rw [qm] at f0 CS
        clear rm qm HS
        rw [show (((j + 1 : Nat)) : Int) = (j : Int) + 1 from rfl]
        have x1 : IntKind.i64.wrap ((j : Int) + 1 - 1) = (j : Int) := by rw [IntWalk.i64_in _ (by omega)]; omega
        have x2 : ((j : Int) + 1).toNat = j + 1 := by omega
        have x3 : decide (0 < (j : Int) + 1) = true := decide_eq_true (by omega)
        have x4 : ((j : Int)).toNat = j := by omega
        have x5 : IntKind.i64.wrap (j : Int) = (j : Int) := IntWalk.i64_in _ (by omega)
        have y1 : (0 : Int) ≤ (j : Int) + 1 := by omega
        have y2 : (j : Int) + 1 < 640 := by omega
        have y3 : (0 : Int) ≤ (j : Int) := by omega
        have y4 : (j : Int) < 640 := by omega
        go_wp2_with fail
        go_region_held3 (fun y => y.cell? ⟨b', o' + (j + 1) * 5, none⟩ = some (.int .i64 3) ∧ y.cell? ⟨b', o' + (j + 1) * 5 + 1, none⟩ = some (.int .i64 r.c) ∧ y.cell? ⟨b', o' + (j + 1) * 5 + 2, none⟩ = some (.int .i64 r.s) ∧ y.cell? ⟨b', o' + (j + 1) * 5 + 3, none⟩ = some (.int .i64 r.w) ∧ y.cell? ⟨b', o' + (j + 1) * 5 + 4, none⟩ = some (.int .i64 r.g) ∧ y.cell? ⟨b', o' + j * 5, none⟩ = some (.int .i64 3) ∧ y.cell? ⟨b', o' + j * 5 + 1, none⟩ = some (.int .i64 q.c) ∧ y.cell? ⟨b', o' + j * 5 + 2, none⟩ = some (.int .i64 q.s) ∧ y.cell? ⟨b', o' + j * 5 + 3, none⟩ = some (.int .i64 q.w) ∧ y.cell? ⟨b', o' + j * 5 + 4, none⟩ = some (.int .i64 q.g))
          (first | exact ⟨e0, e1, e2, e3, e4, f0, f1, f2, f3, f4⟩ | exact ⟨(bw.cell (p := ⟨b', _, none⟩) l1).trans e0, (bw.cell (p := ⟨b', _, none⟩) l1).trans e1, (bw.cell (p := ⟨b', _, none⟩) l1).trans e2, (bw.cell (p := ⟨b', _, none⟩) l1).trans e3, (bw.cell (p := ⟨b', _, none⟩) l1).trans e4, (bw.cell (p := ⟨b', _, none⟩) l1).trans f0, (bw.cell (p := ⟨b', _, none⟩) l1).trans f1, (bw.cell (p := ⟨b', _, none⟩) l1).trans f2, (bw.cell (p := ⟨b', _, none⟩) l1).trans f3, (bw.cell (p := ⟨b', _, none⟩) l1).trans f4⟩ | exact ⟨(bz.cell (p := ⟨b', _, none⟩) l1).trans e0, (bz.cell (p := ⟨b', _, none⟩) l1).trans e1, (bz.cell (p := ⟨b', _, none⟩) l1).trans e2, (bz.cell (p := ⟨b', _, none⟩) l1).trans e3, (bz.cell (p := ⟨b', _, none⟩) l1).trans e4, (bz.cell (p := ⟨b', _, none⟩) l1).trans f0, (bz.cell (p := ⟨b', _, none⟩) l1).trans f1, (bz.cell (p := ⟨b', _, none⟩) l1).trans f2, (bz.cell (p := ⟨b', _, none⟩) l1).trans f3, (bz.cell (p := ⟨b', _, none⟩) l1).trans f4⟩)
          (first
            | (go_at_call 9; refine (CV.out _).mono ?_; rintro e wa ⟨rfl, bw⟩)
            | (go_at_call 10; refine (CS.out _).mono ?_; rintro e wb ⟨rfl, by0⟩; have bz := bw.trans (by0.mono bw.size)))
        have bw' : Below wr.heap.size wr wb := (Below.drew (Below.refl _ wr)).trans bz
        have R1' := Lib.hid (HR.out.below bw' (Nat.le_refl _))
        have HB' := Lib.hid (HB.out.trans (bw'.mono zB))
        clear bw bw' by0 bz e0 e1 e2 e3 e4 f0 f1 f2 f3 f4 x1 x2 x3 x4 x5 y1 y2 y3 y4
        go_wp2_with fail
        go_roundw
        case rel => exact ⟨j + 1 + 1, by omega, by go_num, R1'.out, HB'.out⟩
        case measure => simp [intOf]; omega
    · obtain rfl : k = 640 := by omega
      go_wp2_with fail
      go_ret
      exact ⟨rfl, HB.out⟩

set_option maxHeartbeats 4000000 in
theorem rateMany_4 (w : World) :
    Calls Try.prog 3 #[.int .i64 4] w fun e w' => e = .returned (.bool true) ∧ Below w.heap.size w w' := by
  have HN := Lib.hid (show (allP 4).length = 1152 from all_len 4)
  have HJ := Lib.hid (all_adj 4)
  go_enter Try.func3, Try.ntmps3
  go_wp2_with fail
  refine (rfirst_any _).mono ?_
  rintro e w1 ⟨rfl, hb1⟩
  have zB1 := hb1.size
  go_wp2_with fail
  refine (all_any 4 _).mono ?_
  rintro e w2 ⟨v, rfl, ho, hb2⟩
  obtain ⟨A, n, C, rfl, hr⟩ := ho.row
  have HB2 := Lib.hid (hb1.trans (hb2.mono zB1))
  clear hb1 hb2 ho zB1
  obtain rfl : n = 1152 := hr.1.trans HN.out
  have HR := Lib.hid hr
  clear hr
  go_wp2_with fail
  go_loopw [6] (fun i wr => ∃ k : Nat, k ≤ 1152 ∧ i = .int .i64 k ∧ RowR wr A 1152 C (allP 4) ∧ Below w.heap.size w wr) (fun i _ => 1152 - (intOf i).toNat)
  case atStart => exact ⟨0, Nat.zero_le _, rfl, HR.out, HB2.out⟩
  case round =>
    obtain ⟨k, hk, rfl, hr, hb⟩ := hrel
    have HR := Lib.hid hr
    have HB := Lib.hid hb
    clear hr hb HB2
    have zB := HB.out.size
    by_cases hkn : k < 1152
    · obtain ⟨r, hr⟩ : ∃ r, (allP 4)[k]? = some r := ⟨_, List.getElem?_eq_getElem (by rw [HN.out]; exact hkn)⟩
      obtain ⟨rm, rv⟩ := all_mem (List.mem_of_getElem? hr)
      have CV := Lib.hid (fun w => valid_any r w)
      rw [rv] at CV
      obtain ⟨b, o, rfl, l1, e0, e1, e2, e3, e4⟩ := HR.out.at_ hr
      rcases Nat.eq_zero_or_pos k with hk0 | hk0
      · subst hk0
        clear hr rv
        rw [rm] at e0 CV
        clear rm
        rw [Nat.zero_mul, Nat.add_zero] at e0 e1 e2 e3 e4
        rw [show (((0 : Nat)) : Int) = 0 from rfl]
        have x3 : decide ((0 : Int) < 0) = false := by decide
        go_wp2_with fail
        refine wp_region_held_drew (S := (fun y => y.cell? ⟨b, o, none⟩ = some (.int .i64 4) ∧ y.cell? ⟨b, o + 1, none⟩ = some (.int .i64 r.c) ∧ y.cell? ⟨b, o + 2, none⟩ = some (.int .i64 r.s) ∧ y.cell? ⟨b, o + 3, none⟩ = some (.int .i64 r.w) ∧ y.cell? ⟨b, o + 4, none⟩ = some (.int .i64 r.g))) (by kernel_rfl) ?_ (fun hHeld => ?_)
        · (try dsimp only); exact ⟨e0, e1, e2, e3, e4⟩
        refine wpAnyH_take (i := 0) (oi := { dst := some 27, op := Op.move (Operand.tmp 4), type := 23, pos := "law.go:67", after := #[], guard := none }) (v := ?hv61) rfl (by kernel_rfl) (by kernel_rfl) (by kernel_rfl) (fun _ _ _ h => h) (Or.inl ⟨by rfl, ?hy61⟩) (by assumption) ?_
        case hy61 => ((intro w hSw); (try dsimp only at hSw); go_simp; (try with_reducible rfl))
        try simp only [Act.put, List.setIfInBounds_toArray, List.set_cons_zero, List.set_cons_succ]
        refine wpAnyH_take (i := 1) (oi := { dst := some 28, op := Op.move (Operand.tmp 6), type := 3, pos := "law.go:67", after := #[], guard := none }) (v := ?hv62) rfl (by kernel_rfl) (by kernel_rfl) (by kernel_rfl) (fun _ _ _ h => h) (Or.inl ⟨by rfl, ?hy62⟩) (by assumption) ?_
        case hy62 => ((intro w hSw); (try dsimp only at hSw); go_simp; (try with_reducible rfl))
        try simp only [Act.put, List.setIfInBounds_toArray, List.set_cons_zero, List.set_cons_succ]
        refine wpAnyH_take (i := 2) (oi := { dst := some 29, op := Op.indexAddr 23 (Operand.tmp 27) (Operand.tmp 28), type := 0, pos := "law.go:67", after := #[{ on := 0, ground := Ground.data }, { on := 1, ground := Ground.data }], guard := none }) (v := ?hv63) rfl (by kernel_rfl) (by kernel_rfl) (by kernel_rfl) (fun _ _ _ h => h) (Or.inl ⟨by rfl, ?hy63⟩) (by assumption) ?_
        case hy63 => ((intro w hSw); (try dsimp only at hSw); go_simp; (try with_reducible rfl))
        try simp only [Act.put, List.setIfInBounds_toArray, List.set_cons_zero, List.set_cons_succ]
        refine wpAnyH_take (i := 3) (oi := { dst := some 30, op := Op.load 27 (Operand.tmp 29), type := 27, pos := "law.go:67", after := #[{ on := 2, ground := Ground.data }], guard := none }) (v := ?hv64) rfl (by kernel_rfl) (by kernel_rfl) (by kernel_rfl) (fun _ _ _ h => h) (Or.inl ⟨by rfl, ?hy64⟩) (by assumption) ?_
        case hy64 => ((intro w hSw); (try dsimp only at hSw); go_simp; (try with_reducible rfl))
        try simp only [Act.put, List.setIfInBounds_toArray, List.set_cons_zero, List.set_cons_succ]
        refine wpAnyH_ready (rs := [4]) (by kernel_rfl) (by simp) ?_
        refine AllReadyH.cons (o := { dst := some 31, op := Op.call { callee := Callee.value (Operand.func 9), args := #[Operand.tmp 30], argTypes := #[27] }, type := 4, pos := "law.go:67", after := #[{ on := 3, ground := Ground.data }], guard := none }) rfl (fun K hK => ?_) AllReadyH.nil
        go_simp
        go_at_call 9; refine (CV.out _).mono ?_; rintro e wa ⟨rfl, bw⟩
        refine hK.out _ _ ?_ (fun hHeld => ?_)
        · (try dsimp only); exact ⟨(bw.cell (p := ⟨b, _, none⟩) l1).trans e0, (bw.cell (p := ⟨b, _, none⟩) l1).trans e1, (bw.cell (p := ⟨b, _, none⟩) l1).trans e2, (bw.cell (p := ⟨b, _, none⟩) l1).trans e3, (bw.cell (p := ⟨b, _, none⟩) l1).trans e4⟩
        clear hK K
        try simp only [Act.put, List.setIfInBounds_toArray, List.set_cons_zero, List.set_cons_succ]
        refine wpAnyH_take (i := 5) (oi := { dst := some 32, op := Op.unOp UnOp.not 4 (Operand.tmp 31), type := 4, pos := "law.go:67", after := #[{ on := 4, ground := Ground.data }], guard := none }) (v := ?hv65) rfl (by kernel_rfl) (by kernel_rfl) (by kernel_rfl) (fun _ _ _ h => h) (Or.inl ⟨by rfl, ?hy65⟩) (by assumption) ?_
        case hy65 => ((intro w hSw); (try dsimp only at hSw); go_simp; (try with_reducible rfl))
        try simp only [Act.put, List.setIfInBounds_toArray, List.set_cons_zero, List.set_cons_succ]
        refine wpAnyH_take (i := 6) (oi := { dst := some 33, op := Op.move (Operand.tmp 32), type := 4, pos := "law.go:67", after := #[{ on := 5, ground := Ground.data }, { on := 4, ground := Ground.chain }], guard := none }) (v := ?hv66) rfl (by kernel_rfl) (by kernel_rfl) (by kernel_rfl) (fun _ _ _ h => h) (Or.inl ⟨by rfl, ?hy66⟩) (by assumption) ?_
        case hy66 => ((intro w hSw); (try dsimp only at hSw); go_simp; (try with_reducible rfl))
        try simp only [Act.put, List.setIfInBounds_toArray, List.set_cons_zero, List.set_cons_succ]
        refine wpAnyH_take (i := 7) (oi := { dst := some 34, op := Op.move (Operand.tmp 4), type := 23, pos := "law.go:67", after := #[{ on := 6, ground := Ground.guard }], guard := some (6, false) }) (v := ?hv67) rfl (by kernel_rfl) (by kernel_rfl) (by kernel_rfl) (fun _ _ _ h => h) (Or.inl ⟨by rfl, ?hy67⟩) (by assumption) ?_
        case hy67 => ((intro w hSw); (try dsimp only at hSw); go_simp; (try with_reducible rfl))
        try simp only [Act.put, List.setIfInBounds_toArray, List.set_cons_zero, List.set_cons_succ]
        refine wpAnyH_take (i := 8) (oi := { dst := some 35, op := Op.move (Operand.tmp 6), type := 3, pos := "law.go:67", after := #[{ on := 6, ground := Ground.guard }], guard := some (6, false) }) (v := ?hv68) rfl (by kernel_rfl) (by kernel_rfl) (by kernel_rfl) (fun _ _ _ h => h) (Or.inl ⟨by rfl, ?hy68⟩) (by assumption) ?_
        case hy68 => ((intro w hSw); (try dsimp only at hSw); go_simp; (try with_reducible rfl))
        try simp only [Act.put, List.setIfInBounds_toArray, List.set_cons_zero, List.set_cons_succ]
        refine wpAnyH_take (i := 9) (oi := { dst := some 36, op := Op.indexAddr 23 (Operand.tmp 34) (Operand.tmp 35), type := 0, pos := "law.go:67", after := #[{ on := 7, ground := Ground.data }, { on := 8, ground := Ground.data }, { on := 6, ground := Ground.guard }], guard := some (6, false) }) (v := ?hv69) rfl (by kernel_rfl) (by kernel_rfl) (by kernel_rfl) (fun _ _ _ h => h) (Or.inl ⟨by rfl, ?hy69⟩) (by assumption) ?_
        case hy69 => ((intro w hSw); (try dsimp only at hSw); go_simp; (try with_reducible rfl))
        try simp only [Act.put, List.setIfInBounds_toArray, List.set_cons_zero, List.set_cons_succ]
        refine wpAnyH_take (i := 10) (oi := { dst := some 37, op := Op.fieldAddr 27 (Operand.tmp 36) 0, type := 0, pos := "law.go:67", after := #[{ on := 9, ground := Ground.data }, { on := 6, ground := Ground.guard }], guard := some (6, false) }) (v := ?hv70) rfl (by kernel_rfl) (by kernel_rfl) (by kernel_rfl) (fun _ _ _ h => h) (Or.inl ⟨by rfl, ?hy70⟩) (by assumption) ?_
        case hy70 => ((intro w hSw); (try dsimp only at hSw); go_simp; (try with_reducible rfl))
        try simp only [Act.put, List.setIfInBounds_toArray, List.set_cons_zero, List.set_cons_succ]
        refine wpAnyH_take (i := 11) (oi := { dst := some 38, op := Op.load 3 (Operand.tmp 37), type := 3, pos := "law.go:67", after := #[{ on := 10, ground := Ground.data }, { on := 6, ground := Ground.guard }], guard := some (6, false) }) (v := ?hv71) rfl (by kernel_rfl) (by kernel_rfl) (by kernel_rfl) (fun _ _ _ h => h) (Or.inl ⟨by rfl, ?hy71⟩) (by assumption) ?_
        case hy71 => ((intro w hSw); (try dsimp only at hSw); go_simp; (try with_reducible rfl))
        try simp only [Act.put, List.setIfInBounds_toArray, List.set_cons_zero, List.set_cons_succ]
        refine wpAnyH_take (i := 12) (oi := { dst := some 39, op := Op.move (Operand.tmp 0), type := 3, pos := "law.go:67", after := #[{ on := 6, ground := Ground.guard }], guard := some (6, false) }) (v := ?hv72) rfl (by kernel_rfl) (by kernel_rfl) (by kernel_rfl) (fun _ _ _ h => h) (Or.inl ⟨by rfl, ?hy72⟩) (by assumption) ?_
        case hy72 => ((intro w hSw); (try dsimp only at hSw); go_simp; (try with_reducible rfl))
        try simp only [Act.put, List.setIfInBounds_toArray, List.set_cons_zero, List.set_cons_succ]
        refine wpAnyH_take (i := 13) (oi := { dst := some 40, op := Op.binOp BinOp.neq 3 (Operand.tmp 38) (Operand.tmp 39) 3, type := 4, pos := "law.go:67", after := #[{ on := 11, ground := Ground.data }, { on := 12, ground := Ground.data }, { on := 6, ground := Ground.guard }], guard := some (6, false) }) (v := ?hv73) rfl (by kernel_rfl) (by kernel_rfl) (by kernel_rfl) (fun _ _ _ h => h) (Or.inl ⟨by rfl, ?hy73⟩) (by assumption) ?_
        case hy73 => ((intro w hSw); (try dsimp only at hSw); go_simp; (try with_reducible rfl))
        try simp only [Act.put, List.setIfInBounds_toArray, List.set_cons_zero, List.set_cons_succ]
        refine wpAnyH_take (i := 14) (oi := { dst := some 41, op := Op.pick (Operand.tmp 33) (Operand.const (Value.bool true)) (Operand.tmp 40), type := 4, pos := "law.go:67", after := #[{ on := 6, ground := Ground.data }, { on := 13, ground := Ground.data }], guard := none }) (v := ?hv74) rfl (by kernel_rfl) (by kernel_rfl) (by kernel_rfl) (fun _ _ _ h => h) (Or.inl ⟨by rfl, ?hy74⟩) (by assumption) ?_
        case hy74 => ((intro w hSw); (try dsimp only at hSw); go_simp; (try with_reducible rfl))
        try simp only [Act.put, List.setIfInBounds_toArray, List.set_cons_zero, List.set_cons_succ]
        refine wpAnyH_take (i := 15) (oi := { dst := some 42, op := Op.move (Operand.tmp 41), type := 4, pos := "law.go:67", after := #[{ on := 14, ground := Ground.data }, { on := 6, ground := Ground.chain }], guard := none }) (v := ?hv75) rfl (by kernel_rfl) (by kernel_rfl) (by kernel_rfl) (fun _ _ _ h => h) (Or.inl ⟨by rfl, ?hy75⟩) (by assumption) ?_
        case hy75 => ((intro w hSw); (try dsimp only at hSw); go_simp; (try with_reducible rfl))
        try simp only [Act.put, List.setIfInBounds_toArray, List.set_cons_zero, List.set_cons_succ]
        refine wpAnyH_take (i := 16) (oi := { dst := some 43, op := Op.move (Operand.tmp 6), type := 3, pos := "law.go:67", after := #[{ on := 15, ground := Ground.guard }], guard := some (15, false) }) (v := ?hv76) rfl (by kernel_rfl) (by kernel_rfl) (by kernel_rfl) (fun _ _ _ h => h) (Or.inl ⟨by rfl, ?hy76⟩) (by assumption) ?_
        case hy76 => ((intro w hSw); (try dsimp only at hSw); go_simp; (try with_reducible rfl))
        try simp only [Act.put, List.setIfInBounds_toArray, List.set_cons_zero, List.set_cons_succ]
        refine wpAnyH_take (i := 17) (oi := { dst := some 44, op := Op.binOp BinOp.gtr 3 (Operand.tmp 43) (Operand.const (Value.int IntKind.i64 0)) 3, type := 4, pos := "law.go:67", after := #[{ on := 16, ground := Ground.data }, { on := 15, ground := Ground.guard }], guard := some (15, false) }) (v := ?hv77) rfl (by kernel_rfl) (by kernel_rfl) (by kernel_rfl) (fun _ _ _ h => h) (Or.inl ⟨by rfl, ?hy77⟩) (by assumption) ?_
        case hy77 => ((intro w hSw); (try dsimp only at hSw); go_simp; (try with_reducible rfl))
        try simp only [Act.put, List.setIfInBounds_toArray, List.set_cons_zero, List.set_cons_succ]
        refine wpAnyH_take (i := 18) (oi := { dst := some 45, op := Op.move (Operand.tmp 44), type := 4, pos := "law.go:67", after := #[{ on := 17, ground := Ground.data }, { on := 15, ground := Ground.chain }, { on := 15, ground := Ground.guard }], guard := some (15, false) }) (v := ?hv78) rfl (by kernel_rfl) (by kernel_rfl) (by kernel_rfl) (fun _ _ _ h => h) (Or.inl ⟨by rfl, ?hy78⟩) (by assumption) ?_
        case hy78 => ((intro w hSw); (try dsimp only at hSw); go_simp; (try with_reducible rfl))
        try simp only [Act.put, List.setIfInBounds_toArray, List.set_cons_zero, List.set_cons_succ]
        refine wpAnyH_take (i := 19) (oi := { dst := some 46, op := Op.move (Operand.tmp 4), type := 23, pos := "law.go:67", after := #[{ on := 18, ground := Ground.guard }], guard := some (18, true) }) (v := undef) rfl (by kernel_rfl) (by kernel_rfl) (by kernel_rfl) (fun _ _ _ h => h) (Or.inr ⟨by rfl, rfl⟩) (by assumption) ?_
        try simp only [Act.put, List.setIfInBounds_toArray, List.set_cons_zero, List.set_cons_succ]
        refine wpAnyH_take (i := 20) (oi := { dst := some 47, op := Op.move (Operand.tmp 6), type := 3, pos := "law.go:67", after := #[{ on := 18, ground := Ground.guard }], guard := some (18, true) }) (v := undef) rfl (by kernel_rfl) (by kernel_rfl) (by kernel_rfl) (fun _ _ _ h => h) (Or.inr ⟨by rfl, rfl⟩) (by assumption) ?_
        try simp only [Act.put, List.setIfInBounds_toArray, List.set_cons_zero, List.set_cons_succ]
        refine wpAnyH_take (i := 21) (oi := { dst := some 48, op := Op.binOp BinOp.sub 3 (Operand.tmp 47) (Operand.const (Value.int IntKind.i64 1)) 3, type := 3, pos := "law.go:67", after := #[{ on := 20, ground := Ground.data }, { on := 18, ground := Ground.guard }], guard := some (18, true) }) (v := undef) rfl (by kernel_rfl) (by kernel_rfl) (by kernel_rfl) (fun _ _ _ h => h) (Or.inr ⟨by rfl, rfl⟩) (by assumption) ?_
        try simp only [Act.put, List.setIfInBounds_toArray, List.set_cons_zero, List.set_cons_succ]
        refine wpAnyH_take (i := 22) (oi := { dst := some 49, op := Op.indexAddr 23 (Operand.tmp 46) (Operand.tmp 48), type := 0, pos := "law.go:67", after := #[{ on := 19, ground := Ground.data }, { on := 21, ground := Ground.data }, { on := 18, ground := Ground.guard }], guard := some (18, true) }) (v := undef) rfl (by kernel_rfl) (by kernel_rfl) (by kernel_rfl) (fun _ _ _ h => h) (Or.inr ⟨by rfl, rfl⟩) (by assumption) ?_
        try simp only [Act.put, List.setIfInBounds_toArray, List.set_cons_zero, List.set_cons_succ]
        refine wpAnyH_take (i := 23) (oi := { dst := some 50, op := Op.load 27 (Operand.tmp 49), type := 27, pos := "law.go:67", after := #[{ on := 22, ground := Ground.data }, { on := 18, ground := Ground.guard }], guard := some (18, true) }) (v := undef) rfl (by kernel_rfl) (by kernel_rfl) (by kernel_rfl) (fun _ _ _ h => h) (Or.inr ⟨by rfl, rfl⟩) (by assumption) ?_
        try simp only [Act.put, List.setIfInBounds_toArray, List.set_cons_zero, List.set_cons_succ]
        refine wpAnyH_take (i := 24) (oi := { dst := some 51, op := Op.move (Operand.tmp 4), type := 23, pos := "law.go:67", after := #[{ on := 18, ground := Ground.guard }], guard := some (18, true) }) (v := undef) rfl (by kernel_rfl) (by kernel_rfl) (by kernel_rfl) (fun _ _ _ h => h) (Or.inr ⟨by rfl, rfl⟩) (by assumption) ?_
        try simp only [Act.put, List.setIfInBounds_toArray, List.set_cons_zero, List.set_cons_succ]
        refine wpAnyH_take (i := 25) (oi := { dst := some 52, op := Op.move (Operand.tmp 6), type := 3, pos := "law.go:67", after := #[{ on := 18, ground := Ground.guard }], guard := some (18, true) }) (v := undef) rfl (by kernel_rfl) (by kernel_rfl) (by kernel_rfl) (fun _ _ _ h => h) (Or.inr ⟨by rfl, rfl⟩) (by assumption) ?_
        try simp only [Act.put, List.setIfInBounds_toArray, List.set_cons_zero, List.set_cons_succ]
        refine wpAnyH_take (i := 26) (oi := { dst := some 53, op := Op.indexAddr 23 (Operand.tmp 51) (Operand.tmp 52), type := 0, pos := "law.go:67", after := #[{ on := 24, ground := Ground.data }, { on := 25, ground := Ground.data }, { on := 18, ground := Ground.guard }], guard := some (18, true) }) (v := undef) rfl (by kernel_rfl) (by kernel_rfl) (by kernel_rfl) (fun _ _ _ h => h) (Or.inr ⟨by rfl, rfl⟩) (by assumption) ?_
        try simp only [Act.put, List.setIfInBounds_toArray, List.set_cons_zero, List.set_cons_succ]
        refine wpAnyH_take (i := 27) (oi := { dst := some 54, op := Op.load 27 (Operand.tmp 53), type := 27, pos := "law.go:67", after := #[{ on := 26, ground := Ground.data }, { on := 18, ground := Ground.guard }], guard := some (18, true) }) (v := undef) rfl (by kernel_rfl) (by kernel_rfl) (by kernel_rfl) (fun _ _ _ h => h) (Or.inr ⟨by rfl, rfl⟩) (by assumption) ?_
        try simp only [Act.put, List.setIfInBounds_toArray, List.set_cons_zero, List.set_cons_succ]
        refine wpAnyH_take (i := 28) (oi := { dst := some 55, op := Op.call { callee := Callee.value (Operand.func 10), args := #[Operand.tmp 50, Operand.tmp 54], argTypes := #[27, 27] }, type := 4, pos := "law.go:67", after := #[{ on := 23, ground := Ground.data }, { on := 27, ground := Ground.data }, { on := 18, ground := Ground.chain }, { on := 18, ground := Ground.guard }], guard := some (18, true) }) (v := undef) rfl (by kernel_rfl) (by kernel_rfl) (by kernel_rfl) (fun _ _ _ h => h) (Or.inr ⟨by rfl, rfl⟩) (by assumption) ?_
        try simp only [Act.put, List.setIfInBounds_toArray, List.set_cons_zero, List.set_cons_succ]
        refine wpAnyH_take (i := 29) (oi := { dst := some 56, op := Op.pick (Operand.tmp 45) (Operand.tmp 55) (Operand.const (Value.bool false)), type := 4, pos := "law.go:67", after := #[{ on := 18, ground := Ground.data }, { on := 28, ground := Ground.data }, { on := 15, ground := Ground.guard }], guard := some (15, false) }) (v := ?hv79) rfl (by kernel_rfl) (by kernel_rfl) (by kernel_rfl) (fun _ _ _ h => h) (Or.inl ⟨by rfl, ?hy79⟩) (by assumption) ?_
        case hy79 => ((intro w hSw); (try dsimp only at hSw); go_simp; (try with_reducible rfl))
        try simp only [Act.put, List.setIfInBounds_toArray, List.set_cons_zero, List.set_cons_succ]
        refine wpAnyH_take (i := 30) (oi := { dst := some 57, op := Op.pick (Operand.tmp 42) (Operand.const (Value.bool true)) (Operand.tmp 56), type := 4, pos := "law.go:67", after := #[{ on := 15, ground := Ground.data }, { on := 29, ground := Ground.data }], guard := none }) (v := ?hv80) rfl (by kernel_rfl) (by kernel_rfl) (by kernel_rfl) (fun _ _ _ h => h) (Or.inl ⟨by rfl, ?hy80⟩) (by assumption) ?_
        case hy80 => ((intro w hSw); (try dsimp only at hSw); go_simp; (try with_reducible rfl))
        try simp only [Act.put, List.setIfInBounds_toArray, List.set_cons_zero, List.set_cons_succ]
        refine wpAnyH_done (by kernel_rfl) ?_ _
        have bw' : Below wr.heap.size wr wa := (Below.drew (Below.refl _ wr)).trans bw
        have R1' := Lib.hid (HR.out.below bw' (Nat.le_refl _))
        have HB' := Lib.hid (HB.out.trans (bw'.mono zB))
        clear bw bw' e0 e1 e2 e3 e4
        go_wp2_with fail
        go_roundw
        case rel => exact ⟨1, by omega, by go_num, R1'.out, HB'.out⟩
        case measure => simp [intOf]
      · obtain ⟨j, rfl⟩ : ∃ j, k = j + 1 := ⟨k - 1, by omega⟩
        obtain ⟨q, hq⟩ : ∃ q, (allP 4)[j]? = some q := ⟨_, List.getElem?_eq_getElem (by rw [HN.out]; omega)⟩
        have HS := Lib.hid (adj_at HJ.out hq hr)
        obtain ⟨qm, _⟩ := all_mem (List.mem_of_getElem? hq)
        obtain ⟨b', o', hbo, _, f0, f1, f2, f3, f4⟩ := HR.out.at_ hq
        obtain ⟨rfl, rfl⟩ : b' = b ∧ o' = o := by injection hbo with h; injection h with h1 h2; exact ⟨h1.symm, h2.symm⟩
        clear hr rv hq hbo
        have CS := Lib.hid (fun w => sameRate1_any q r w)
        rw [HS.out] at CS
        rw [rm] at e0 CV CS
        rw [qm] at f0 CS
        clear rm qm HS
        rw [show (((j + 1 : Nat)) : Int) = (j : Int) + 1 from rfl]
        have x1 : IntKind.i64.wrap ((j : Int) + 1 - 1) = (j : Int) := by rw [IntWalk.i64_in _ (by omega)]; omega
        have x2 : ((j : Int) + 1).toNat = j + 1 := by omega
        have x3 : decide (0 < (j : Int) + 1) = true := decide_eq_true (by omega)
        have x4 : ((j : Int)).toNat = j := by omega
        have x5 : IntKind.i64.wrap (j : Int) = (j : Int) := IntWalk.i64_in _ (by omega)
        have y1 : (0 : Int) ≤ (j : Int) + 1 := by omega
        have y2 : (j : Int) + 1 < 1152 := by omega
        have y3 : (0 : Int) ≤ (j : Int) := by omega
        have y4 : (j : Int) < 1152 := by omega
        go_wp2_with fail
        go_region_held3 (fun y => y.cell? ⟨b', o' + (j + 1) * 5, none⟩ = some (.int .i64 4) ∧ y.cell? ⟨b', o' + (j + 1) * 5 + 1, none⟩ = some (.int .i64 r.c) ∧ y.cell? ⟨b', o' + (j + 1) * 5 + 2, none⟩ = some (.int .i64 r.s) ∧ y.cell? ⟨b', o' + (j + 1) * 5 + 3, none⟩ = some (.int .i64 r.w) ∧ y.cell? ⟨b', o' + (j + 1) * 5 + 4, none⟩ = some (.int .i64 r.g) ∧ y.cell? ⟨b', o' + j * 5, none⟩ = some (.int .i64 4) ∧ y.cell? ⟨b', o' + j * 5 + 1, none⟩ = some (.int .i64 q.c) ∧ y.cell? ⟨b', o' + j * 5 + 2, none⟩ = some (.int .i64 q.s) ∧ y.cell? ⟨b', o' + j * 5 + 3, none⟩ = some (.int .i64 q.w) ∧ y.cell? ⟨b', o' + j * 5 + 4, none⟩ = some (.int .i64 q.g))
          (first | exact ⟨e0, e1, e2, e3, e4, f0, f1, f2, f3, f4⟩ | exact ⟨(bw.cell (p := ⟨b', _, none⟩) l1).trans e0, (bw.cell (p := ⟨b', _, none⟩) l1).trans e1, (bw.cell (p := ⟨b', _, none⟩) l1).trans e2, (bw.cell (p := ⟨b', _, none⟩) l1).trans e3, (bw.cell (p := ⟨b', _, none⟩) l1).trans e4, (bw.cell (p := ⟨b', _, none⟩) l1).trans f0, (bw.cell (p := ⟨b', _, none⟩) l1).trans f1, (bw.cell (p := ⟨b', _, none⟩) l1).trans f2, (bw.cell (p := ⟨b', _, none⟩) l1).trans f3, (bw.cell (p := ⟨b', _, none⟩) l1).trans f4⟩ | exact ⟨(bz.cell (p := ⟨b', _, none⟩) l1).trans e0, (bz.cell (p := ⟨b', _, none⟩) l1).trans e1, (bz.cell (p := ⟨b', _, none⟩) l1).trans e2, (bz.cell (p := ⟨b', _, none⟩) l1).trans e3, (bz.cell (p := ⟨b', _, none⟩) l1).trans e4, (bz.cell (p := ⟨b', _, none⟩) l1).trans f0, (bz.cell (p := ⟨b', _, none⟩) l1).trans f1, (bz.cell (p := ⟨b', _, none⟩) l1).trans f2, (bz.cell (p := ⟨b', _, none⟩) l1).trans f3, (bz.cell (p := ⟨b', _, none⟩) l1).trans f4⟩)
          (first
            | (go_at_call 9; refine (CV.out _).mono ?_; rintro e wa ⟨rfl, bw⟩)
            | (go_at_call 10; refine (CS.out _).mono ?_; rintro e wb ⟨rfl, by0⟩; have bz := bw.trans (by0.mono bw.size)))
        have bw' : Below wr.heap.size wr wb := (Below.drew (Below.refl _ wr)).trans bz
        have R1' := Lib.hid (HR.out.below bw' (Nat.le_refl _))
        have HB' := Lib.hid (HB.out.trans (bw'.mono zB))
        clear bw bw' by0 bz e0 e1 e2 e3 e4 f0 f1 f2 f3 f4 x1 x2 x3 x4 x5 y1 y2 y3 y4
        go_wp2_with fail
        go_roundw
        case rel => exact ⟨j + 1 + 1, by omega, by go_num, R1'.out, HB'.out⟩
        case measure => simp [intOf]; omega
    · obtain rfl : k = 1152 := by omega
      go_wp2_with fail
      go_ret
      exact ⟨rfl, HB.out⟩

set_option maxHeartbeats 4000000 in
theorem rateMany_5 (w : World) (m : Int) (h1 : m ≠ 1) (h2 : m ≠ 2) (h3 : m ≠ 3) (h4 : m ≠ 4) :
    Calls Try.prog 3 #[.int .i64 m] w fun e w' => e = .returned (.bool true) ∧ Below w.heap.size w w' := by
  have HA := Lib.hid (show allP m = [] from all_other h1 h2 h3 h4)
  go_enter Try.func3, Try.ntmps3
  go_wp2_with fail
  refine (rfirst_any _).mono ?_
  rintro e w1 ⟨rfl, hb1⟩
  have zB1 := hb1.size
  go_wp2_with fail
  refine (all_any m _).mono ?_
  rintro e w2 ⟨v, rfl, ho, hb2⟩
  obtain ⟨A, n, C, rfl, hr⟩ := ho.row
  have HB2 := Lib.hid (hb1.trans (hb2.mono zB1))
  clear hb1 hb2 ho zB1
  rw [HA.out] at hr
  obtain rfl : n = 0 := hr.1
  clear hr
  go_wp2_with fail
  go_loopw [6] (fun i wr => i = .int .i64 0 ∧ Below w.heap.size w wr) (fun _ _ => 0)
  case atStart => exact ⟨rfl, HB2.out⟩
  case round =>
    obtain ⟨rfl, hb⟩ := hrel
    have HB := Lib.hid hb
    clear hb
    go_wp2_with fail
    go_ret
    exact ⟨rfl, HB.out⟩

theorem rateMany_walk (w : World) (m : Int) (hm : (Lit.int .i64 m).wf = true) : Calls Try.prog 3 #[.int .i64 m] w fun e w' => e = .returned (.bool true) ∧ Below w.heap.size w w' := by
  by_cases h1 : m = 1
  · subst h1; exact rateMany_1 w
  by_cases h2 : m = 2
  · subst h2; exact rateMany_2 w
  by_cases h3 : m = 3
  · subst h3; exact rateMany_3 w
  by_cases h4 : m = 4
  · subst h4; exact rateMany_4 w
  · exact rateMany_5 w m h1 h2 h3 h4
end Go.Proofs.Ytdmgnocpempfnaa
