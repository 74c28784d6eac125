/-
  ba: Heard.
-/
import Derived.Test.YthjjneanabnjoaaDoorBaHeardPred
import Derived.Laws.EntriesVeiled
namespace Go.Proofs.YthjjneanabnjoaaDoor
open Go.ChangeShapes Go.WideShapes Go.ChangeAt Go.RowKit
set_option linter.unusedVariables false

/-- an answer: addresses, identifier, number, board -/
def ackA (ta tf : Nat → UInt8) (tid q M : Int) : Array Value := #[.int .u8 ((ta 0).toNat : Int), .int .u8 ((ta 1).toNat : Int), .int .u8 ((ta 2).toNat : Int), .int .u8 ((ta 3).toNat : Int), .int .u8 ((ta 4).toNat : Int), .int .u8 ((ta 5).toNat : Int),
  .int .u8 ((tf 0).toNat : Int), .int .u8 ((tf 1).toNat : Int), .int .u8 ((tf 2).toNat : Int), .int .u8 ((tf 3).toNat : Int), .int .u8 ((tf 4).toNat : Int), .int .u8 ((tf 5).toNat : Int), .int .i64 tid, .int .i64 q, .int .u64 M]
def heardS (s : BS) (q M : Int) : BS := landS (takeS s (ackP q M))
def HeardOk (w : World) (base B : Nat) (p : BP) (s : BS) (q M : Int) (e : Ending) (w' : World) : Prop :=
  ∃ A n C L, e = .returned (.tuple #[.slice A n C, .nilIface]) ∧ OwnM w' w.heap.size A n C L ∧ L.map (·.m) = (s.l.filter (ackP q M)).map (·.m) ∧ BStep w w' base B p s (heardS s q M)

section
variable {w : World} {base B : Nat} {p : BP} {s : BS} {E : Nat → Addr}
set_option maxRecDepth 100000 in
set_option maxHeartbeats 1600000 in
theorem heard_state (h : Bs w base B p s) (hE : w.cell? ⟨1, 0, none⟩ = some (errV E 9)) (ta tf : Nat → UInt8) (tid q M : Int) (hs : s.l.any (·.fl) = false) :
    Calls Tryd.prog 19 #[.pointer (some ⟨B, 0, none⟩), .agg (ackA ta tf tid q M)] w fun e w' => e = .returned (.tuple #[.slice none 0 0, errV E 9]) ∧ Below w.heap.size w w' := by
  have hmf : ∀ (fn : Fn) (first cap : Array Value) (w : World), (Instr.makeFunc fn first cap).run Tryd.prog w = .ok (.func fn first cap) w := fun _ _ _ _ => rfl
  have hlt := World.block_lt_of_cell? w _ hE
  have hb0 : Below w.heap.size w ((w.alloc (.cells (ackA ta tf tid q M) 55)).alloc (.cells #[.func (.func 46) #[] #[.pointer (some ⟨w.heap.size, 0, none⟩)]] 84)) := ((Below.refl _ _).alloc (Nat.le_refl _) _).alloc (by simp) _
  have HB0 := Lib.hid hb0
  have HC := Lib.hid (flies_any (h.below hb0 (Nat.le_refl _)))
  rw [hs] at HC
  have HE := Lib.hid hE
  clear h hE hs hb0
  go_enter Tryd.func19, Tryd.ntmps19
  go_wp2_with fail
  refine HC.out.mono ?_
  rintro e w1 ⟨rfl, hb⟩
  have he : w1.cell? ⟨1, 0, none⟩ = some (.iface 115 (.pointer (some (E 9)))) := (hb.cell (p := ⟨1, 0, none⟩) (Nat.lt_of_lt_of_le hlt HB0.out.size)).trans ((HB0.out.cell (p := ⟨1, 0, none⟩) hlt).trans HE.out)
  have HB := Lib.hid (HB0.out.trans (hb.mono HB0.out.size))
  clear hb
  go_wp2_with fail
  go_quiet (fail)
  go_wp2_with fail
  go_ret2
  exact ⟨rfl, HB.out.trans (below_drewN _)⟩
set_option maxRecDepth 100000 in
set_option maxHeartbeats 3200000 in
theorem heard_seq (h : Bs w base B p s) (hE : w.cell? ⟨4, 0, none⟩ = some (errV E 10)) (ta tf : Nat → UInt8) (tid q M : Int) (hs : s.l.any (·.fl) = true) (hbad : q < 0 ∨ 4096 ≤ q ∨ s.l.any (nearP q) = false) :
    Calls Tryd.prog 19 #[.pointer (some ⟨B, 0, none⟩), .agg (ackA ta tf tid q M)] w fun e w' => e = .returned (.tuple #[.slice none 0 0, errV E 10]) ∧ Below w.heap.size w w' := by
  have hmf : ∀ (fn : Fn) (first cap : Array Value) (w : World), (Instr.makeFunc fn first cap).run Tryd.prog w = .ok (.func fn first cap) w := fun _ _ _ _ => rfl
  have hb0 : Below w.heap.size w ((w.alloc (.cells (ackA ta tf tid q M) 55)).alloc (.cells #[.func (.func 46) #[] #[.pointer (some ⟨w.heap.size, 0, none⟩)]] 84)) := ((Below.refl _ _).alloc (Nat.le_refl _) _).alloc (by simp) _
  have hk0 := (Blk.new w (ackA ta tf tid q M) 55).alloc (.cells #[.func (.func 46) #[] #[.pointer (some ⟨w.heap.size, 0, none⟩)]] 84)
  have hf0 := Blk.new (w.alloc (.cells (ackA ta tf tid q M) 55)) #[.func (.func 46) #[] #[.pointer (some ⟨w.heap.size, 0, none⟩)]] 84
  rw [show (w.alloc (.cells (ackA ta tf tid q M) 55)).heap.size = w.heap.size + 1 by simp] at hf0
  have hS0 := h.below hb0 (Nat.le_refl _)
  have HC := Lib.hid (flies_any hS0)
  rw [hs] at HC
  have HB0 := Lib.hid hb0
  have HK0 := Lib.hid hk0
  have HF0 := Lib.hid hf0
  have HS0 := Lib.hid hS0
  have hlt := World.block_lt_of_cell? w _ hE
  have HE := Lib.hid hE
  clear h hE hs hb0 hk0 hf0 hS0
  go_enter Tryd.func19, Tryd.ntmps19
  go_wp2_with fail
  refine HC.out.mono ?_
  rintro e w1 ⟨rfl, hb⟩
  have HB1 := Lib.hid (HB0.out.trans (hb.mono HB0.out.size))
  have HK1 := Lib.hid (HK0.out.below hb HK0.out.lt)
  have HF1 := Lib.hid (HF0.out.below hb HF0.out.lt)
  have HS1 := Lib.hid (HS0.out.below hb (Nat.le_refl _))
  have lk := HK1.out.lt
  have lf := HF1.out.lt
  clear hb
  have HSB := Lib.hid (fun (y : World) (hy : Below w1.heap.size w1 y) => show y.cell? ⟨w.heap.size, 13, none⟩ = some (.int .i64 q) ∧ y.cell? ⟨w.heap.size + 1, 0, none⟩ = some (.func (.func 46) #[] #[.pointer (some ⟨w.heap.size, 0, none⟩)]) ∧ y.cell? ⟨B, 6, none⟩ = some (.slice p.A s.l.length p.C) ∧ Below w1.heap.size w1 y from
    ⟨(HK1.out.below hy lk).cell 13, (HF1.out.below hy lf).cell 0, (HS1.out.below hy (Nat.le_refl _)).c6, hy⟩)
  have b0 : Below w1.heap.size w1 w1.drew := below_drewN 1
  have HCF := Lib.hid (containsFunc_any (HS1.out.drewN 1).own _ _ _ (pred_near (w := w1.drewN 1) (b := w.heap.size) (q := q) (HK1.out.cell 13)))
  go_wp2_with fail
  have HEE := Lib.hid (fun (y : World) (hy : Below w1.heap.size w1 y) => show y.cell? ⟨4, 0, none⟩ = some (.iface 115 (.pointer (some (E 10)))) from (hy.cell (p := ⟨4, 0, none⟩) (Nat.lt_of_lt_of_le hlt HB1.out.size)).trans ((HB1.out.cell (p := ⟨4, 0, none⟩) hlt).trans HE.out))
  by_cases hq0 : q < 0
  case pos =>
    have g0 : decide (q < 0) = true := decide_eq_true hq0
--R4a
    refine wp_region_held_drew (S := (fun y => y.cell? ⟨w.heap.size, 13, none⟩ = some (.int .i64 q) ∧ y.cell? ⟨w.heap.size + 1, 0, none⟩ = some (.func (.func 46) #[] #[.pointer (some ⟨w.heap.size, 0, none⟩)]) ∧ y.cell? ⟨B, 6, none⟩ = some (.slice p.A s.l.length p.C) ∧ Below w1.heap.size w1 y)) (by kernel_rfl) ?_ (fun hHeld => ?_)
    · exact HSB.out _ b0
    refine wpAnyH_take (i := 0) (oi := { dst := some 15, op := _, type := _, pos := _, after := _, guard := none }) (v := ?v0a) rfl (by kernel_rfl) (by kernel_rfl) (by kernel_rfl) (fun _ _ _ h => h) (Or.inl ⟨by rfl, ?y0a⟩) (by assumption) ?r0a
    (case y0a => intro w hSw; obtain ⟨s0, s1, s2, -⟩ := hSw; go_simp; try with_reducible rfl)
    try simp only [Act.put, List.setIfInBounds_toArray, List.set_cons_zero, List.set_cons_succ]
    refine wpAnyH_take (i := 1) (oi := { dst := some 16, op := _, type := _, pos := _, after := _, guard := none }) (v := ?v1a) rfl (by kernel_rfl) (by kernel_rfl) (by kernel_rfl) (fun _ _ _ h => h) (Or.inl ⟨by rfl, ?y1a⟩) (by assumption) ?r1a
    (case y1a => intro w hSw; obtain ⟨s0, s1, s2, -⟩ := hSw; go_simp; try with_reducible rfl)
    try simp only [Act.put, List.setIfInBounds_toArray, List.set_cons_zero, List.set_cons_succ]
    refine wpAnyH_take (i := 2) (oi := { dst := some 17, op := _, type := _, pos := _, after := _, guard := none }) (v := ?v2a) rfl (by kernel_rfl) (by kernel_rfl) (by kernel_rfl) (fun _ _ _ h => h) (Or.inl ⟨by rfl, ?y2a⟩) (by assumption) ?r2a
    (case y2a => intro w hSw; obtain ⟨s0, s1, s2, -⟩ := hSw; go_simp; try with_reducible rfl)
    try simp only [Act.put, List.setIfInBounds_toArray, List.set_cons_zero, List.set_cons_succ]
    refine wpAnyH_take (i := 3) (oi := { dst := some 18, op := _, type := _, pos := _, after := _, guard := none }) (v := ?v3a) rfl (by kernel_rfl) (by kernel_rfl) (by kernel_rfl) (fun _ _ _ h => h) (Or.inl ⟨by rfl, ?y3a⟩) (by assumption) ?r3a
    (case y3a => intro w hSw; obtain ⟨s0, s1, s2, -⟩ := hSw; go_simp; try with_reducible rfl)
    try simp only [Act.put, List.setIfInBounds_toArray, List.set_cons_zero, List.set_cons_succ]
    refine wpAnyH_take (i := 4) (oi := { dst := some 19, op := _, type := _, pos := _, after := _, guard := some (3, false) }) (v := undef) rfl (by kernel_rfl) (by kernel_rfl) (by kernel_rfl) (fun _ _ _ h => h) (Or.inr ⟨by rfl, rfl⟩) (by assumption) ?_
    try simp only [Act.put, List.setIfInBounds_toArray, List.set_cons_zero, List.set_cons_succ]
    refine wpAnyH_take (i := 5) (oi := { dst := some 20, op := _, type := _, pos := _, after := _, guard := some (3, false) }) (v := undef) rfl (by kernel_rfl) (by kernel_rfl) (by kernel_rfl) (fun _ _ _ h => h) (Or.inr ⟨by rfl, rfl⟩) (by assumption) ?_
    try simp only [Act.put, List.setIfInBounds_toArray, List.set_cons_zero, List.set_cons_succ]
    refine wpAnyH_take (i := 6) (oi := { dst := some 21, op := _, type := _, pos := _, after := _, guard := some (3, false) }) (v := undef) rfl (by kernel_rfl) (by kernel_rfl) (by kernel_rfl) (fun _ _ _ h => h) (Or.inr ⟨by rfl, rfl⟩) (by assumption) ?_
    try simp only [Act.put, List.setIfInBounds_toArray, List.set_cons_zero, List.set_cons_succ]
    refine wpAnyH_take (i := 7) (oi := { dst := some 22, op := _, type := _, pos := _, after := _, guard := none }) (v := ?v7a) rfl (by kernel_rfl) (by kernel_rfl) (by kernel_rfl) (fun _ _ _ h => h) (Or.inl ⟨by rfl, ?y7a⟩) (by assumption) ?r7a
    (case y7a => intro w hSw; obtain ⟨s0, s1, s2, -⟩ := hSw; go_simp; try with_reducible rfl)
    try simp only [Act.put, List.setIfInBounds_toArray, List.set_cons_zero, List.set_cons_succ]
    refine wpAnyH_take (i := 8) (oi := { dst := some 23, op := _, type := _, pos := _, after := _, guard := none }) (v := ?v8a) rfl (by kernel_rfl) (by kernel_rfl) (by kernel_rfl) (fun _ _ _ h => h) (Or.inl ⟨by rfl, ?y8a⟩) (by assumption) ?r8a
    (case y8a => intro w hSw; obtain ⟨s0, s1, s2, -⟩ := hSw; go_simp; try with_reducible rfl)
    try simp only [Act.put, List.setIfInBounds_toArray, List.set_cons_zero, List.set_cons_succ]
    refine wpAnyH_take (i := 9) (oi := { dst := some 24, op := _, type := _, pos := _, after := _, guard := some (8, false) }) (v := undef) rfl (by kernel_rfl) (by kernel_rfl) (by kernel_rfl) (fun _ _ _ h => h) (Or.inr ⟨by rfl, rfl⟩) (by assumption) ?_
    try simp only [Act.put, List.setIfInBounds_toArray, List.set_cons_zero, List.set_cons_succ]
    refine wpAnyH_take (i := 10) (oi := { dst := some 25, op := _, type := _, pos := _, after := _, guard := some (8, false) }) (v := undef) rfl (by kernel_rfl) (by kernel_rfl) (by kernel_rfl) (fun _ _ _ h => h) (Or.inr ⟨by rfl, rfl⟩) (by assumption) ?_
    try simp only [Act.put, List.setIfInBounds_toArray, List.set_cons_zero, List.set_cons_succ]
    refine wpAnyH_take (i := 11) (oi := { dst := some 26, op := _, type := _, pos := _, after := _, guard := some (8, false) }) (v := undef) rfl (by kernel_rfl) (by kernel_rfl) (by kernel_rfl) (fun _ _ _ h => h) (Or.inr ⟨by rfl, rfl⟩) (by assumption) ?_
    try simp only [Act.put, List.setIfInBounds_toArray, List.set_cons_zero, List.set_cons_succ]
    refine wpAnyH_take (i := 12) (oi := { dst := some 27, op := _, type := _, pos := _, after := _, guard := some (8, false) }) (v := undef) rfl (by kernel_rfl) (by kernel_rfl) (by kernel_rfl) (fun _ _ _ h => h) (Or.inr ⟨by rfl, rfl⟩) (by assumption) ?_
    try simp only [Act.put, List.setIfInBounds_toArray, List.set_cons_zero, List.set_cons_succ]
    refine wpAnyH_take (i := 13) (oi := { dst := some 28, op := _, type := _, pos := _, after := _, guard := some (8, false) }) (v := undef) rfl (by kernel_rfl) (by kernel_rfl) (by kernel_rfl) (fun _ _ _ h => h) (Or.inr ⟨by rfl, rfl⟩) (by assumption) ?_
    try simp only [Act.put, List.setIfInBounds_toArray, List.set_cons_zero, List.set_cons_succ]
    refine wpAnyH_take (i := 14) (oi := { dst := some 29, op := _, type := _, pos := _, after := _, guard := some (8, false) }) (v := undef) rfl (by kernel_rfl) (by kernel_rfl) (by kernel_rfl) (fun _ _ _ h => h) (Or.inr ⟨by rfl, rfl⟩) (by assumption) ?_
    try simp only [Act.put, List.setIfInBounds_toArray, List.set_cons_zero, List.set_cons_succ]
    refine wpAnyH_take (i := 15) (oi := { dst := some 30, op := _, type := _, pos := _, after := _, guard := some (8, false) }) (v := undef) rfl (by kernel_rfl) (by kernel_rfl) (by kernel_rfl) (fun _ _ _ h => h) (Or.inr ⟨by rfl, rfl⟩) (by assumption) ?_
    try simp only [Act.put, List.setIfInBounds_toArray, List.set_cons_zero, List.set_cons_succ]
    refine wpAnyH_take (i := 16) (oi := { dst := some 31, op := _, type := _, pos := _, after := _, guard := none }) (v := ?v16a) rfl (by kernel_rfl) (by kernel_rfl) (by kernel_rfl) (fun _ _ _ h => h) (Or.inl ⟨by rfl, ?y16a⟩) (by assumption) ?r16a
    (case y16a => intro w hSw; obtain ⟨s0, s1, s2, -⟩ := hSw; go_simp; try with_reducible rfl)
    try simp only [Act.put, List.setIfInBounds_toArray, List.set_cons_zero, List.set_cons_succ]
    refine wpAnyH_take (i := 17) (oi := { dst := some 14, op := _, type := _, pos := _, after := _, guard := none }) (v := ?v17a) rfl (by kernel_rfl) (by kernel_rfl) (by kernel_rfl) (fun _ _ _ h => h) (Or.inl ⟨by rfl, ?y17a⟩) (by assumption) ?r17a
    (case y17a => intro w hSw; obtain ⟨s0, s1, s2, -⟩ := hSw; go_simp; try with_reducible rfl)
    try simp only [Act.put, List.setIfInBounds_toArray, List.set_cons_zero, List.set_cons_succ]
    refine wpAnyH_done (by kernel_rfl) ?_ _
--R4aEND
    have he := HEE.out _ b0
    clear HC hHeld HCF
    generalize w1.drew = w3 at *
    go_wp2_with fail
    go_quiet (fail)
    go_wp2_with fail
    go_ret2
    exact ⟨rfl, HB1.out.trans ((b0.trans (below_drewN _)).mono HB1.out.size)⟩
  case neg =>
  have g0 : decide (q < 0) = false := decide_eq_false hq0
  by_cases hq1 : 4096 ≤ q
  case pos =>
    have g1 : decide (4096 ≤ q) = true := decide_eq_true hq1
--R4b
    refine wp_region_held_drew (S := (fun y => y.cell? ⟨w.heap.size, 13, none⟩ = some (.int .i64 q) ∧ y.cell? ⟨w.heap.size + 1, 0, none⟩ = some (.func (.func 46) #[] #[.pointer (some ⟨w.heap.size, 0, none⟩)]) ∧ y.cell? ⟨B, 6, none⟩ = some (.slice p.A s.l.length p.C) ∧ Below w1.heap.size w1 y)) (by kernel_rfl) ?_ (fun hHeld => ?_)
    · exact HSB.out _ b0
    refine wpAnyH_take (i := 0) (oi := { dst := some 15, op := _, type := _, pos := _, after := _, guard := none }) (v := ?v0b) rfl (by kernel_rfl) (by kernel_rfl) (by kernel_rfl) (fun _ _ _ h => h) (Or.inl ⟨by rfl, ?y0b⟩) (by assumption) ?r0b
    (case y0b => intro w hSw; obtain ⟨s0, s1, s2, -⟩ := hSw; go_simp; try with_reducible rfl)
    try simp only [Act.put, List.setIfInBounds_toArray, List.set_cons_zero, List.set_cons_succ]
    refine wpAnyH_take (i := 1) (oi := { dst := some 16, op := _, type := _, pos := _, after := _, guard := none }) (v := ?v1b) rfl (by kernel_rfl) (by kernel_rfl) (by kernel_rfl) (fun _ _ _ h => h) (Or.inl ⟨by rfl, ?y1b⟩) (by assumption) ?r1b
    (case y1b => intro w hSw; obtain ⟨s0, s1, s2, -⟩ := hSw; go_simp; try with_reducible rfl)
    try simp only [Act.put, List.setIfInBounds_toArray, List.set_cons_zero, List.set_cons_succ]
    refine wpAnyH_take (i := 2) (oi := { dst := some 17, op := _, type := _, pos := _, after := _, guard := none }) (v := ?v2b) rfl (by kernel_rfl) (by kernel_rfl) (by kernel_rfl) (fun _ _ _ h => h) (Or.inl ⟨by rfl, ?y2b⟩) (by assumption) ?r2b
    (case y2b => intro w hSw; obtain ⟨s0, s1, s2, -⟩ := hSw; go_simp; try with_reducible rfl)
    try simp only [Act.put, List.setIfInBounds_toArray, List.set_cons_zero, List.set_cons_succ]
    refine wpAnyH_take (i := 3) (oi := { dst := some 18, op := _, type := _, pos := _, after := _, guard := none }) (v := ?v3b) rfl (by kernel_rfl) (by kernel_rfl) (by kernel_rfl) (fun _ _ _ h => h) (Or.inl ⟨by rfl, ?y3b⟩) (by assumption) ?r3b
    (case y3b => intro w hSw; obtain ⟨s0, s1, s2, -⟩ := hSw; go_simp; try with_reducible rfl)
    try simp only [Act.put, List.setIfInBounds_toArray, List.set_cons_zero, List.set_cons_succ]
    refine wpAnyH_take (i := 4) (oi := { dst := some 19, op := _, type := _, pos := _, after := _, guard := some (3, false) }) (v := ?v4b) rfl (by kernel_rfl) (by kernel_rfl) (by kernel_rfl) (fun _ _ _ h => h) (Or.inl ⟨by rfl, ?y4b⟩) (by assumption) ?r4b
    (case y4b => intro w hSw; obtain ⟨s0, s1, s2, -⟩ := hSw; go_simp; try with_reducible rfl)
    try simp only [Act.put, List.setIfInBounds_toArray, List.set_cons_zero, List.set_cons_succ]
    refine wpAnyH_take (i := 5) (oi := { dst := some 20, op := _, type := _, pos := _, after := _, guard := some (3, false) }) (v := ?v5b) rfl (by kernel_rfl) (by kernel_rfl) (by kernel_rfl) (fun _ _ _ h => h) (Or.inl ⟨by rfl, ?y5b⟩) (by assumption) ?r5b
    (case y5b => intro w hSw; obtain ⟨s0, s1, s2, -⟩ := hSw; go_simp; try with_reducible rfl)
    try simp only [Act.put, List.setIfInBounds_toArray, List.set_cons_zero, List.set_cons_succ]
    refine wpAnyH_take (i := 6) (oi := { dst := some 21, op := _, type := _, pos := _, after := _, guard := some (3, false) }) (v := ?v6b) rfl (by kernel_rfl) (by kernel_rfl) (by kernel_rfl) (fun _ _ _ h => h) (Or.inl ⟨by rfl, ?y6b⟩) (by assumption) ?r6b
    (case y6b => intro w hSw; obtain ⟨s0, s1, s2, -⟩ := hSw; go_simp; try with_reducible rfl)
    try simp only [Act.put, List.setIfInBounds_toArray, List.set_cons_zero, List.set_cons_succ]
    refine wpAnyH_take (i := 7) (oi := { dst := some 22, op := _, type := _, pos := _, after := _, guard := none }) (v := ?v7b) rfl (by kernel_rfl) (by kernel_rfl) (by kernel_rfl) (fun _ _ _ h => h) (Or.inl ⟨by rfl, ?y7b⟩) (by assumption) ?r7b
    (case y7b => intro w hSw; obtain ⟨s0, s1, s2, -⟩ := hSw; go_simp; try with_reducible rfl)
    try simp only [Act.put, List.setIfInBounds_toArray, List.set_cons_zero, List.set_cons_succ]
    refine wpAnyH_take (i := 8) (oi := { dst := some 23, op := _, type := _, pos := _, after := _, guard := none }) (v := ?v8b) rfl (by kernel_rfl) (by kernel_rfl) (by kernel_rfl) (fun _ _ _ h => h) (Or.inl ⟨by rfl, ?y8b⟩) (by assumption) ?r8b
    (case y8b => intro w hSw; obtain ⟨s0, s1, s2, -⟩ := hSw; go_simp; try with_reducible rfl)
    try simp only [Act.put, List.setIfInBounds_toArray, List.set_cons_zero, List.set_cons_succ]
    refine wpAnyH_take (i := 9) (oi := { dst := some 24, op := _, type := _, pos := _, after := _, guard := some (8, false) }) (v := undef) rfl (by kernel_rfl) (by kernel_rfl) (by kernel_rfl) (fun _ _ _ h => h) (Or.inr ⟨by rfl, rfl⟩) (by assumption) ?_
    try simp only [Act.put, List.setIfInBounds_toArray, List.set_cons_zero, List.set_cons_succ]
    refine wpAnyH_take (i := 10) (oi := { dst := some 25, op := _, type := _, pos := _, after := _, guard := some (8, false) }) (v := undef) rfl (by kernel_rfl) (by kernel_rfl) (by kernel_rfl) (fun _ _ _ h => h) (Or.inr ⟨by rfl, rfl⟩) (by assumption) ?_
    try simp only [Act.put, List.setIfInBounds_toArray, List.set_cons_zero, List.set_cons_succ]
    refine wpAnyH_take (i := 11) (oi := { dst := some 26, op := _, type := _, pos := _, after := _, guard := some (8, false) }) (v := undef) rfl (by kernel_rfl) (by kernel_rfl) (by kernel_rfl) (fun _ _ _ h => h) (Or.inr ⟨by rfl, rfl⟩) (by assumption) ?_
    try simp only [Act.put, List.setIfInBounds_toArray, List.set_cons_zero, List.set_cons_succ]
    refine wpAnyH_take (i := 12) (oi := { dst := some 27, op := _, type := _, pos := _, after := _, guard := some (8, false) }) (v := undef) rfl (by kernel_rfl) (by kernel_rfl) (by kernel_rfl) (fun _ _ _ h => h) (Or.inr ⟨by rfl, rfl⟩) (by assumption) ?_
    try simp only [Act.put, List.setIfInBounds_toArray, List.set_cons_zero, List.set_cons_succ]
    refine wpAnyH_take (i := 13) (oi := { dst := some 28, op := _, type := _, pos := _, after := _, guard := some (8, false) }) (v := undef) rfl (by kernel_rfl) (by kernel_rfl) (by kernel_rfl) (fun _ _ _ h => h) (Or.inr ⟨by rfl, rfl⟩) (by assumption) ?_
    try simp only [Act.put, List.setIfInBounds_toArray, List.set_cons_zero, List.set_cons_succ]
    refine wpAnyH_take (i := 14) (oi := { dst := some 29, op := _, type := _, pos := _, after := _, guard := some (8, false) }) (v := undef) rfl (by kernel_rfl) (by kernel_rfl) (by kernel_rfl) (fun _ _ _ h => h) (Or.inr ⟨by rfl, rfl⟩) (by assumption) ?_
    try simp only [Act.put, List.setIfInBounds_toArray, List.set_cons_zero, List.set_cons_succ]
    refine wpAnyH_take (i := 15) (oi := { dst := some 30, op := _, type := _, pos := _, after := _, guard := some (8, false) }) (v := undef) rfl (by kernel_rfl) (by kernel_rfl) (by kernel_rfl) (fun _ _ _ h => h) (Or.inr ⟨by rfl, rfl⟩) (by assumption) ?_
    try simp only [Act.put, List.setIfInBounds_toArray, List.set_cons_zero, List.set_cons_succ]
    refine wpAnyH_take (i := 16) (oi := { dst := some 31, op := _, type := _, pos := _, after := _, guard := none }) (v := ?v16b) rfl (by kernel_rfl) (by kernel_rfl) (by kernel_rfl) (fun _ _ _ h => h) (Or.inl ⟨by rfl, ?y16b⟩) (by assumption) ?r16b
    (case y16b => intro w hSw; obtain ⟨s0, s1, s2, -⟩ := hSw; go_simp; try with_reducible rfl)
    try simp only [Act.put, List.setIfInBounds_toArray, List.set_cons_zero, List.set_cons_succ]
    refine wpAnyH_take (i := 17) (oi := { dst := some 14, op := _, type := _, pos := _, after := _, guard := none }) (v := ?v17b) rfl (by kernel_rfl) (by kernel_rfl) (by kernel_rfl) (fun _ _ _ h => h) (Or.inl ⟨by rfl, ?y17b⟩) (by assumption) ?r17b
    (case y17b => intro w hSw; obtain ⟨s0, s1, s2, -⟩ := hSw; go_simp; try with_reducible rfl)
    try simp only [Act.put, List.setIfInBounds_toArray, List.set_cons_zero, List.set_cons_succ]
    refine wpAnyH_done (by kernel_rfl) ?_ _
--R4bEND
    have he := HEE.out _ b0
    clear HC hHeld HCF
    generalize w1.drew = w3 at *
    go_wp2_with fail
    go_quiet (fail)
    go_wp2_with fail
    go_ret2
    exact ⟨rfl, HB1.out.trans ((b0.trans (below_drewN _)).mono HB1.out.size)⟩
  case neg =>
    have g1 : decide (4096 ≤ q) = false := decide_eq_false hq1
    have hn : s.l.any (nearP q) = false := by rcases hbad with h | h | h <;> first | exact h | (exfalso; omega)
    rw [hn] at HCF
    clear hn hbad
--R4c
    refine wp_region_held_drew (S := (fun y => y.cell? ⟨w.heap.size, 13, none⟩ = some (.int .i64 q) ∧ y.cell? ⟨w.heap.size + 1, 0, none⟩ = some (.func (.func 46) #[] #[.pointer (some ⟨w.heap.size, 0, none⟩)]) ∧ y.cell? ⟨B, 6, none⟩ = some (.slice p.A s.l.length p.C) ∧ Below w1.heap.size w1 y)) (by kernel_rfl) ?_ (fun hHeld => ?_)
    · exact HSB.out _ b0
    refine wpAnyH_take (i := 0) (oi := { dst := some 15, op := _, type := _, pos := _, after := _, guard := none }) (v := ?v0c) rfl (by kernel_rfl) (by kernel_rfl) (by kernel_rfl) (fun _ _ _ h => h) (Or.inl ⟨by rfl, ?y0c⟩) (by assumption) ?r0c
    (case y0c => intro w hSw; obtain ⟨s0, s1, s2, -⟩ := hSw; go_simp; try with_reducible rfl)
    try simp only [Act.put, List.setIfInBounds_toArray, List.set_cons_zero, List.set_cons_succ]
    refine wpAnyH_take (i := 1) (oi := { dst := some 16, op := _, type := _, pos := _, after := _, guard := none }) (v := ?v1c) rfl (by kernel_rfl) (by kernel_rfl) (by kernel_rfl) (fun _ _ _ h => h) (Or.inl ⟨by rfl, ?y1c⟩) (by assumption) ?r1c
    (case y1c => intro w hSw; obtain ⟨s0, s1, s2, -⟩ := hSw; go_simp; try with_reducible rfl)
    try simp only [Act.put, List.setIfInBounds_toArray, List.set_cons_zero, List.set_cons_succ]
    refine wpAnyH_take (i := 2) (oi := { dst := some 17, op := _, type := _, pos := _, after := _, guard := none }) (v := ?v2c) rfl (by kernel_rfl) (by kernel_rfl) (by kernel_rfl) (fun _ _ _ h => h) (Or.inl ⟨by rfl, ?y2c⟩) (by assumption) ?r2c
    (case y2c => intro w hSw; obtain ⟨s0, s1, s2, -⟩ := hSw; go_simp; try with_reducible rfl)
    try simp only [Act.put, List.setIfInBounds_toArray, List.set_cons_zero, List.set_cons_succ]
    refine wpAnyH_take (i := 3) (oi := { dst := some 18, op := _, type := _, pos := _, after := _, guard := none }) (v := ?v3c) rfl (by kernel_rfl) (by kernel_rfl) (by kernel_rfl) (fun _ _ _ h => h) (Or.inl ⟨by rfl, ?y3c⟩) (by assumption) ?r3c
    (case y3c => intro w hSw; obtain ⟨s0, s1, s2, -⟩ := hSw; go_simp; try with_reducible rfl)
    try simp only [Act.put, List.setIfInBounds_toArray, List.set_cons_zero, List.set_cons_succ]
    refine wpAnyH_take (i := 4) (oi := { dst := some 19, op := _, type := _, pos := _, after := _, guard := some (3, false) }) (v := ?v4c) rfl (by kernel_rfl) (by kernel_rfl) (by kernel_rfl) (fun _ _ _ h => h) (Or.inl ⟨by rfl, ?y4c⟩) (by assumption) ?r4c
    (case y4c => intro w hSw; obtain ⟨s0, s1, s2, -⟩ := hSw; go_simp; try with_reducible rfl)
    try simp only [Act.put, List.setIfInBounds_toArray, List.set_cons_zero, List.set_cons_succ]
    refine wpAnyH_take (i := 5) (oi := { dst := some 20, op := _, type := _, pos := _, after := _, guard := some (3, false) }) (v := ?v5c) rfl (by kernel_rfl) (by kernel_rfl) (by kernel_rfl) (fun _ _ _ h => h) (Or.inl ⟨by rfl, ?y5c⟩) (by assumption) ?r5c
    (case y5c => intro w hSw; obtain ⟨s0, s1, s2, -⟩ := hSw; go_simp; try with_reducible rfl)
    try simp only [Act.put, List.setIfInBounds_toArray, List.set_cons_zero, List.set_cons_succ]
    refine wpAnyH_take (i := 6) (oi := { dst := some 21, op := _, type := _, pos := _, after := _, guard := some (3, false) }) (v := ?v6c) rfl (by kernel_rfl) (by kernel_rfl) (by kernel_rfl) (fun _ _ _ h => h) (Or.inl ⟨by rfl, ?y6c⟩) (by assumption) ?r6c
    (case y6c => intro w hSw; obtain ⟨s0, s1, s2, -⟩ := hSw; go_simp; try with_reducible rfl)
    try simp only [Act.put, List.setIfInBounds_toArray, List.set_cons_zero, List.set_cons_succ]
    refine wpAnyH_take (i := 7) (oi := { dst := some 22, op := _, type := _, pos := _, after := _, guard := none }) (v := ?v7c) rfl (by kernel_rfl) (by kernel_rfl) (by kernel_rfl) (fun _ _ _ h => h) (Or.inl ⟨by rfl, ?y7c⟩) (by assumption) ?r7c
    (case y7c => intro w hSw; obtain ⟨s0, s1, s2, -⟩ := hSw; go_simp; try with_reducible rfl)
    try simp only [Act.put, List.setIfInBounds_toArray, List.set_cons_zero, List.set_cons_succ]
    refine wpAnyH_take (i := 8) (oi := { dst := some 23, op := _, type := _, pos := _, after := _, guard := none }) (v := ?v8c) rfl (by kernel_rfl) (by kernel_rfl) (by kernel_rfl) (fun _ _ _ h => h) (Or.inl ⟨by rfl, ?y8c⟩) (by assumption) ?r8c
    (case y8c => intro w hSw; obtain ⟨s0, s1, s2, -⟩ := hSw; go_simp; try with_reducible rfl)
    try simp only [Act.put, List.setIfInBounds_toArray, List.set_cons_zero, List.set_cons_succ]
    refine wpAnyH_take (i := 9) (oi := { dst := some 24, op := _, type := _, pos := _, after := _, guard := some (8, false) }) (v := ?v9c) rfl (by kernel_rfl) (by kernel_rfl) (by kernel_rfl) (fun _ _ _ h => h) (Or.inl ⟨by rfl, ?y9c⟩) (by assumption) ?r9c
    (case y9c => intro w hSw; obtain ⟨s0, s1, s2, -⟩ := hSw; go_simp; try with_reducible rfl)
    try simp only [Act.put, List.setIfInBounds_toArray, List.set_cons_zero, List.set_cons_succ]
    refine wpAnyH_take (i := 10) (oi := { dst := some 25, op := _, type := _, pos := _, after := _, guard := some (8, false) }) (v := ?v10c) rfl (by kernel_rfl) (by kernel_rfl) (by kernel_rfl) (fun _ _ _ h => h) (Or.inl ⟨by rfl, ?y10c⟩) (by assumption) ?r10c
    (case y10c => intro w hSw; obtain ⟨s0, s1, s2, -⟩ := hSw; go_simp; try with_reducible rfl)
    try simp only [Act.put, List.setIfInBounds_toArray, List.set_cons_zero, List.set_cons_succ]
    refine wpAnyH_take (i := 11) (oi := { dst := some 26, op := _, type := _, pos := _, after := _, guard := some (8, false) }) (v := ?v11c) rfl (by kernel_rfl) (by kernel_rfl) (by kernel_rfl) (fun _ _ _ h => h) (Or.inl ⟨by rfl, ?y11c⟩) (by assumption) ?r11c
    (case y11c => intro w hSw; obtain ⟨s0, s1, s2, -⟩ := hSw; go_simp; try with_reducible rfl)
    try simp only [Act.put, List.setIfInBounds_toArray, List.set_cons_zero, List.set_cons_succ]
    refine wpAnyH_take (i := 12) (oi := { dst := some 27, op := _, type := _, pos := _, after := _, guard := some (8, false) }) (v := ?v12c) rfl (by kernel_rfl) (by kernel_rfl) (by kernel_rfl) (fun _ _ _ h => h) (Or.inl ⟨by rfl, ?y12c⟩) (by assumption) ?r12c
    (case y12c => intro w hSw; obtain ⟨s0, s1, s2, -⟩ := hSw; go_simp; try with_reducible rfl)
    try simp only [Act.put, List.setIfInBounds_toArray, List.set_cons_zero, List.set_cons_succ]
    refine wpAnyH_take (i := 13) (oi := { dst := some 28, op := _, type := _, pos := _, after := _, guard := some (8, false) }) (v := ?v13c) rfl (by kernel_rfl) (by kernel_rfl) (by kernel_rfl) (fun _ _ _ h => h) (Or.inl ⟨by rfl, ?y13c⟩) (by assumption) ?r13c
    (case y13c => intro w hSw; obtain ⟨s0, s1, s2, -⟩ := hSw; go_simp; try with_reducible rfl)
    try simp only [Act.put, List.setIfInBounds_toArray, List.set_cons_zero, List.set_cons_succ]
    refine wpAnyH_ready (rs := [14]) (by kernel_rfl) (by simp) ?_
    refine AllReadyH.cons (o := { dst := some 29, op := _, type := _, pos := _, after := _, guard := some (8, false) }) rfl (fun K hK => ?_) AllReadyH.nil
    go_simp
    refine HCF.out.mono ?_
    rintro e w2 ⟨rfl, hb2⟩
    have b2 := b0.trans (hb2.mono b0.size)
    refine hK.out _ _ (HSB.out _ b2) (fun hHeld2 => ?_)
    clear hK K
    try simp only [Act.put, List.setIfInBounds_toArray, List.set_cons_zero, List.set_cons_succ]
    refine wpAnyH_take (i := 15) (oi := { dst := some 30, op := _, type := _, pos := _, after := _, guard := some (8, false) }) (v := ?v15c) rfl (by kernel_rfl) (by kernel_rfl) (by kernel_rfl) (fun _ _ _ h => h) (Or.inl ⟨by rfl, ?y15c⟩) (by assumption) ?r15c
    (case y15c => intro w hSw; obtain ⟨s0, s1, s2, -⟩ := hSw; go_simp; try with_reducible rfl)
    try simp only [Act.put, List.setIfInBounds_toArray, List.set_cons_zero, List.set_cons_succ]
    refine wpAnyH_take (i := 16) (oi := { dst := some 31, op := _, type := _, pos := _, after := _, guard := none }) (v := ?v16c) rfl (by kernel_rfl) (by kernel_rfl) (by kernel_rfl) (fun _ _ _ h => h) (Or.inl ⟨by rfl, ?y16c⟩) (by assumption) ?r16c
    (case y16c => intro w hSw; obtain ⟨s0, s1, s2, -⟩ := hSw; go_simp; try with_reducible rfl)
    try simp only [Act.put, List.setIfInBounds_toArray, List.set_cons_zero, List.set_cons_succ]
    refine wpAnyH_take (i := 17) (oi := { dst := some 14, op := _, type := _, pos := _, after := _, guard := none }) (v := ?v17c) rfl (by kernel_rfl) (by kernel_rfl) (by kernel_rfl) (fun _ _ _ h => h) (Or.inl ⟨by rfl, ?y17c⟩) (by assumption) ?r17c
    (case y17c => intro w hSw; obtain ⟨s0, s1, s2, -⟩ := hSw; go_simp; try with_reducible rfl)
    try simp only [Act.put, List.setIfInBounds_toArray, List.set_cons_zero, List.set_cons_succ]
    refine wpAnyH_done (by kernel_rfl) ?_ _
--R4cEND
    have he := HEE.out _ b2
    go_wp2_with fail
    go_quiet (fail)
    go_wp2_with fail
    go_ret2
    exact ⟨rfl, HB1.out.trans ((b2.trans (below_drewN _)).mono HB1.out.size)⟩
set_option maxRecDepth 100000 in
set_option maxHeartbeats 3200000 in
theorem heard_ok (h : Bs w base B p s) (hbase : base ≤ w.heap.size) (ta tf : Nat → UInt8) (tid q M : Int) (hs : s.l.any (·.fl) = true) (hq0 : 0 ≤ q) (hq1 : q < 4096) (hnear : s.l.any (nearP q) = true) (h0 : 0 ≤ M) (h1 : M < 18446744073709551616)
    (hl : s.l.length ≤ 1000000) (hbl : ∀ x ∈ s.l, x.m.body.length ≤ 1048576) (hsq : s.w.o = s.l.map (·.m.seq)) (hnd : s.w.o.Nodup) (hst : s.w.st = s.w.o.headD s.w.nx) :
    Calls Tryd.prog 19 #[.pointer (some ⟨B, 0, none⟩), .agg (ackA ta tf tid q M)] w (HeardOk w base B p s q M) := by
  have hmf : ∀ (fn : Fn) (first cap : Array Value) (w : World), (Instr.makeFunc fn first cap).run Tryd.prog w = .ok (.func fn first cap) w := fun _ _ _ _ => rfl
  have hb0 : Below w.heap.size w ((w.alloc (.cells (ackA ta tf tid q M) 55)).alloc (.cells #[.func (.func 46) #[] #[.pointer (some ⟨w.heap.size, 0, none⟩)]] 84)) := ((Below.refl _ _).alloc (Nat.le_refl _) _).alloc (by simp) _
  have hk0 := (Blk.new w (ackA ta tf tid q M) 55).alloc (.cells #[.func (.func 46) #[] #[.pointer (some ⟨w.heap.size, 0, none⟩)]] 84)
  have hf0 := Blk.new (w.alloc (.cells (ackA ta tf tid q M) 55)) #[.func (.func 46) #[] #[.pointer (some ⟨w.heap.size, 0, none⟩)]] 84
  rw [show (w.alloc (.cells (ackA ta tf tid q M) 55)).heap.size = w.heap.size + 1 by simp] at hf0
  have hS0 := h.below hb0 (Nat.le_refl _)
  have HC := Lib.hid (flies_any hS0)
  rw [hs] at HC
  have HB0 := Lib.hid hb0
  have HK0 := Lib.hid hk0
  have HF0 := Lib.hid hf0
  have HS0 := Lib.hid hS0
  have HS := Lib.hid hsq
  have HND := Lib.hid hnd
  have HST := Lib.hid hst
  have HBL := Lib.hid hbl
  have HNEAR := Lib.hid hnear
  have lB := h.lt
  clear h hs hb0 hk0 hf0 hS0 hsq hnd hst hbl hnear
  go_enter Tryd.func19, Tryd.ntmps19
  go_wp2_with fail
  refine HC.out.mono ?_
  rintro e w1 ⟨rfl, hb⟩
  have HB1 := Lib.hid (HB0.out.trans (hb.mono HB0.out.size))
  have HK1 := Lib.hid (HK0.out.below hb HK0.out.lt)
  have HF1 := Lib.hid (HF0.out.below hb HF0.out.lt)
  have HS1 := Lib.hid (HS0.out.below hb (Nat.le_refl _))
  have lk := HK1.out.lt
  have lf := HF1.out.lt
  clear hb
  have HSB := Lib.hid (fun (y : World) (hy : Below w1.heap.size w1 y) => show y.cell? ⟨w.heap.size, 13, none⟩ = some (.int .i64 q) ∧ y.cell? ⟨w.heap.size + 1, 0, none⟩ = some (.func (.func 46) #[] #[.pointer (some ⟨w.heap.size, 0, none⟩)]) ∧ y.cell? ⟨B, 6, none⟩ = some (.slice p.A s.l.length p.C) ∧ Below w1.heap.size w1 y from
    ⟨(HK1.out.below hy lk).cell 13, (HF1.out.below hy lf).cell 0, (HS1.out.below hy (Nat.le_refl _)).c6, hy⟩)
  have b0 : Below w1.heap.size w1 w1.drew := below_drewN 1
  have HCF := Lib.hid (containsFunc_any (HS1.out.drewN 1).own _ _ _ (pred_near (w := w1.drewN 1) (b := w.heap.size) (q := q) (HK1.out.cell 13)))
  go_wp2_with fail
  rw [HNEAR.out] at HCF
  have g0 : decide (q < 0) = false := decide_eq_false (by omega)
  have g1 : decide (4096 ≤ q) = false := decide_eq_false (by omega)
  clear hq0 hq1
--R4d
  refine wp_region_held_drew (S := (fun y => y.cell? ⟨w.heap.size, 13, none⟩ = some (.int .i64 q) ∧ y.cell? ⟨w.heap.size + 1, 0, none⟩ = some (.func (.func 46) #[] #[.pointer (some ⟨w.heap.size, 0, none⟩)]) ∧ y.cell? ⟨B, 6, none⟩ = some (.slice p.A s.l.length p.C) ∧ Below w1.heap.size w1 y)) (by kernel_rfl) ?_ (fun hHeld => ?_)
  · exact HSB.out _ b0
  refine wpAnyH_take (i := 0) (oi := { dst := some 15, op := _, type := _, pos := _, after := _, guard := none }) (v := ?v0d) rfl (by kernel_rfl) (by kernel_rfl) (by kernel_rfl) (fun _ _ _ h => h) (Or.inl ⟨by rfl, ?y0d⟩) (by assumption) ?r0d
  (case y0d => intro w hSw; obtain ⟨s0, s1, s2, -⟩ := hSw; go_simp; try with_reducible rfl)
  try simp only [Act.put, List.setIfInBounds_toArray, List.set_cons_zero, List.set_cons_succ]
  refine wpAnyH_take (i := 1) (oi := { dst := some 16, op := _, type := _, pos := _, after := _, guard := none }) (v := ?v1d) rfl (by kernel_rfl) (by kernel_rfl) (by kernel_rfl) (fun _ _ _ h => h) (Or.inl ⟨by rfl, ?y1d⟩) (by assumption) ?r1d
  (case y1d => intro w hSw; obtain ⟨s0, s1, s2, -⟩ := hSw; go_simp; try with_reducible rfl)
  try simp only [Act.put, List.setIfInBounds_toArray, List.set_cons_zero, List.set_cons_succ]
  refine wpAnyH_take (i := 2) (oi := { dst := some 17, op := _, type := _, pos := _, after := _, guard := none }) (v := ?v2d) rfl (by kernel_rfl) (by kernel_rfl) (by kernel_rfl) (fun _ _ _ h => h) (Or.inl ⟨by rfl, ?y2d⟩) (by assumption) ?r2d
  (case y2d => intro w hSw; obtain ⟨s0, s1, s2, -⟩ := hSw; go_simp; try with_reducible rfl)
  try simp only [Act.put, List.setIfInBounds_toArray, List.set_cons_zero, List.set_cons_succ]
  refine wpAnyH_take (i := 3) (oi := { dst := some 18, op := _, type := _, pos := _, after := _, guard := none }) (v := ?v3d) rfl (by kernel_rfl) (by kernel_rfl) (by kernel_rfl) (fun _ _ _ h => h) (Or.inl ⟨by rfl, ?y3d⟩) (by assumption) ?r3d
  (case y3d => intro w hSw; obtain ⟨s0, s1, s2, -⟩ := hSw; go_simp; try with_reducible rfl)
  try simp only [Act.put, List.setIfInBounds_toArray, List.set_cons_zero, List.set_cons_succ]
  refine wpAnyH_take (i := 4) (oi := { dst := some 19, op := _, type := _, pos := _, after := _, guard := some (3, false) }) (v := ?v4d) rfl (by kernel_rfl) (by kernel_rfl) (by kernel_rfl) (fun _ _ _ h => h) (Or.inl ⟨by rfl, ?y4d⟩) (by assumption) ?r4d
  (case y4d => intro w hSw; obtain ⟨s0, s1, s2, -⟩ := hSw; go_simp; try with_reducible rfl)
  try simp only [Act.put, List.setIfInBounds_toArray, List.set_cons_zero, List.set_cons_succ]
  refine wpAnyH_take (i := 5) (oi := { dst := some 20, op := _, type := _, pos := _, after := _, guard := some (3, false) }) (v := ?v5d) rfl (by kernel_rfl) (by kernel_rfl) (by kernel_rfl) (fun _ _ _ h => h) (Or.inl ⟨by rfl, ?y5d⟩) (by assumption) ?r5d
  (case y5d => intro w hSw; obtain ⟨s0, s1, s2, -⟩ := hSw; go_simp; try with_reducible rfl)
  try simp only [Act.put, List.setIfInBounds_toArray, List.set_cons_zero, List.set_cons_succ]
  refine wpAnyH_take (i := 6) (oi := { dst := some 21, op := _, type := _, pos := _, after := _, guard := some (3, false) }) (v := ?v6d) rfl (by kernel_rfl) (by kernel_rfl) (by kernel_rfl) (fun _ _ _ h => h) (Or.inl ⟨by rfl, ?y6d⟩) (by assumption) ?r6d
  (case y6d => intro w hSw; obtain ⟨s0, s1, s2, -⟩ := hSw; go_simp; try with_reducible rfl)
  try simp only [Act.put, List.setIfInBounds_toArray, List.set_cons_zero, List.set_cons_succ]
  refine wpAnyH_take (i := 7) (oi := { dst := some 22, op := _, type := _, pos := _, after := _, guard := none }) (v := ?v7d) rfl (by kernel_rfl) (by kernel_rfl) (by kernel_rfl) (fun _ _ _ h => h) (Or.inl ⟨by rfl, ?y7d⟩) (by assumption) ?r7d
  (case y7d => intro w hSw; obtain ⟨s0, s1, s2, -⟩ := hSw; go_simp; try with_reducible rfl)
  try simp only [Act.put, List.setIfInBounds_toArray, List.set_cons_zero, List.set_cons_succ]
  refine wpAnyH_take (i := 8) (oi := { dst := some 23, op := _, type := _, pos := _, after := _, guard := none }) (v := ?v8d) rfl (by kernel_rfl) (by kernel_rfl) (by kernel_rfl) (fun _ _ _ h => h) (Or.inl ⟨by rfl, ?y8d⟩) (by assumption) ?r8d
  (case y8d => intro w hSw; obtain ⟨s0, s1, s2, -⟩ := hSw; go_simp; try with_reducible rfl)
  try simp only [Act.put, List.setIfInBounds_toArray, List.set_cons_zero, List.set_cons_succ]
  refine wpAnyH_take (i := 9) (oi := { dst := some 24, op := _, type := _, pos := _, after := _, guard := some (8, false) }) (v := ?v9d) rfl (by kernel_rfl) (by kernel_rfl) (by kernel_rfl) (fun _ _ _ h => h) (Or.inl ⟨by rfl, ?y9d⟩) (by assumption) ?r9d
  (case y9d => intro w hSw; obtain ⟨s0, s1, s2, -⟩ := hSw; go_simp; try with_reducible rfl)
  try simp only [Act.put, List.setIfInBounds_toArray, List.set_cons_zero, List.set_cons_succ]
  refine wpAnyH_take (i := 10) (oi := { dst := some 25, op := _, type := _, pos := _, after := _, guard := some (8, false) }) (v := ?v10d) rfl (by kernel_rfl) (by kernel_rfl) (by kernel_rfl) (fun _ _ _ h => h) (Or.inl ⟨by rfl, ?y10d⟩) (by assumption) ?r10d
  (case y10d => intro w hSw; obtain ⟨s0, s1, s2, -⟩ := hSw; go_simp; try with_reducible rfl)
  try simp only [Act.put, List.setIfInBounds_toArray, List.set_cons_zero, List.set_cons_succ]
  refine wpAnyH_take (i := 11) (oi := { dst := some 26, op := _, type := _, pos := _, after := _, guard := some (8, false) }) (v := ?v11d) rfl (by kernel_rfl) (by kernel_rfl) (by kernel_rfl) (fun _ _ _ h => h) (Or.inl ⟨by rfl, ?y11d⟩) (by assumption) ?r11d
  (case y11d => intro w hSw; obtain ⟨s0, s1, s2, -⟩ := hSw; go_simp; try with_reducible rfl)
  try simp only [Act.put, List.setIfInBounds_toArray, List.set_cons_zero, List.set_cons_succ]
  refine wpAnyH_take (i := 12) (oi := { dst := some 27, op := _, type := _, pos := _, after := _, guard := some (8, false) }) (v := ?v12d) rfl (by kernel_rfl) (by kernel_rfl) (by kernel_rfl) (fun _ _ _ h => h) (Or.inl ⟨by rfl, ?y12d⟩) (by assumption) ?r12d
  (case y12d => intro w hSw; obtain ⟨s0, s1, s2, -⟩ := hSw; go_simp; try with_reducible rfl)
  try simp only [Act.put, List.setIfInBounds_toArray, List.set_cons_zero, List.set_cons_succ]
  refine wpAnyH_take (i := 13) (oi := { dst := some 28, op := _, type := _, pos := _, after := _, guard := some (8, false) }) (v := ?v13d) rfl (by kernel_rfl) (by kernel_rfl) (by kernel_rfl) (fun _ _ _ h => h) (Or.inl ⟨by rfl, ?y13d⟩) (by assumption) ?r13d
  (case y13d => intro w hSw; obtain ⟨s0, s1, s2, -⟩ := hSw; go_simp; try with_reducible rfl)
  try simp only [Act.put, List.setIfInBounds_toArray, List.set_cons_zero, List.set_cons_succ]
  refine wpAnyH_ready (rs := [14]) (by kernel_rfl) (by simp) ?_
  refine AllReadyH.cons (o := { dst := some 29, op := _, type := _, pos := _, after := _, guard := some (8, false) }) rfl (fun K hK => ?_) AllReadyH.nil
  go_simp
  refine HCF.out.mono ?_
  rintro e w2 ⟨rfl, hb2⟩
  have b2 := b0.trans (hb2.mono b0.size)
  refine hK.out _ _ (HSB.out _ b2) (fun hHeld2 => ?_)
  clear hK K
  try simp only [Act.put, List.setIfInBounds_toArray, List.set_cons_zero, List.set_cons_succ]
  refine wpAnyH_take (i := 15) (oi := { dst := some 30, op := _, type := _, pos := _, after := _, guard := some (8, false) }) (v := ?v15d) rfl (by kernel_rfl) (by kernel_rfl) (by kernel_rfl) (fun _ _ _ h => h) (Or.inl ⟨by rfl, ?y15d⟩) (by assumption) ?r15d
  (case y15d => intro w hSw; obtain ⟨s0, s1, s2, -⟩ := hSw; go_simp; try with_reducible rfl)
  try simp only [Act.put, List.setIfInBounds_toArray, List.set_cons_zero, List.set_cons_succ]
  refine wpAnyH_take (i := 16) (oi := { dst := some 31, op := _, type := _, pos := _, after := _, guard := none }) (v := ?v16d) rfl (by kernel_rfl) (by kernel_rfl) (by kernel_rfl) (fun _ _ _ h => h) (Or.inl ⟨by rfl, ?y16d⟩) (by assumption) ?r16d
  (case y16d => intro w hSw; obtain ⟨s0, s1, s2, -⟩ := hSw; go_simp; try with_reducible rfl)
  try simp only [Act.put, List.setIfInBounds_toArray, List.set_cons_zero, List.set_cons_succ]
  refine wpAnyH_take (i := 17) (oi := { dst := some 14, op := _, type := _, pos := _, after := _, guard := none }) (v := ?v17d) rfl (by kernel_rfl) (by kernel_rfl) (by kernel_rfl) (fun _ _ _ h => h) (Or.inl ⟨by rfl, ?y17d⟩) (by assumption) ?r17d
  (case y17d => intro w hSw; obtain ⟨s0, s1, s2, -⟩ := hSw; go_simp; try with_reducible rfl)
  try simp only [Act.put, List.setIfInBounds_toArray, List.set_cons_zero, List.set_cons_succ]
  refine wpAnyH_done (by kernel_rfl) ?_ _
--R4dEND
  have HB2 := Lib.hid (HB1.out.trans (b2.mono HB1.out.size))
  have hS2 := HS1.out.below b2 (Nat.le_refl _)
  have HTK := Lib.hid (take_any hS2 (Nat.le_trans hbase HB2.out.size) hl HBL.out _ _ _ (pred_acked (b := w.heap.size) (c := w.heap.size + 1) ((HK1.out.below b2 lk).cell 13) ((HK1.out.below b2 lk).cell 14) h0 h1 ((HF1.out.below b2 lf).cell 0)) HS.out HND.out HST.out)
  clear hS2 hb2 b2 b0 hHeld hHeld2 HSB HCF HC
  go_wp2_with fail
  refine HTK.out.mono ?_
  rintro e w3 ⟨A3, n3, C3, L3, rfl, ho3, hm3, p3, hS3, hT3, hN3⟩
  have HS3 := Lib.hid hS3
  have HO3 := Lib.hid ho3
  have HM3 := Lib.hid hm3
  have HT3 := Lib.hid hT3
  have HN3 := Lib.hid hN3
  have HLD := Lib.hid (land_any hS3)
  clear hS3 ho3 hm3 hT3 hN3
  go_wp2_with fail
  refine HLD.out.mono ?_
  rintro e w4 ⟨rfl, hS4, hT4⟩
  have HS4 := Lib.hid hS4
  have HT4 := Lib.hid hT4
  clear hS4 hT4
  go_wp2_with fail
  go_ret2
  have zz := HB2.out.size
  refine ⟨A3, n3, C3, L3, rfl, ?_, HM3.out, p3, HS4.out, ?_, ?_⟩
  · refine (HO3.out.touch HT4.out ?_ ?_).base_le HB2.out.size
    · intro k hk hx
      have e := own_ne_own HO3.out.own HS3.out.own (by decide)
      rcases e with e | e
      · rw [e] at hk; cases hk
      · exact e (hk.trans hx.symm)
    · intro x hx k hk hx2
      have e := own_ne_own (HO3.out.body x hx) HS3.out.own (by decide)
      rcases e with e | e
      · rw [e] at hk; cases hk
      · exact e (hk.trans hx2.symm)
  · refine (touch_of_below (S := bsS B p s) HB2.out (fun k hk _ => hk)).trans (HT3.out.trans HT4.out (fun k hk hx => ?_)) (fun _ _ x => x)
    rcases HN3.out k (.inr (.inr (.inr (.inl hx)))) with h | h
    · exact h
    · omega
  · intro k hk
    rcases HN3.out k (bsS_map (f := land1) (fun _ => rfl) hk) with h | h
    · exact .inl h
    · exact .inr (Nat.le_trans zz h)
end
end Go.Proofs.YthjjneanabnjoaaDoor
