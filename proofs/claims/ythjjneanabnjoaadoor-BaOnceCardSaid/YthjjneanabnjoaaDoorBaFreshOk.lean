/-
  ba: Fresh where it gives a frame.
-/
import Derived.Test.YthjjneanabnjoaaDoorBaFresh
import Derived.Test.YthjjneanabnjoaaDoorTill
namespace Go.Proofs.YthjjneanabnjoaaDoor
open Go.ChangeShapes Go.WideShapes Go.ChangeAt Go.RowKit
set_option linter.unusedVariables false

theorem two_roads4 {G F : Nat → Option Addr → Nat → World → Prop} {goal : Prop} (ways : (∀ pb A C W, F pb A C W → G pb A C W) → goal) (rest : ∀ pb A C W, F pb A C W → G pb A C W) : goal := ways rest
def freshS (s : BS) (m : Mp) (now : Int) (A : Option Addr) (C : Nat) : BS := { s with w := nextS s.w, l := s.l ++ [⟨freshM s m now, false, A, C⟩] }
def FreshOk (w : World) (base B : Nat) (p : BP) (s : BS) (m : Mp) (now : Int) (e : Ending) (w' : World) : Prop :=
  ∃ A2 C2 A3 C3, e = .returned (.tuple #[.agg (mpA (freshM s m now) A3 C3), .nilIface]) ∧ OwnU8 w' w.heap.size A3 m.body.length C3 m.body ∧ BStep w w' base B p s (freshS s m now A2 C2)

theorem blk_ne_blk {w : World} {b k : Nat} {cs ds : Array Value} {t u : TypeId} (h : Blk w b cs t) (h2 : Blk w k ds u) (ht : u ≠ t) : b ≠ k := by
  intro e
  subst e
  unfold Blk at h h2
  rw [h] at h2
  injection h2 with h2
  injection h2 with _ h2
  exact ht h2.symm
theorem Bs.keepB {w w' : World} {base B : Nat} {p : BP} {s : BS} (h : Bs w base B p s) {k : Nat} {cs : Array Value} {t : TypeId} (hk : Blk w k cs t) (h1 : t ≠ 78) (h2 : t ≠ 94) (h3 : t ≠ 3) (h4 : t ≠ 81) (h5 : t ≠ 5) (hg : w.grownBy w' (some k)) : Bs w' base B p s :=
  ⟨h.blk.grown hg (by intro e; injection e with e; exact blk_ne_blk h.blk hk h1 e), ⟨h.win.blk.grown hg (by intro e; injection e with e; exact blk_ne_blk h.win.blk hk h2 e), own_keep h.win.own hg (.inr (Ne.symm (own_ne h.win.own hk h3)))⟩,
    own_keep h.own hg (.inr (Ne.symm (own_ne h.own hk h4))), fun x hx => (h.body x hx).keep hg (.inr (Ne.symm (own_ne (h.body x hx) hk h5)))⟩
theorem any_done {P : Program} {ops : Array Oper} {Q : Exit → Act → World → Prop} {md : Region.Mode} {fuel : Nat} {listed : Array Bool} {a : Act} {w : World} (hr : Region.ready md ops listed = []) (h : Q .normal a w) : wpAny P md ops Q fuel listed a w := by
  cases fuel with
  | zero => exact ⟨hr, h⟩
  | succ n => exact ⟨fun _ => h, fun i hi => by rw [hr] at hi; cases hi⟩
theorem mp_range {w : World} {n : Nat} {m : Mp} {A : Option Addr} {C : Nat} {t : TypeId} (h : Blk w n (mpA m A C) t) : w.rangeAt n 0 (mdC ⟨m, A, C⟩) := fun j v hv => by
  rw [Nat.zero_add, h.cell]
  simpa [mpA, mdC] using hv
section
variable {w : World} {base B : Nat} {p : BP} {s : BS} {E : Nat → Addr}
set_option maxRecDepth 100000 in
set_option maxHeartbeats 3200000 in
theorem fresh_ok (h : Bs w base B p s) (hbase : base ≤ w.heap.size) (m : Mp) (A : Option Addr) (C : Nat) (now : Int) (hrow : Row w 1 A m.body.length C (m.body.map u8v)) (hml : m.body.length ≤ 1048576) (hs : s.state ≠ 2) (ha : s.asks = false) (h1 : 0 ≤ s.w.sz) (h2 : s.w.sz ≤ 1000000) (hr : ¬ room s.w = 0) (hol : s.w.o.length ≤ 1000000) (hl : s.l.length ≤ 1000000)
    (hn : 0 ≤ now ∧ now ≤ 1125899906842624) (hlf : 0 ≤ s.life ∧ s.life ≤ 1125899906842624) (hsep : ∀ k, blk A = some k → ¬ wnS p.W p.AW k) :
    Calls Tryd.prog 12 #[.pointer (some ⟨B, 0, none⟩), .agg (pkA m A C), .int .i64 now] w (FreshOk w base B p s m now) := by
  have hk0 := (h.alloc (.cells (pkA m A C) 32)).alloc (.cells zmp 34)
  have c4 := hk0.c4
  have c7 := hk0.c7
  have c0 := hk0.c0
  rw [ha] at c7
  have g4 : (s.state == 2) = false := by simp [hs]
  have hp0 := (Blk.new w (pkA m A C) 32).alloc (.cells zmp 34)
  have hr0 := Blk.new (w.alloc (.cells (pkA m A C) 32)) zmp 34
  rw [show (w.alloc (.cells (pkA m A C) 32)).heap.size = w.heap.size + 1 by simp] at hr0
  have hb0 : Below w.heap.size w ((w.alloc (.cells (pkA m A C) 32)).alloc (.cells zmp 34)) := ((Below.refl _ _).alloc (Nat.le_refl _) _).alloc (by simp) _
  have hrow0 := (hrow.alloc (.cells (pkA m A C) 32)).alloc (.cells zmp 34)
  have HR := Lib.hid hr0
  have HP := Lib.hid hp0
  have HB := Lib.hid hb0
  have HK := Lib.hid hk0
  have HROW := Lib.hid hrow0
  have hbb := h.lt
  have hWl : ∀ k, wnS p.W p.AW k → k < w.heap.size := fun k hk => by
    rcases hk with e | e
    · rw [e]; exact h.win.blk.lt
    · exact (h.win.own.ge k e).2
  have HWL := Lib.hid hWl
  have HSEP := Lib.hid hsep
  clear hWl hsep
  have HC := Lib.hid (next_yes hk0.win h1 h2 hr hol (by simp; omega))
  clear hr0 hb0 hk0 h hs hp0 hrow hrow0 ha hr
  rw [zmp_eq] at c4 c7 c0 HR HB HP HK HROW HC
  go_enter Tryd.func12, Tryd.ntmps12
  go_wp2_with fail
  generalize (w.alloc _).alloc _ = W0 at *
  clear c0 c4 c7
  refine HC.out.mono ?_
  rintro e w1 ⟨rfl, A5, C5, hw5, ht5, hn5⟩
  have HK1 := Lib.hid (HK.out.winStep hw5 ht5)
  have HT1 := Lib.hid ht5
  have HN5 := Lib.hid hn5
  have HP1 := Lib.hid (HP.out.touch ht5 (fun hx => by have := HWL.out _ hx; omega))
  have HR1 := Lib.hid (HR.out.touch ht5 (fun hx => by have := HWL.out _ hx; omega))
  have HROW1 := Lib.hid (HROW.out.keep ht5.size (fun k hk hlt => ht5.block k hlt (HSEP.out k hk)))
  clear hw5 ht5 hn5 HC
  have zp := HP1.out.lt
  have zb := HK1.out.lt
  have wa : IntKind.i64.wrap (now + s.life) = now + s.life := IntWalk.i64_in _ (by omega)
  have HSB := Lib.hid (fun (y : World) (hy : Below w1.heap.size w1 y) => show y.cell? ⟨w.heap.size, 0, none⟩ = some (.int .i64 m.id) ∧ y.cell? ⟨w.heap.size, 1, none⟩ = some (.int .u32 m.flow) ∧ y.cell? ⟨w.heap.size, 2, none⟩ = some (.int .i64 m.tid) ∧ y.cell? ⟨w.heap.size, 3, none⟩ = some (.int .i64 m.at_) ∧ y.cell? ⟨w.heap.size, 4, none⟩ = some (.slice A m.body.length C) ∧ y.cell? ⟨B, 3, none⟩ = some (.int .i64 s.life) ∧ Below w1.heap.size w1 y from
    ⟨(HP1.out.below hy zp).cell 0, (HP1.out.below hy zp).cell 1, (HP1.out.below hy zp).cell 2, (HP1.out.below hy zp).cell 3, (HP1.out.below hy zp).cell 4, (HK1.out.below hy (Nat.le_refl _)).c3, hy⟩)
  have b0 : Below w1.heap.size w1 w1.drew := below_drewN 1
  have HZ0 := Lib.hid ((Blk.new w1 #[.int .i64 0, .int .u32 0, .int .i64 0, .int .i64 0, .slice none 0 0, .int .i64 0, .int .i64 0, .int .i64 0] 34).drew)
  have HOA := Lib.hid (fun (y : World) (hy : Below w1.heap.size w1 y) => own_any (freshM s m now) A C y (HROW1.out.below hy (Nat.le_refl _)) hml)
  unfold freshM mpA at HOA
  simp only [] at HOA
  go_wp2_with fail
--REGION8
  apply two_roads4 (F := fun pb AA CC W => Blk W pb (mpA (freshM s m now) AA CC) 34 ∧ OwnU8 W w1.heap.size AA m.body.length CC m.body ∧ Below w1.heap.size w1 W ∧ w1.heap.size ≤ pb)
  case ways =>
    intro REST
    refine wp_region_held_drew (S := (fun y => y.cell? ⟨w.heap.size, 0, none⟩ = some (.int .i64 m.id) ∧ y.cell? ⟨w.heap.size, 1, none⟩ = some (.int .u32 m.flow) ∧ y.cell? ⟨w.heap.size, 2, none⟩ = some (.int .i64 m.tid) ∧ y.cell? ⟨w.heap.size, 3, none⟩ = some (.int .i64 m.at_) ∧ y.cell? ⟨w.heap.size, 4, none⟩ = some (.slice A m.body.length C) ∧ y.cell? ⟨B, 3, none⟩ = some (.int .i64 s.life) ∧ Below w1.heap.size w1 y)) (by kernel_rfl) ?_ (fun hHeld => ?_)
    · exact HSB.out _ b0
    refine wpAnyH_take (i := 0) (oi := { dst := some 36, op := _, type := _, pos := _, after := _, guard := none }) (v := ?v0) rfl (by kernel_rfl) (by kernel_rfl) (by kernel_rfl) (fun _ _ _ h => h) (Or.inl ⟨by rfl, ?y0⟩) (by assumption) ?r0
    (case y0 => intro w hSw; obtain ⟨q0, q1, q2, q3, q4, q5, -⟩ := hSw; go_simp; try with_reducible rfl)
    try simp only [Act.put, List.setIfInBounds_toArray, List.set_cons_zero, List.set_cons_succ]
    refine wpAnyH_take (i := 1) (oi := { dst := some 37, op := _, type := _, pos := _, after := _, guard := none }) (v := ?v1) rfl (by kernel_rfl) (by kernel_rfl) (by kernel_rfl) (fun _ _ _ h => h) (Or.inl ⟨by rfl, ?y1⟩) (by assumption) ?r1
    (case y1 => intro w hSw; obtain ⟨q0, q1, q2, q3, q4, q5, -⟩ := hSw; go_simp; try with_reducible rfl)
    try simp only [Act.put, List.setIfInBounds_toArray, List.set_cons_zero, List.set_cons_succ]
    refine wpAnyH_take (i := 2) (oi := { dst := some 38, op := _, type := _, pos := _, after := _, guard := none }) (v := ?v2) rfl (by kernel_rfl) (by kernel_rfl) (by kernel_rfl) (fun _ _ _ h => h) (Or.inl ⟨by rfl, ?y2⟩) (by assumption) ?r2
    (case y2 => intro w hSw; obtain ⟨q0, q1, q2, q3, q4, q5, -⟩ := hSw; go_simp; try with_reducible rfl)
    try simp only [Act.put, List.setIfInBounds_toArray, List.set_cons_zero, List.set_cons_succ]
    refine wpAnyH_take (i := 3) (oi := { dst := some 39, op := _, type := _, pos := _, after := _, guard := none }) (v := ?v3) rfl (by kernel_rfl) (by kernel_rfl) (by kernel_rfl) (fun _ _ _ h => h) (Or.inl ⟨by rfl, ?y3⟩) (by assumption) ?r3
    (case y3 => intro w hSw; obtain ⟨q0, q1, q2, q3, q4, q5, -⟩ := hSw; go_simp; try with_reducible rfl)
    try simp only [Act.put, List.setIfInBounds_toArray, List.set_cons_zero, List.set_cons_succ]
    refine wpAnyH_take (i := 4) (oi := { dst := some 40, op := _, type := _, pos := _, after := _, guard := none }) (v := ?v4) rfl (by kernel_rfl) (by kernel_rfl) (by kernel_rfl) (fun _ _ _ h => h) (Or.inl ⟨by rfl, ?y4⟩) (by assumption) ?r4
    (case y4 => intro w hSw; obtain ⟨q0, q1, q2, q3, q4, q5, -⟩ := hSw; go_simp; try with_reducible rfl)
    try simp only [Act.put, List.setIfInBounds_toArray, List.set_cons_zero, List.set_cons_succ]
    refine wpAnyH_take (i := 5) (oi := { dst := some 41, op := _, type := _, pos := _, after := _, guard := none }) (v := ?v5) rfl (by kernel_rfl) (by kernel_rfl) (by kernel_rfl) (fun _ _ _ h => h) (Or.inl ⟨by rfl, ?y5⟩) (by assumption) ?r5
    (case y5 => intro w hSw; obtain ⟨q0, q1, q2, q3, q4, q5, -⟩ := hSw; go_simp; try with_reducible rfl)
    try simp only [Act.put, List.setIfInBounds_toArray, List.set_cons_zero, List.set_cons_succ]
    refine wpAnyH_take (i := 6) (oi := { dst := some 42, op := _, type := _, pos := _, after := _, guard := none }) (v := ?v6) rfl (by kernel_rfl) (by kernel_rfl) (by kernel_rfl) (fun _ _ _ h => h) (Or.inl ⟨by rfl, ?y6⟩) (by assumption) ?r6
    (case y6 => intro w hSw; obtain ⟨q0, q1, q2, q3, q4, q5, -⟩ := hSw; go_simp; try with_reducible rfl)
    try simp only [Act.put, List.setIfInBounds_toArray, List.set_cons_zero, List.set_cons_succ]
    refine wpAnyH_take (i := 7) (oi := { dst := some 43, op := _, type := _, pos := _, after := _, guard := none }) (v := ?v7) rfl (by kernel_rfl) (by kernel_rfl) (by kernel_rfl) (fun _ _ _ h => h) (Or.inl ⟨by rfl, ?y7⟩) (by assumption) ?r7
    (case y7 => intro w hSw; obtain ⟨q0, q1, q2, q3, q4, q5, -⟩ := hSw; go_simp; try with_reducible rfl)
    try simp only [Act.put, List.setIfInBounds_toArray, List.set_cons_zero, List.set_cons_succ]
    refine wpAnyH_take (i := 8) (oi := { dst := some 44, op := _, type := _, pos := _, after := _, guard := none }) (v := ?v8) rfl (by kernel_rfl) (by kernel_rfl) (by kernel_rfl) (fun _ _ _ h => h) (Or.inl ⟨by rfl, ?y8⟩) (by assumption) ?r8
    (case y8 => intro w hSw; obtain ⟨q0, q1, q2, q3, q4, q5, -⟩ := hSw; go_simp; try with_reducible rfl)
    try simp only [Act.put, List.setIfInBounds_toArray, List.set_cons_zero, List.set_cons_succ]
    refine wpAnyH_ready (rs := [9, 10]) (by kernel_rfl) (by simp) ?_
    refine AllReadyH.cons (o := { dst := some 45, op := _, type := _, pos := _, after := _, guard := none }) rfl (fun K hK => ?_) (AllReadyH.cons (o := { dst := some 10, op := _, type := _, pos := _, after := _, guard := none }) rfl (fun K hK => ?_) AllReadyH.nil)
    · go_simp
      refine (HOA.out _ b0).mono ?_
      rintro e w2 ⟨A6, C6, rfl, ho6, hb6⟩
      have b2 := b0.trans (hb6.mono b0.size)
      have ho2 := ho6.base_le (b' := w1.heap.size) b0.size
      clear ho6 hb6
      refine hK.out _ _ (HSB.out _ b2) (fun hHeld2 => ?_)
      clear hK
      try simp only [Act.put, List.setIfInBounds_toArray, List.set_cons_zero, List.set_cons_succ]
      refine wpAnyH_ready (rs := [10]) (by kernel_rfl) (by simp) ?_
      refine AllReadyH.cons (o := { dst := some 10, op := _, type := _, pos := _, after := _, guard := none }) rfl (fun K hK => ?_) AllReadyH.nil
      go_simp
      have b3 := b2.alloc b2.size (.cells #[.int .i64 0, .int .u32 0, .int .i64 0, .int .i64 0, .slice none 0 0, .int .i64 0, .int .i64 0, .int .i64 0] 34)
      have hk3 := Blk.new w2 #[.int .i64 0, .int .u32 0, .int .i64 0, .int .i64 0, .slice none 0 0, .int .i64 0, .int .i64 0, .int .i64 0] 34
      have ho3 := ho2.alloc (.cells #[.int .i64 0, .int .u32 0, .int .i64 0, .int .i64 0, .slice none 0 0, .int .i64 0, .int .i64 0, .int .i64 0] 34)
      have hge := b2.size
      refine hK.out _ _ (HSB.out _ b3) (fun hHeld3 => ?_)
      clear hK hHeld2
      try simp only [Act.put, List.setIfInBounds_toArray, List.set_cons_zero, List.set_cons_succ]
      generalize w2.alloc _ = V at *
      generalize w2.heap.size = pb at *
      refine wpAnyH_ready (rs := [11]) (by kernel_rfl) (by simp) ?_
      refine AllReadyH.cons (o := { dst := none, op := _, type := _, pos := _, after := _, guard := none }) rfl (fun K hK => as_wanted rfl (wp_store_blk _ _ _ _ rfl pb (mpA (freshM s m now) A6 C6) rfl rfl 34 #[.int .i64 0, .int .u32 0, .int .i64 0, .int .i64 0, .slice none 0 0, .int .i64 0, .int .i64 0, .int .i64 0] hk3 (by kernel_rfl) rfl (mp_one _ _ _) ?_)) AllReadyH.nil
      intro WE hkE hgE
      have bE := Below.grown b3 hgE b3.size (by simp; try omega)
      have hoE := ho3.keep hgE (.inr (Ne.symm (ho3.ne_blk hk3 (by decide))))
      refine hK.out _ _ (HSB.out _ bE) (fun _ => ?_)
      try simp only [Act.put, List.setIfInBounds_toArray, List.set_cons_zero, List.set_cons_succ]
      refine wpAnyH_done (by kernel_rfl) ?_ _
      exact REST _ _ _ _ ⟨hkE, hoE, bE, hge⟩
    · go_simp
      have hk2 := (Blk.new w1 #[.int .i64 0, .int .u32 0, .int .i64 0, .int .i64 0, .slice none 0 0, .int .i64 0, .int .i64 0, .int .i64 0] 34).drew
      have b2 : Below w1.heap.size w1 (w1.alloc (.cells #[.int .i64 0, .int .u32 0, .int .i64 0, .int .i64 0, .slice none 0 0, .int .i64 0, .int .i64 0, .int .i64 0] 34)).drew := ((Below.refl _ _).alloc (Nat.le_refl _) _).trans (below_drewN 1)
      refine hK.out _ _ (HSB.out _ b2) (fun hHeld2 => ?_)
      clear hK
      try simp only [Act.put, List.setIfInBounds_toArray, List.set_cons_zero, List.set_cons_succ]
      generalize (w1.alloc _).drew = V at *
      have hk2l := hk2.lt
      refine wpAnyH_ready (rs := [9]) (by kernel_rfl) (by simp) ?_
      refine AllReadyH.cons (o := { dst := some 45, op := _, type := _, pos := _, after := _, guard := none }) rfl (fun K hK => ?_) AllReadyH.nil
      go_simp
      refine (HOA.out _ b2).mono ?_
      rintro e w2 ⟨A6, C6, rfl, ho6, hb6⟩
      have b3 := b2.trans (hb6.mono b2.size)
      have ho3 := ho6.base_le (b' := w1.heap.size) b2.size
      have hk3 := hk2.below hb6 hk2l
      have hge : w1.heap.size ≤ w1.heap.size := Nat.le_refl _
      clear ho6 hb6
      refine hK.out _ _ (HSB.out _ b3) (fun hHeld3 => ?_)
      clear hK hHeld2
      try simp only [Act.put, List.setIfInBounds_toArray, List.set_cons_zero, List.set_cons_succ]
      refine wpAnyH_ready (rs := [11]) (by kernel_rfl) (by simp) ?_
      refine AllReadyH.cons (o := { dst := none, op := _, type := _, pos := _, after := _, guard := none }) rfl (fun K hK => as_wanted rfl (wp_store_blk _ _ _ _ rfl w1.heap.size (mpA (freshM s m now) A6 C6) rfl rfl 34 #[.int .i64 0, .int .u32 0, .int .i64 0, .int .i64 0, .slice none 0 0, .int .i64 0, .int .i64 0, .int .i64 0] hk3 (by kernel_rfl) rfl (mp_one _ _ _) ?_)) AllReadyH.nil
      intro WE hkE hgE
      have bE := Below.grown b3 hgE b3.size (by simp; try omega)
      have hoE := ho3.keep hgE (.inr (Ne.symm (ho3.ne_blk hk3 (by decide))))
      refine hK.out _ _ (HSB.out _ bE) (fun _ => ?_)
      try simp only [Act.put, List.setIfInBounds_toArray, List.set_cons_zero, List.set_cons_succ]
      refine wpAnyH_done (by kernel_rfl) ?_ _
      exact REST _ _ _ _ ⟨hkE, hoE, bE, hge⟩
--REGION8END
  case rest =>
    rintro pb A6 C6 w3 ⟨hk3, ho3, b3, hge⟩
    have HK3 := Lib.hid hk3
    have HO3 := Lib.hid ho3
    have HB3 := Lib.hid b3
    have HBs := Lib.hid (HK1.out.below b3 (Nat.le_refl _))
    have lpb := hk3.lt
    have HSC := Lib.hid (fun (y : World) (hy : Below w3.heap.size w3 y) => show y.cell? ⟨B, 6, none⟩ = some (.slice p.A s.l.length p.C) ∧ y.rangeAt pb 0 [.int .i64 m.id, .int .u32 m.flow, .int .i64 m.tid, .int .i64 m.at_, .slice A6 m.body.length C6, .int .i64 s.w.nx, .int .i64 0, .int .i64 (now + s.life)] from
      ⟨(HBs.out.below hy (Nat.le_refl _)).c6, mp_range (HK3.out.below hy lpb)⟩)
    clear hk3 ho3 b3
    go_wp2_with fail
--REGION9
    have b30 : Below w3.heap.size w3 w3.drew := below_drewN 1
    refine till_start 11 (fun y => y.cell? ⟨B, 6, none⟩ = some (.slice p.A s.l.length p.C) ∧ y.rangeAt pb 0 [.int .i64 m.id, .int .u32 m.flow, .int .i64 m.tid, .int .i64 m.at_, .slice A6 m.body.length C6, .int .i64 s.w.nx, .int .i64 0, .int .i64 (now + s.life)]) (by kernel_rfl) (HSC.out _ b30) (fun hHeld => ?_)
    refine till_take [] (i := 0) (oi := { dst := some 46, op := _, type := _, pos := _, after := _, guard := none }) (v := ?v0n) rfl (by kernel_rfl) (by kernel_rfl) (by kernel_rfl) (by kernel_rfl) (by kernel_rfl) (fun _ _ _ h => h) (Or.inl ⟨by rfl, ?y0n⟩) (by assumption) ?r0n
    (case y0n => intro w hSw; obtain ⟨q0, -⟩ := hSw; go_simp; try with_reducible rfl)
    try simp only [Act.put, List.setIfInBounds_toArray, List.set_cons_zero, List.set_cons_succ]
    refine till_take [] (i := 1) (oi := { dst := some 47, op := _, type := _, pos := _, after := _, guard := none }) (v := ?v1n) rfl (by kernel_rfl) (by kernel_rfl) (by kernel_rfl) (by kernel_rfl) (by kernel_rfl) (fun _ _ _ h => h) (Or.inl ⟨by rfl, ?y1n⟩) (by assumption) ?r1n
    (case y1n => intro w hSw; obtain ⟨q0, -⟩ := hSw; go_simp; try with_reducible rfl)
    try simp only [Act.put, List.setIfInBounds_toArray, List.set_cons_zero, List.set_cons_succ]
    refine till_take [] (i := 2) (oi := { dst := some 48, op := _, type := _, pos := _, after := _, guard := none }) (v := ?v2n) rfl (by kernel_rfl) (by kernel_rfl) (by kernel_rfl) (by kernel_rfl) (by kernel_rfl) (fun _ _ _ h => h) (Or.inl ⟨by rfl, ?y2n⟩) (by assumption) ?r2n
    (case y2n => intro w hSw; obtain ⟨q0, -⟩ := hSw; go_simp; try with_reducible rfl)
    try simp only [Act.put, List.setIfInBounds_toArray, List.set_cons_zero, List.set_cons_succ]
    refine till_take [] (i := 3) (oi := { dst := some 49, op := _, type := _, pos := _, after := _, guard := none }) (v := ?v3n) rfl (by kernel_rfl) (by kernel_rfl) (by kernel_rfl) (by kernel_rfl) (by kernel_rfl) (fun _ _ _ h => h) (Or.inl ⟨by rfl, ?y3n⟩) (by assumption) ?r3n
    (case y3n => intro w hSw; obtain ⟨q0, -⟩ := hSw; go_simp; try with_reducible rfl)
    try simp only [Act.put, List.setIfInBounds_toArray, List.set_cons_zero, List.set_cons_succ]
    refine till_take [] (i := 4) (oi := { dst := some 50, op := _, type := _, pos := _, after := _, guard := none }) (v := ?v4n) rfl (by kernel_rfl) (by kernel_rfl) (by kernel_rfl) (by kernel_rfl) (by kernel_rfl) (fun _ _ _ h => h) (Or.inl ⟨by rfl, ?y4n⟩) (by assumption) ?r4n
    (case y4n => intro w hSw; obtain ⟨q0, -⟩ := hSw; go_simp; try with_reducible rfl)
    try simp only [Act.put, List.setIfInBounds_toArray, List.set_cons_zero, List.set_cons_succ]
    refine till_take [] (i := 5) (oi := { dst := some 51, op := _, type := _, pos := _, after := _, guard := none }) (v := Value.agg ([.int .i64 m.id, .int .u32 m.flow, .int .i64 m.tid, .int .i64 m.at_, .slice A6 m.body.length C6, .int .i64 s.w.nx, .int .i64 0, .int .i64 (now + s.life)] : List Value).toArray) rfl (by kernel_rfl) (by kernel_rfl) (by kernel_rfl) (by kernel_rfl) (by kernel_rfl) (fun _ _ _ h => h) ?y5n (by assumption) ?r5n
    (case y5n => exact yieldsIf_load_mid (S := (fun y => y.cell? ⟨B, 6, none⟩ = some (.slice p.A s.l.length p.C) ∧ y.rangeAt pb 0 [.int .i64 m.id, .int .u32 m.flow, .int .i64 m.tid, .int .i64 m.at_, .slice A6 m.body.length C6, .int .i64 s.w.nx, .int .i64 0, .int .i64 (now + s.life)])) (by rfl) 34 (.tmp 10) rfl pb 0 rfl [.int .i64 m.id, .int .u32 m.flow, .int .i64 m.tid, .int .i64 m.at_, .slice A6 m.body.length C6, .int .i64 s.w.nx, .int .i64 0, .int .i64 (now + s.life)] _ (fun w hw => hw.2) Tryd.underlying34 rfl (by kernel_rfl))
    try simp only [Act.put, List.setIfInBounds_toArray, List.set_cons_zero, List.set_cons_succ]
    refine till_take [] (i := 6) (oi := { dst := some 52, op := _, type := _, pos := _, after := _, guard := none }) (v := ?v6n) rfl (by kernel_rfl) (by kernel_rfl) (by kernel_rfl) (by kernel_rfl) (by kernel_rfl) (fun _ _ _ h => h) (Or.inl ⟨by rfl, ?y6n⟩) (by assumption) ?r6n
    (case y6n => intro w hSw; obtain ⟨q0, -⟩ := hSw; go_simp; try with_reducible rfl)
    try simp only [Act.put, List.setIfInBounds_toArray, List.set_cons_zero, List.set_cons_succ]
    refine till_ready (rs := [7]) (by kernel_rfl) (by simp) ?_
    refine TillAll.cons (by decide) (o := { dst := some 53, op := _, type := _, pos := _, after := _, guard := none }) rfl (fun K hK => ?_) TillAll.nil
    go_simp
    have b4 : Below w3.heap.size w3 (w3.alloc (.cells #[.int .i64 m.id, .int .u32 m.flow, .int .i64 m.tid, .int .i64 m.at_, .slice A6 m.body.length C6, .int .i64 s.w.nx, .int .i64 0, .int .i64 (now + s.life), .bool false] 81)).drew := ((Below.refl _ _).alloc (Nat.le_refl _) _).trans (below_drewN 1)
    have hrow4 := (row_frame w3 ⟨freshM s m now, false, A6, C6⟩ 81 _ rfl).drew
    refine hK.out _ _ (HSC.out _ b4) ?_
    clear hK
    try simp only [Act.put, List.setIfInBounds_toArray, List.set_cons_zero, List.set_cons_succ]
    obtain ⟨w4, hw4⟩ : ∃ w4, w4 = (w3.alloc (.cells #[.int .i64 m.id, .int .u32 m.flow, .int .i64 m.tid, .int .i64 m.at_, .slice A6 m.body.length C6, .int .i64 s.w.nx, .int .i64 0, .int .i64 (now + s.life), .bool false] 81)).drew := ⟨_, rfl⟩
    have HROW4 : Hid (Row w4 9 (some ⟨w3.heap.size, 0, none⟩) 1 1 (fmC ⟨freshM s m now, false, A6, C6⟩)) := Lib.hid (by rw [hw4]; exact hrow4)
    have HB4 : Hid (Below w3.heap.size w3 w4) := Lib.hid (by rw [hw4]; exact b4)
    rw [← hw4]
    clear hrow4 b4 hw4 hHeld b30
    have hHeld4 := HSC.out w4 HB4.out
    have HBs4 := Lib.hid (HBs.out.below HB4.out (Nat.le_refl _))
    have HO4 := Lib.hid (HO3.out.below HB4.out (Nat.le_refl _))
    have HK4 := Lib.hid (HK3.out.below HB4.out lpb)
    have hz4 := HB4.out.size
    obtain ⟨i0, hi0, hz0, hz1, hz2⟩ := info_parts info_frame
    refine till_ready (rs := [8]) (by kernel_rfl) (by simp) ?_
    refine TillAll.cons (by decide) (o := { dst := some 54, op := _, type := _, pos := _, after := _, guard := none }) rfl (fun K hK => as_wanted rfl (wp_append_row _ (.tmp 50) (.tmp 53) _ rfl base _ i0 _ 9 88 Tryd.underlying76 hi0 hz0 hz1 hz2 rfl (by decide) p.A s.l.length p.C (s.l.flatMap fmC) rfl HBs4.out.own (some ⟨w3.heap.size, 0, none⟩) 1 1 (fmC ⟨freshM s m now, false, A6, C6⟩) rfl HROW4.out (fmC_one _) (by unfold maxLen; omega) (by omega) (by omega) ?_)) TillAll.nil
    intro A7 C7 w5 ho7 hg7 hat7 _
    have hB5 := HBs4.out.blk.grown hg7 HBs4.out.neA
    have hk5 := HK4.out.grown hg7 (own_ne HBs4.out.own HK4.out (by decide))
    have hHeld5 : w5.cell? ⟨B, 6, none⟩ = some (.slice p.A s.l.length p.C) ∧ w5.rangeAt pb 0 [.int .i64 m.id, .int .u32 m.flow, .int .i64 m.tid, .int .i64 m.at_, .slice A6 m.body.length C6, .int .i64 s.w.nx, .int .i64 0, .int .i64 (now + s.life)] := ⟨hB5.cell 6, mp_range hk5⟩
    refine hK.out _ _ hHeld5 ?_
    clear hK hHeld4
    try simp only [Act.put, List.setIfInBounds_toArray, List.set_cons_zero, List.set_cons_succ]
    refine till_take [10] (i := 9) (oi := { dst := some 55, op := _, type := _, pos := _, after := _, guard := none }) (v := ?v9q) rfl (by kernel_rfl) (by kernel_rfl) (by kernel_rfl) (by kernel_rfl) (by kernel_rfl) (fun _ _ _ h => h) (Or.inl ⟨by rfl, ?y9q⟩) (by assumption) ?r9q
    (case y9q => intro w hSw; obtain ⟨q0, -⟩ := hSw; go_simp; try with_reducible rfl)
    try simp only [Act.put, List.setIfInBounds_toArray, List.set_cons_zero, List.set_cons_succ]
    refine till_take [] (i := 10) (oi := { dst := some 56, op := _, type := _, pos := _, after := _, guard := none }) (v := ?v10q) rfl (by kernel_rfl) (by kernel_rfl) (by kernel_rfl) (by kernel_rfl) (by kernel_rfl) (fun _ _ _ h => h) (Or.inl ⟨by rfl, ?y10q⟩) (by assumption) ?r10q
    (case y10q => intro w hSw; obtain ⟨q0, -⟩ := hSw; go_simp; try with_reducible rfl)
    try simp only [Act.put, List.setIfInBounds_toArray, List.set_cons_zero, List.set_cons_succ]
    have e6 : w5.cell? ⟨B, 6, none⟩ = some (.slice p.A s.l.length p.C) := hB5.cell 6
    have f6 := hB5.frozen 6
    refine till_st (o := { dst := none, op := _, type := _, pos := _, after := _, guard := none }) (by kernel_rfl) rfl (fun K hK => ?_)
    go_simp
    refine hK.out _ _ ?_
    clear hK
    try simp only [Act.put, List.setIfInBounds_toArray, List.set_cons_zero, List.set_cons_succ]
    refine any_done (by kernel_rfl) ?_
--REGION9END
    have nWA := own_ne_own HBs4.out.own HBs4.out.win.own (by decide)
    have hWn5 : Wn w5 base p.W A5 C5 (nextS s.w) := ⟨HBs4.out.win.blk.grown hg7 HBs4.out.neWA, own_keep HBs4.out.win.own hg7 (own_ne_own HBs4.out.win.own HBs4.out.own (by decide))⟩
    have hbody5 : ∀ x ∈ s.l, OwnU8 w5 base x.A x.m.body.length x.C x.m.body := fun x hx => (HBs4.out.body x hx).keep hg7 (own_ne_own (HBs4.out.body x hx) HBs4.out.own (by decide))
    have hnew5 := HO4.out.keep hg7 (own_ne_own HO4.out HBs4.out.own (by decide))
    have hb1w : base ≤ w1.heap.size := by omega
    have ho6 : w5.ownsRow base 81 9 (.slice A7 (freshS s m now A6 C6).l.length C7) (freshS s m now A6 C6).l.length ((freshS s m now A6 C6).l.flatMap fmC) := by
      show w5.ownsRow base 81 9 (.slice A7 (s.l ++ [_]).length C7) (s.l ++ [_]).length ((s.l ++ [_]).flatMap fmC)
      rw [List.length_append, List.flatMap_append, List.flatMap_singleton]
      exact ho7
    have nB7 : some B ≠ blk A7 := own_ne ho6 hB5 (by decide)
    have hB6 : Bs (w5.setCell ⟨B, 6, none⟩ (.slice A7 (s.l.length + 1) C7)) base B ⟨p.W, A5, C5, A7, C7⟩ (freshS s m now A6 C6) := by
      refine ⟨?_, ⟨hWn5.blk.far (p := ⟨B, 6, none⟩) (Ne.symm HBs4.out.neW) _, hWn5.own.far ⟨B, 6, none⟩ HBs4.out.neAW _⟩, own_far ho6 ⟨B, 6, none⟩ nB7 _, ?_⟩
      · have := hB5.set_ 6 (.slice A7 (s.l.length + 1) C7)
        have e : (bsA ⟨p.W, A5, C5, p.A, p.C⟩ { s with w := nextS s.w }).setIfInBounds 6 (.slice A7 (s.l.length + 1) C7) = bsA ⟨p.W, A5, C5, A7, C7⟩ (freshS s m now A6 C6) := by
          unfold bsA freshS
          simp only [List.length_append, List.length_singleton]
          rfl
        rw [← e]; exact this
      · intro x hx
        rcases List.mem_append.1 hx with hx | hx
        · exact ownU8_far (hbody5 x hx) ⟨B, 6, none⟩ (own_ne (hbody5 x hx) hB5 (by decide)) _
        · rw [List.mem_singleton] at hx
          subst hx
          exact ownU8_far (hnew5.base_le hb1w) ⟨B, 6, none⟩ (own_ne hnew5 hB5 (by decide)) _
    have hk6 : Blk (w5.setCell ⟨B, 6, none⟩ (.slice A7 (s.l.length + 1) C7)) pb (mpA (freshM s m now) A6 C6) 34 := hk5.far (p := ⟨B, 6, none⟩) (by intro e; have e2 : pb = B := e; rw [e2] at hge; omega) _
    have hR4 := (HR1.out.below HB3.out (by have := HR1.out.lt; omega)).below HB4.out (by have := HR1.out.lt; have := HB3.out.size; omega)
    have hR5 := hR4.grown hg7 (own_ne HBs4.out.own hR4 (by decide))
    have hR6 := hR5.far (p := ⟨B, 6, none⟩) (by show w.heap.size + 1 ≠ B; omega) (.slice A7 (s.l.length + 1) C7)
    have hT6 : Touch (bsS B p s) w (w5.setCell ⟨B, 6, none⟩ (.slice A7 (s.l.length + 1) C7)) := by
      have t0 : Touch (bsS B p s) w W0 := touch_of_below HB.out (fun k hk _ => hk)
      have t1 : Touch (bsS B p s) w w1 := t0.trans HT1.out (fun k hk hs => by
        rcases hs with e | e
        · exact .inr (.inl e)
        · exact .inr (.inr (.inl e)))
      have t3 : Touch (bsS B p s) w w3 := t1.trans (touch_of_below (S := fun _ => False) HB3.out (fun k hk _ => hk)) (fun k hk hs => hs.elim)
      have t4 : Touch (bsS B p s) w w4 := t3.trans (touch_of_below (S := fun _ => False) HB4.out (fun k hk _ => hk)) (fun k hk hs => hs.elim)
      have t5 : Touch (bsS B p s) w w5 := t4.trans (touch_of_grown (S := fun k => blk p.A = some k) hg7 (fun k hk => hk)) (fun k hk hs => .inr (.inr (.inr (.inl hs))))
      exact t5.trans (touch_set (fun k => k = B) w5 B 6 _ rfl) (fun k hk hs => .inl hs)
    have zB := HB.out.size
    have zT1 := HT1.out.size
    have zB3 := HB3.out.size
    have zB4 := HB4.out.size
    have hN6 : ∀ k, bsS B ⟨p.W, A5, C5, A7, C7⟩ (freshS s m now A6 C6) k → bsS B p s k ∨ w.heap.size ≤ k := by
      rintro k (e | e | e | e | ⟨x, hx, e⟩)
      · exact .inl (.inl e)
      · exact .inl (.inr (.inl e))
      · rcases HN5.out k e with h | h
        · exact .inl (.inr (.inr (.inl h)))
        · exact .inr (by omega)
      · rcases hat7 with h | h
        · exact .inl (.inr (.inr (.inr (.inl (h ▸ e)))))
        · have e' : blk A7 = some k := e
          rw [h] at e'
          injection e' with e'
          exact .inr (by omega)
      · rcases List.mem_append.1 hx with hx | hx
        · exact .inl (.inr (.inr (.inr (.inr ⟨x, hx, e⟩))))
        · rw [List.mem_singleton] at hx
          subst hx
          exact .inr (by have := (HO4.out.blk_ge k e).1; omega)
    have hrow6 : Row (w5.setCell ⟨B, 6, none⟩ (.slice A7 (s.l.length + 1) C7)) 1 A6 (freshM s m now).body.length C6 ((freshM s m now).body.map u8v) := (ownU8_far hnew5 ⟨B, 6, none⟩ (own_ne hnew5 hB5 (by decide)) _).row
    have HB6 := Lib.hid hB6
    have HK6 := Lib.hid hk6
    have HR6 := Lib.hid hR6
    have HT6 := Lib.hid hT6
    have HN6 := Lib.hid hN6
    have HOA6 := Lib.hid (own_any (freshM s m now) A6 C6 _ hrow6 hml)
    have zs6 := hT6.size
    have zb6 := hB6.lt
    clear nWA hWn5 hbody5 hnew5 ho6 nB7 hB6 hk6 hR4 hR5 hR6 hT6 hN6 hrow6 hHeld5 hB5 hk5 e6 f6 ho7 hg7 hat7 HBs4 HO4 HK4 HROW4 HSC HBs HSB HOA
    generalize w5.setCell ⟨B, 6, none⟩ (.slice A7 (s.l.length + 1) C7) = w6 at *
    go_wp2_with (refine wpList_load_blk _ (by rfl) 34 _ rfl pb rfl 34 _ _ HK6.out Tryd.underlying34 rfl (by kernel_rfl) ?_)
    refine HOA6.out.mono ?_
    rintro e w8 ⟨A8, C8, rfl, ho8, hb8⟩
    have HR8 := Lib.hid (HR6.out.below hb8 HR6.out.lt)
    have HBs8 := Lib.hid (HB6.out.below hb8 (Nat.le_refl _))
    have HT8 := Lib.hid (HT6.out.trans (touch_of_below (S := fun _ => False) hb8 (fun k hk _ => hk)) (fun k hk hs => hs.elim))
    have HO8 := Lib.hid (ho8.base_le (b' := w.heap.size) zs6)
    clear ho8 hb8
    go_wp2_with (refine wpList_store_blk _ (by rfl) 34 _ _ rfl (w.heap.size + 1) (mpA (freshM s m now) A8 C8) rfl rfl 34 _ HR8.out (by kernel_rfl) rfl (mp_one _ _ _) ?_; intro w9 hk9 hg9)
    refine ret_cell_tmp rfl _ _ (mpA (freshM s m now) A8 C8) .nilIface rfl hk9 (by kernel_rfl) (by kernel_rfl) rfl rfl ⟨A6, C6, A8, C8, rfl, ?_, ⟨p.W, A5, C5, A7, C7⟩, HBs8.out.keepB HR8.out (by decide) (by decide) (by decide) (by decide) (by decide) hg9, ?_, HN6.out⟩
    · exact HO8.out.keep hg9 (.inr (Ne.symm (HO8.out.ne_blk HR8.out (by decide))))
    · exact HT8.out.trans (touch_of_grown (S := fun k => k = w.heap.size + 1) hg9 (fun k hk => by injection hk with hk; exact hk.symm)) (fun k hk hs => by omega)
end
end Go.Proofs.YthjjneanabnjoaaDoor
