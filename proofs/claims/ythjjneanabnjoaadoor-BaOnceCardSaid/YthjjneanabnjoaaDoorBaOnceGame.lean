/-
  BaOnce: the law's own memory beside the session.
-/
import Derived.Test.YthjjneanabnjoaaDoorBaOnceEnd
namespace Go.Proofs.YthjjneanabnjoaaDoor
open Go.ChangeShapes Go.WideShapes Go.ChangeAt Go.RowKit
set_option linter.unusedVariables false

structure Gm (w : World) (base B bn bg bo gg K : Nat) (p : BP) (s : BS) (n over : Nat) (fl : Nat → Bool) : Prop where
  ss : Ss w base B p s
  bk : Bk w base bn bg bo (some ⟨gg, 0, none⟩) K n over fl
  sep : ∀ k, (k = bn ∨ k = bg ∨ k = bo ∨ k = gg) → ¬ bsS B p s k
  geN : base ≤ bn
  geO : base ≤ bo
  pos : 0 < K
/-- with the thing to do -/
structure Gd (w : World) (base B bn bg bo gg K : Nat) (p : BP) (s : BS) (n over : Nat) (fl : Nat → Bool) (d : Nat) (cs : Array Value) : Prop where
  gm : Gm w base B bn bg bo gg K p s n over fl
  dk : Blk w d cs 71
  dn : ¬ bsS B p s d
section
variable {w w' : World} {base B bn bg bo gg K n over d : Nat} {p : BP} {s s' : BS} {fl : Nat → Bool} {cs : Array Value}
theorem Gm.gge (h : Gm w base B bn bg bo gg K p s n over fl) : base ≤ gg ∧ gg < w.heap.size := h.bk.own.ge gg rfl
theorem Gm.below {D : Nat} (h : Gm w base B bn bg bo gg K p s n over fl) (hb : Below D w w') (hD : w.heap.size ≤ D) : Gm w' base B bn bg bo gg K p s n over fl := ⟨h.ss.below hb hD, h.bk.below hb hD, h.sep, h.geN, h.geO, h.pos⟩
theorem Gm.alloc (h : Gm w base B bn bg bo gg K p s n over fl) (o : Obj) : Gm (w.alloc o) base B bn bg bo gg K p s n over fl := ⟨h.ss.alloc o, h.bk.alloc o, h.sep, h.geN, h.geO, h.pos⟩
theorem Gm.step (h : Gm w base B bn bg bo gg K p s n over fl) (hs : BStep w w' base B p s s') : ∃ p', Gm w' base B bn bg bo gg K p' s' n over fl ∧ Below base w w' ∧ Touch (bsS B p s) w w' ∧ ∀ k, bsS B p' s' k → bsS B p s k ∨ w.heap.size ≤ k := by
  obtain ⟨p', h1, h2, h3, h4⟩ := h.ss.step hs
  refine ⟨p', ⟨h1, h.bk.touch h3 (h.sep _ (.inl rfl)) (h.sep _ (.inr (.inl rfl))) (h.sep _ (.inr (.inr (.inl rfl)))) (fun k hk => h.sep _ (.inr (.inr (.inr (Option.some.inj hk).symm)))), fun k hk hx => ?_, h.geN, h.geO, h.pos⟩, h2, h3, h4⟩
  rcases h4 k hx with h5 | h5
  · exact h.sep k hk h5
  · have h6 : k < w.heap.size := by
      rcases hk with rfl | rfl | rfl | rfl
      · exact h.bk.cn.lt
      · exact h.bk.cg.lt
      · exact h.bk.co.lt
      · exact h.gge.2
    omega
theorem Gm.ends {over' : Nat} {fl' : Nat → Bool} (h : Gm w base B bn bg bo gg K p s n over fl) (hk : Bk w' base bn bg bo (some ⟨gg, 0, none⟩) K n over' fl') (ht : Touch (bkS bo (some ⟨gg, 0, none⟩)) w w') : Gm w' base B bn bg bo gg K p s n over' fl' ∧ Below base w w' := by
  have hS : ∀ k, bkS bo (some ⟨gg, 0, none⟩) k → k = bo ∨ k = gg := by
    rintro k (h | h)
    · exact .inl h
    · exact .inr (Option.some.inj h).symm
  have hge : ∀ k, bkS bo (some ⟨gg, 0, none⟩) k → base ≤ k := by
    intro k hk
    rcases hS k hk with rfl | rfl
    · exact h.geO
    · exact h.gge.1
  refine ⟨⟨⟨h.ss.bs.touch ht (fun k hkk hx => ?_), h.ss.hB, h.ss.hW⟩, hk, h.sep, h.geN, h.geO, h.pos⟩, ht.below hge h.ss.bas⟩
  rcases hS k hx with rfl | rfl
  · exact h.sep _ (.inr (.inr (.inl rfl))) hkk
  · exact h.sep _ (.inr (.inr (.inr rfl))) hkk
theorem Gm.setN (h : Gm w base B bn bg bo gg K p s n over fl) (m : Nat) : Gm (w.setCell ⟨bn, 0, none⟩ (.int .i64 (m : Int))) base B bn bg bo gg K p s m over fl ∧ Below base w (w.setCell ⟨bn, 0, none⟩ (.int .i64 (m : Int))) := by
  have ht := touch_set (fun k => k = bn) w bn 0 (.int .i64 (m : Int)) rfl
  exact ⟨⟨⟨h.ss.bs.touch ht (fun k hk hx => h.sep k (.inl hx) hk), h.ss.hB, h.ss.hW⟩, h.bk.setN m, h.sep, h.geN, h.geO, h.pos⟩, ht.below (fun k hk => by rw [hk]; exact h.geN) h.ss.bas⟩
theorem Gd.below {D : Nat} (h : Gd w base B bn bg bo gg K p s n over fl d cs) (hb : Below D w w') (hD : w.heap.size ≤ D) : Gd w' base B bn bg bo gg K p s n over fl d cs := ⟨h.gm.below hb hD, h.dk.below hb (Nat.lt_of_lt_of_le h.dk.lt hD), h.dn⟩
theorem Gd.alloc (h : Gd w base B bn bg bo gg K p s n over fl d cs) (o : Obj) : Gd (w.alloc o) base B bn bg bo gg K p s n over fl d cs := ⟨h.gm.alloc o, h.dk.alloc o, h.dn⟩
theorem Gd.step (h : Gd w base B bn bg bo gg K p s n over fl d cs) (hs : BStep w w' base B p s s') : ∃ p', Gd w' base B bn bg bo gg K p' s' n over fl d cs ∧ Below base w w' := by
  obtain ⟨p', h1, h2, h3, h4⟩ := h.gm.step hs
  exact ⟨p', ⟨h1, h.dk.touch h3 h.dn, fun hx => (h4 d hx).elim h.dn (fun h5 => by have := h.dk.lt; omega)⟩, h2⟩
theorem Gd.ends {over' : Nat} {fl' : Nat → Bool} (h : Gd w base B bn bg bo gg K p s n over fl d cs) (hk : Bk w' base bn bg bo (some ⟨gg, 0, none⟩) K n over' fl') (ht : Touch (bkS bo (some ⟨gg, 0, none⟩)) w w') : Gd w' base B bn bg bo gg K p s n over' fl' d cs ∧ Below base w w' := by
  obtain ⟨h1, h2⟩ := h.gm.ends hk ht
  refine ⟨⟨h1, h.dk.touch ht ?_, h.dn⟩, h2⟩
  rintro (hx | hx)
  · exact ne_of_type h.dk h.gm.bk.co (by decide) hx
  · exact own_ne h.gm.bk.own h.dk (by decide) hx.symm
theorem Gm.new (h : Gm w base B bn bg bo gg K p s n over fl) (cs : Array Value) (d : Nat) (hd : d = w.heap.size) (hk : Blk w' d cs 71) (hb : Below w.heap.size w w') : Gd w' base B bn bg bo gg K p s n over fl d cs :=
  ⟨h.below hb (Nat.le_refl _), hk, fun hx => by have := (h.ss.ge d hx).2; omega⟩
end
theorem make_bool_full (w : World) {ops : Array Oper} {rest : List Oper} {o : Oper} {a : Act} {Q : Exit → Act → World → Prop} (hg : o.guard = none) (l c : Operand)
    (hop : o.op = Op.makeSlice 68 l c) (kl kc : IntKind) (L C : Int) (n : Nat) (hl : a.eval l = .int kl L) (hc : a.eval c = .int kc C) (hL : L = (n : Int)) (hC : C = (n : Int)) (hn : n ≤ 140737488355328)
    (h : ∀ w', OwnB w' w.heap.size (some ⟨w.heap.size, 0, none⟩) n n ((List.range n).map fun _ => false) → w.grownBy w' none → wpList Tryd.prog ops Q rest (a.put o.dst (.slice (some ⟨w.heap.size, 0, none⟩) n n)) w') :
    wpList Tryd.prog ops Q (o :: rest) a w := by
  obtain ⟨i, hi, hz, hsz, hby⟩ := info_parts info_bool
  refine wpList_make_full w hg l c _ hop w.heap.size _ i _ 1 Tryd.underlying68 hi hz hsz kl kc L C n hl hc hL hC (by rw [hby]; omega) (by unfold maxLen; omega) (Nat.le_refl _) ?_
  intro w' h1 h2
  have e : ((List.range n).map fun _ => false).map Value.bool = (madeCells (Value.bool false).cells (n * 1)).toList := by
    apply List.ext_getElem
    · simp [size_madeCells]
    · intro k h1 h2
      simp [madeCells, Value.cells, Nat.mod_one]
  refine h w' ?_ h2
  unfold OwnB
  rw [e]
  exact h1
end Go.Proofs.YthjjneanabnjoaaDoor
