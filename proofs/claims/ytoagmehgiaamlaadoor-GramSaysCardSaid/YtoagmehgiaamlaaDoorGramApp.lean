/-
  What gram.Check holds while it puts a frame to what was sent; the append of a body.
-/
import Derived.Test.YtoagmehgiaamlaaDoorGramPlain
import Derived.Test.YtoagmehgiaamlaaDoorMg
namespace Go.Proofs.YtoagmehgiaamlaaDoor
open Go.ChangeShapes Go.WideShapes Go.ChangeAt Go.RowKit
set_option linter.unusedVariables false

theorem wp_append_part (w : World) {o : Oper} {a : Act} {K : Act → World → Prop} {Q : Exit → Act → World → Prop} (s x : Operand)
    (ho : o.op = .call { callee := .builtin .append, args := #[s, x], argTypes := #[38, 38] })
    (base : Nat) (A : Option Addr) (n C : Nat) (L : List (List UInt8)) (hn : n = L.length) (hs : a.eval s = .slice A n C) (hown : OwnP w base (.slice A n C) L) (hL : L.length ≤ 2000000)
    (A' : Option Addr) (m C' : Nat) (y : List UInt8) (hm : y.length = m) (hy : OwnU8 w base A' m C' y)
    (X : Option Addr) (c : Nat) (hx : a.eval x = .slice X 1 c) (hr : Row w 1 X 1 c [.slice A' m C']) (hbase : base ≤ w.heap.size)
    (h : ∀ A2 C2 w', OwnP w' base (.slice A2 (n + 1) C2) (L ++ [y]) → w.grownBy w' (blk A) → (∀ e', e' ≠ 22 → ∀ base' sz' A1 n1 C1 vs, w.ownsRow base' e' sz' (.slice A1 n1 C1) n1 vs → blk A1 = none ∨ blk A1 ≠ blk A) →
      (∀ k cs t, t ≠ 22 → Blk w k cs t → some k ≠ blk A) → (∀ k, blk A = some k → base ≤ k) → K (a.put o.dst (.slice A2 (n + 1) C2)) w') : o.wp Tryd.prog a w K Q := by
  subst hn hm
  obtain ⟨i0, hi, hz, hsz, hby⟩ := info_parts info_part
  obtain ⟨A0, C0, vs, e, ho', hp⟩ := hown
  injection e with e1 e2 e3
  subst e1 e3
  refine wp_append_row w s x _ ho base _ i0 _ 1 24 Tryd.underlying38 hi hz hsz hby rfl (by decide) A L.length C vs hs ho' X 1 c [.slice A' y.length C'] hx hr ?_ (by unfold maxLen; omega) (by omega) hbase ?_
  · intro u hu
    simp at hu
    subst hu
    rfl
  · intro A2 C2 w' h1 h2 h3 h4
    have keep : ∀ (A1 : Option Addr) (n1 C1 : Nat) (xs : List UInt8), OwnU8 w base A1 n1 C1 xs → OwnU8 w' base A1 n1 C1 xs := fun A1 n1 C1 xs hh => hh.keep h2 (own_ne_own hh ho' (by decide))
    refine h A2 C2 w' ⟨A2, C2, vs ++ [.slice A' y.length C'], by rw [List.length_append]; rfl, by rw [List.length_append]; exact h1, fun i u x hu hx => ?_⟩ h2 (fun e' he base' sz' A1 n1 C1 vs' hh => own_ne_own hh ho' (Ne.symm he)) (fun k cs t ht hb => own_ne ho' hb ht) (fun k hk => (own_ge ho' k hk).1)
    have hvl : vs.length = L.length := by have := ho'.1; omega
    rcases Nat.lt_trichotomy i L.length with hlt | heq | hgt
    · rw [List.getElem?_append_left (by omega)] at hu hx
      obtain ⟨A1, C1, e1, o1⟩ := hp i u x hu hx
      exact ⟨A1, C1, e1, keep _ _ _ _ o1⟩
    · subst heq
      rw [List.getElem?_append_right (by omega), hvl, Nat.sub_self] at hu
      rw [List.getElem?_append_right (by omega), Nat.sub_self] at hx
      simp at hu hx
      subst hu hx
      exact ⟨A', C', rfl, keep _ _ _ _ hy⟩
    · rw [List.getElem?_append_right (by omega)] at hx
      have : ([y] : List (List UInt8))[i - L.length]? = none := List.getElem?_eq_none (by simp; omega)
      rw [this] at hx; cases hx
theorem wp_append_int1 (w : World) {o : Oper} {a : Act} {K : Act → World → Prop} {Q : Exit → Act → World → Prop} (s x : Operand)
    (ho : o.op = .call { callee := .builtin .append, args := #[s, x], argTypes := #[36, 36] })
    (base : Nat) (A : Option Addr) (n C : Nat) (xs : List Int) (hs : a.eval s = .slice A n C) (hown : OwnI w base A n C xs)
    (A' : Option Addr) (m c : Nat) (ys : List Int) (hx : a.eval x = .slice A' m c) (hr : Row w 1 A' m c (ys.map (Value.int .i64)))
    (hsmall : n + m ≤ 1000000000) (hbase : base ≤ w.heap.size)
    (h : ∀ A2 C2 w', OwnI w' base A2 (n + m) C2 (xs ++ ys) → w.grownBy w' (blk A) → K (a.put o.dst (.slice A2 (n + m) C2)) w') : o.wp Tryd.prog a w K Q :=
  wp_append_int w s x ho base A n C xs hs hown A' m c ys hx hr hsmall hbase (fun A2 C2 w' h1 h2 _ => h A2 C2 w' h1 h2)

/-- the frame in its block, what was sent in its own, three slices on their way -/
structure AppS (W0 : World) (po pf : Nat) (oc fc : Array Value) (A6 : Option Addr) (n6 C6 : Nat) (body : List UInt8) (A1 : Option Addr) (n1 C1 : Nat) (l1 : List Int) (A2 : Option Addr) (n2 C2 : Nat) (l2 : List Bool) (A3 : Option Addr) (n3 C3 : Nat) (l3 : List (List UInt8)) (w' : World) : Prop where
  out : Blk w' po oc 40
  f : Blk w' pf fc 35
  ob : OwnU8 w' po A6 n6 C6 body
  o1 : OwnI w' po A1 n1 C1 l1
  o2 : OwnB w' po A2 n2 C2 l2
  o3 : OwnP w' po (.slice A3 n3 C3) l3
  bel : Below po W0 w'
/-- what was sent in its block, its three slices -/
structure ChkW (W0 : World) (po : Nat) (oc : Array Value) (A1 : Option Addr) (n1 C1 : Nat) (l1 : List Int) (A2 : Option Addr) (n2 C2 : Nat) (l2 : List Bool) (A3 : Option Addr) (n3 C3 : Nat) (l3 : List (List UInt8)) (w' : World) : Prop where
  out : Blk w' po oc 40
  o1 : OwnI w' po A1 n1 C1 l1
  o2 : OwnB w' po A2 n2 C2 l2
  o3 : OwnP w' po (.slice A3 n3 C3) l3
  bel : Below po W0 w'
/-- the three slices stand in the block -/
def ChkT (W0 : World) (po : Nat) (s : SentP) (A1 : Option Addr) (C1 : Nat) (A2 : Option Addr) (C2 : Nat) (A3 : Option Addr) (C3 : Nat) (w' : World) : Prop :=
  ChkW W0 po (sentcells s.tid A1 s.seqs.length C1 A2 s.retry.length C2 s.more s.eosp A3 s.bodies.length C3) A1 s.seqs.length C1 s.seqs A2 s.retry.length C2 s.retry A3 s.bodies.length C3 s.bodies w'
section
variable {W0 x y : World} {po pf : Nat} {oc fc : Array Value} {A6 : Option Addr} {n6 C6 : Nat} {body : List UInt8} {A1 : Option Addr} {n1 C1 : Nat} {l1 : List Int} {A2 : Option Addr} {n2 C2 : Nat} {l2 : List Bool} {A3 : Option Addr} {n3 C3 : Nat} {l3 : List (List UInt8)}
theorem ChkW.below (h : ChkW W0 po oc A1 n1 C1 l1 A2 n2 C2 l2 A3 n3 C3 l3 x) (hb : Below x.heap.size x y) : ChkW W0 po oc A1 n1 C1 l1 A2 n2 C2 l2 A3 n3 C3 l3 y :=
  ⟨h.out.below hb h.out.lt, h.o1.below hb (Nat.le_refl _), h.o2.below hb (Nat.le_refl _), h.o3.below hb (Nat.le_refl _), h.bel.trans (hb.mono (Nat.le_of_lt h.out.lt))⟩
theorem ChkW.app (h : ChkW W0 po oc A1 n1 C1 l1 A2 n2 C2 l2 A3 n3 C3 l3 x) (hf : Blk x pf fc 35) (ho : OwnU8 x po A6 n6 C6 body) : AppS W0 po pf oc fc A6 n6 C6 body A1 n1 C1 l1 A2 n2 C2 l2 A3 n3 C3 l3 x := ⟨h.out, hf, ho, h.o1, h.o2, h.o3, h.bel⟩
theorem AppS.below (h : AppS W0 po pf oc fc A6 n6 C6 body A1 n1 C1 l1 A2 n2 C2 l2 A3 n3 C3 l3 x) (hb : Below x.heap.size x y) : AppS W0 po pf oc fc A6 n6 C6 body A1 n1 C1 l1 A2 n2 C2 l2 A3 n3 C3 l3 y :=
  ⟨h.out.below hb h.out.lt, h.f.below hb h.f.lt, h.ob.below hb (Nat.le_refl _), h.o1.below hb (Nat.le_refl _), h.o2.below hb (Nat.le_refl _), h.o3.below hb (Nat.le_refl _), h.bel.trans (hb.mono (Nat.le_of_lt h.out.lt))⟩
theorem AppS.alloc (h : AppS W0 po pf oc fc A6 n6 C6 body A1 n1 C1 l1 A2 n2 C2 l2 A3 n3 C3 l3 x) (o : Obj) : AppS W0 po pf oc fc A6 n6 C6 body A1 n1 C1 l1 A2 n2 C2 l2 A3 n3 C3 l3 (x.alloc o) := h.below ((Below.refl _ _).alloc (Nat.le_refl _) o)
theorem AppS.drew (h : AppS W0 po pf oc fc A6 n6 C6 body A1 n1 C1 l1 A2 n2 C2 l2 A3 n3 C3 l3 x) : AppS W0 po pf oc fc A6 n6 C6 body A1 n1 C1 l1 A2 n2 C2 l2 A3 n3 C3 l3 x.drew := h.below (below_drewN (w := x) 1)
theorem qos_ne (h1 : Blk x pf fc 35) (h2 : Blk x po oc 40) : pf ≠ po := by
  intro e
  rw [e] at h1
  unfold Blk at h1 h2
  rw [h1] at h2
  injection h2 with h2
  injection h2 with _ h2
  exact absurd h2 (by decide)
theorem set_bel (h : Below po W0 x) (hp : po < x.heap.size) (i : Nat) (u : Value) : Below po W0 (x.setCell ⟨po, i, none⟩ u) :=
  h.trans ((touch_set (fun k => k = po) x po i u rfl).below (B := po) (fun k hk => by omega) (by omega))
theorem ownP_far (h : OwnP x po (.slice A3 n3 C3) l3) (h2 : Blk x po oc 40) (i : Nat) (u : Value) : OwnP (x.setCell ⟨po, i, none⟩ u) po (.slice A3 n3 C3) l3 := by
  obtain ⟨A, C, vs, e, ho, hp⟩ := h
  refine ⟨A, C, vs, e, own_far ho _ (own_ne ho h2 (by decide)) u, fun i' u' x' hu hx => ?_⟩
  obtain ⟨A', C', e', ho'⟩ := hp i' u' x' hu hx
  exact ⟨A', C', e', own_far ho' _ (own_ne ho' h2 (by decide)) u⟩
theorem AppS.set_ (h : AppS W0 po pf oc fc A6 n6 C6 body A1 n1 C1 l1 A2 n2 C2 l2 A3 n3 C3 l3 x) (i : Nat) (u : Value) : AppS W0 po pf (oc.setIfInBounds i u) fc A6 n6 C6 body A1 n1 C1 l1 A2 n2 C2 l2 A3 n3 C3 l3 (x.setCell ⟨po, i, none⟩ u) :=
  ⟨h.out.set_ i u, h.f.far (qos_ne h.f h.out) u, own_far h.ob _ (own_ne h.ob h.out (by decide)) u, h.o1.far _ (own_ne h.o1 h.out (by decide)) u, h.o2.far _ (own_ne h.o2 h.out (by decide)) u, ownP_far h.o3 h.out i u, set_bel h.bel h.out.lt i u⟩
theorem AppS.app1 (h : AppS W0 po pf oc fc A6 n6 C6 body A1 n1 C1 l1 A2 n2 C2 l2 A3 n3 C3 l3 x) {X1 : Option Addr} {m1 D1 : Nat} {k1 : List Int} (ho : OwnI y po X1 m1 D1 k1) (hg : x.grownBy y (blk A1)) : AppS W0 po pf oc fc A6 n6 C6 body X1 m1 D1 k1 A2 n2 C2 l2 A3 n3 C3 l3 y := by
  refine ⟨h.out.grown hg (own_ne h.o1 h.out (by decide)), h.f.grown hg (own_ne h.o1 h.f (by decide)), own_keep h.ob hg (own_ne_own h.ob h.o1 (by decide)), ho, own_keep h.o2 hg (own_ne_own h.o2 h.o1 (by decide)), ?_, below_grown h.bel h.o1 (Nat.le_refl _) (Nat.le_of_lt h.out.lt) hg⟩
  obtain ⟨A, C, vs, e, ho', hp⟩ := h.o3
  refine ⟨A, C, vs, e, own_keep ho' hg (own_ne_own ho' h.o1 (by decide)), fun i' u' x' hu hx => ?_⟩
  obtain ⟨A', C', e', ho2⟩ := hp i' u' x' hu hx
  exact ⟨A', C', e', own_keep ho2 hg (own_ne_own ho2 h.o1 (by decide))⟩
theorem AppS.app2 (h : AppS W0 po pf oc fc A6 n6 C6 body A1 n1 C1 l1 A2 n2 C2 l2 A3 n3 C3 l3 x) {X1 : Option Addr} {m1 D1 : Nat} {k1 : List Bool} (ho : OwnB y po X1 m1 D1 k1) (hg : x.grownBy y (blk A2)) : AppS W0 po pf oc fc A6 n6 C6 body A1 n1 C1 l1 X1 m1 D1 k1 A3 n3 C3 l3 y := by
  refine ⟨h.out.grown hg (own_ne h.o2 h.out (by decide)), h.f.grown hg (own_ne h.o2 h.f (by decide)), own_keep h.ob hg (own_ne_own h.ob h.o2 (by decide)), own_keep h.o1 hg (own_ne_own h.o1 h.o2 (by decide)), ho, ?_, below_grown h.bel h.o2 (Nat.le_refl _) (Nat.le_of_lt h.out.lt) hg⟩
  obtain ⟨A, C, vs, e, ho', hp⟩ := h.o3
  refine ⟨A, C, vs, e, own_keep ho' hg (own_ne_own ho' h.o2 (by decide)), fun i' u' x' hu hx => ?_⟩
  obtain ⟨A', C', e', ho2⟩ := hp i' u' x' hu hx
  exact ⟨A', C', e', own_keep ho2 hg (own_ne_own ho2 h.o2 (by decide))⟩
/-- behind the last of the three: the body is in its list -/
structure EndS (W0 : World) (po pf : Nat) (oc fc : Array Value) (A1 : Option Addr) (n1 C1 : Nat) (l1 : List Int) (A2 : Option Addr) (n2 C2 : Nat) (l2 : List Bool) (A3 : Option Addr) (n3 C3 : Nat) (l3 : List (List UInt8)) (w' : World) : Prop where
  f : Blk w' pf fc 35
  chk : ChkW W0 po oc A1 n1 C1 l1 A2 n2 C2 l2 A3 n3 C3 l3 w'
theorem AppS.app3 (h : AppS W0 po pf oc fc A6 n6 C6 body A1 n1 C1 l1 A2 n2 C2 l2 A3 n3 C3 l3 x) {X1 : Option Addr} {m1 D1 : Nat} {k1 : List (List UInt8)} (ho : OwnP y po (.slice X1 m1 D1) k1) (hg : x.grownBy y (blk A3))
    (h4 : ∀ e', e' ≠ 22 → ∀ base' sz' A1 n1 C1 vs, x.ownsRow base' e' sz' (.slice A1 n1 C1) n1 vs → blk A1 = none ∨ blk A1 ≠ blk A3) (h5 : ∀ k cs t, t ≠ 22 → Blk x k cs t → some k ≠ blk A3) (h6 : ∀ k, blk A3 = some k → po ≤ k) : EndS W0 po pf oc fc A1 n1 C1 l1 A2 n2 C2 l2 X1 m1 D1 k1 y := by
  have hlt := h.out.lt
  refine ⟨h.f.grown hg (h5 _ _ _ (by decide) h.f), h.out.grown hg (h5 _ _ _ (by decide) h.out), own_keep h.o1 hg (h4 3 (by decide) _ _ _ _ _ _ h.o1), own_keep h.o2 hg (h4 4 (by decide) _ _ _ _ _ _ h.o2), ho, ?_⟩
  refine h.bel.trans ⟨hg.os, hg.tape, hg.output, hg.size, fun k hk => hg.block k (by omega) ?_⟩
  intro e
  have := h6 k e.symm
  omega
theorem EndS.set_ (h : EndS W0 po pf oc fc A1 n1 C1 l1 A2 n2 C2 l2 A3 n3 C3 l3 x) (i : Nat) (u : Value) : EndS W0 po pf (oc.setIfInBounds i u) fc A1 n1 C1 l1 A2 n2 C2 l2 A3 n3 C3 l3 (x.setCell ⟨po, i, none⟩ u) :=
  ⟨h.f.far (qos_ne h.f h.chk.out) u, h.chk.out.set_ i u, h.chk.o1.far _ (own_ne h.chk.o1 h.chk.out (by decide)) u, h.chk.o2.far _ (own_ne h.chk.o2 h.chk.out (by decide)) u, ownP_far h.chk.o3 h.chk.out i u, set_bel h.chk.bel h.chk.out.lt i u⟩
end
/-- the frame ahead, as the walk holds it -/
def LastS (w : World) (v : Value) (l : Option URead) : Prop := match l with
  | none => v = .pointer none
  | some u => ∃ p A n C, v = .pointer (some ⟨p, 0, none⟩) ∧ Blk w p (qcells u.a u.tid u.seq u.r u.m u.e A n C) 35
theorem lastS_below {w w' : World} {v : Value} {l : Option URead} (h : LastS w v l) (hb : Below w.heap.size w w') : LastS w' v l := by
  cases l with
  | none => exact h
  | some u => obtain ⟨p, A, n, C, e, hk⟩ := h; exact ⟨p, A, n, C, e, hk.below hb hk.lt⟩
theorem gpart_any {w : World} {E : Nat → Addr} (hE : Errs [4, 9, 10] w E) (m : RulesP) (u : URead) (A : Option Addr) (n C : Nat) (v : Value) (l : Option URead) (hl : LastS w v l) :
    Calls Tryd.prog 27 #[.agg (rucells m), .agg (qcells u.a u.tid u.seq u.r u.m u.e A n C), v] w fun e w' => e = .returned (errO E (partG m u l)) ∧ Below w.heap.size w w' := by
  cases l with
  | none => obtain rfl := hl; exact gpart_none hE m u A n C
  | some x => obtain ⟨p, A', n', C', rfl, hk⟩ := hl; exact gpart_some hE m u A n C x p A' n' C' hk
theorem row_of_blk1 {w : World} {b : Nat} {v : Value} {t : TypeId} (h : Blk w b #[v] t) : Row w 1 (some ⟨b, 0, none⟩) 1 1 [v] := by
  refine ⟨rfl, Nat.le_refl _, by decide, (by intro e; cases e), fun _ => ⟨b, 0, rfl, h.lt, fun i u hu => ?_⟩⟩
  rw [Nat.zero_add, h.cell i, ← hu]
  simp
theorem two_roads9 {G F : Nat → Nat → Nat → Option Addr → Nat → Option Addr → Nat → Option Addr → Nat → World → Prop} {goal : Prop} (ways : (∀ b1 b2 b3 A1 C1 A2 C2 A3 C3 W, F b1 b2 b3 A1 C1 A2 C2 A3 C3 W → G b1 b2 b3 A1 C1 A2 C2 A3 C3 W) → goal) (rest : ∀ b1 b2 b3 A1 C1 A2 C2 A3 C3 W, F b1 b2 b3 A1 C1 A2 C2 A3 C3 W → G b1 b2 b3 A1 C1 A2 C2 A3 C3 W) : goal := ways rest
/-- what the two drawn statements read -/
def S19 (pf : Nat) (u : URead) (w : World) : Prop := w.cell? ⟨pf, 18, none⟩ = some (.int .i64 u.tid) ∧ w.cell? ⟨pf, 21, none⟩ = some (.bool u.m) ∧ w.cell? ⟨pf, 22, none⟩ = some (.bool u.e)
def S20 (po pf : Nat) (u : URead) (A6 : Option Addr) (n6 C6 : Nat) (A1 : Option Addr) (n1 C1 : Nat) (A2 : Option Addr) (n2 C2 : Nat) (A3 : Option Addr) (n3 C3 : Nat) (w : World) : Prop :=
  w.cell? ⟨po, 1, none⟩ = some (.slice A1 n1 C1) ∧ w.cell? ⟨po, 2, none⟩ = some (.slice A2 n2 C2) ∧ w.cell? ⟨po, 5, none⟩ = some (.slice A3 n3 C3) ∧ w.cell? ⟨pf, 19, none⟩ = some (.int .i64 u.seq) ∧ w.cell? ⟨pf, 20, none⟩ = some (.bool u.r) ∧ w.cell? ⟨pf, 23, none⟩ = some (.slice A6 n6 C6)
section
variable {W0 x : World} {po pf : Nat} {oc fc : Array Value} {u : URead} {A6 : Option Addr} {n6 C6 : Nat} {body : List UInt8} {A1 : Option Addr} {n1 C1 : Nat} {l1 : List Int} {A2 : Option Addr} {n2 C2 : Nat} {l2 : List Bool} {A3 : Option Addr} {n3 C3 : Nat} {l3 : List (List UInt8)}
variable {t : Int} {mo eo : Bool} {X1 : Option Addr} {m1 D1 : Nat} {X2 : Option Addr} {m2 D2 : Nat} {X3 : Option Addr} {m3 D3 : Nat}
theorem AppS.s19 (h : AppS W0 po pf oc (qcells u.a u.tid u.seq u.r u.m u.e A6 n6 C6) A6 n6 C6 body A1 n1 C1 l1 A2 n2 C2 l2 A3 n3 C3 l3 x) : S19 pf u x := ⟨h.f.cell 18, h.f.cell 21, h.f.cell 22⟩
theorem s20_of (h1 : Blk x po (sentcells t X1 m1 D1 X2 m2 D2 mo eo X3 m3 D3) 40) (h2 : Blk x pf (qcells u.a u.tid u.seq u.r u.m u.e A6 n6 C6) 35) : S20 po pf u A6 n6 C6 X1 m1 D1 X2 m2 D2 X3 m3 D3 x := ⟨h1.cell 1, h1.cell 2, h1.cell 5, h2.cell 19, h2.cell 20, h2.cell 23⟩
theorem AppS.s20 (h : AppS W0 po pf (sentcells t X1 m1 D1 X2 m2 D2 mo eo X3 m3 D3) (qcells u.a u.tid u.seq u.r u.m u.e A6 n6 C6) A6 n6 C6 body A1 n1 C1 l1 A2 n2 C2 l2 A3 n3 C3 l3 x) : S20 po pf u A6 n6 C6 X1 m1 D1 X2 m2 D2 X3 m3 D3 x := s20_of h.out h.f
theorem EndS.s20 (h : EndS W0 po pf (sentcells t X1 m1 D1 X2 m2 D2 mo eo X3 m3 D3) (qcells u.a u.tid u.seq u.r u.m u.e A6 n6 C6) A1 n1 C1 l1 A2 n2 C2 l2 A3 n3 C3 l3 x) : S20 po pf u A6 n6 C6 X1 m1 D1 X2 m2 D2 X3 m3 D3 x := s20_of h.chk.out h.f
end
theorem drop_of_get {α : Type} {L : List α} {i : Nat} {x : α} (h : L[i]? = some x) : L.drop i = x :: L.drop (i + 1) := by
  obtain ⟨hl, rfl⟩ := List.getElem?_eq_some_iff.1 h
  exact List.drop_eq_getElem_cons hl
theorem chk_start (WP : World) (po : Nat) (hpo : WP.heap.size = po) : ChkT WP po noSent none 0 none 0 none 0 (WP.alloc (.cells zsent 40)) := by
  subst hpo
  exact ⟨Blk.new _ _ _, ownI_nil _ _, ownB_nil _ _, ownP_nil _ _, (Below.refl _ _).alloc (Nat.le_refl _) _⟩
section
variable {t t' : Int} {mo mo' eo eo' : Bool} {X1 Y : Option Addr} {m1 D1 k K : Nat} {X2 : Option Addr} {m2 D2 : Nat} {X3 : Option Addr} {m3 D3 : Nat}
theorem sc0 : (sentcells t X1 m1 D1 X2 m2 D2 mo eo X3 m3 D3).setIfInBounds 0 (.int .i64 t') = sentcells t' X1 m1 D1 X2 m2 D2 mo eo X3 m3 D3 := rfl
theorem sc1 : (sentcells t X1 m1 D1 X2 m2 D2 mo eo X3 m3 D3).setIfInBounds 1 (.slice Y k K) = sentcells t Y k K X2 m2 D2 mo eo X3 m3 D3 := rfl
theorem sc2 : (sentcells t X1 m1 D1 X2 m2 D2 mo eo X3 m3 D3).setIfInBounds 2 (.slice Y k K) = sentcells t X1 m1 D1 Y k K mo eo X3 m3 D3 := rfl
theorem sc3 : (sentcells t X1 m1 D1 X2 m2 D2 mo eo X3 m3 D3).setIfInBounds 3 (.bool mo') = sentcells t X1 m1 D1 X2 m2 D2 mo' eo X3 m3 D3 := rfl
theorem sc4 : (sentcells t X1 m1 D1 X2 m2 D2 mo eo X3 m3 D3).setIfInBounds 4 (.bool eo') = sentcells t X1 m1 D1 X2 m2 D2 mo eo' X3 m3 D3 := rfl
theorem sc5 : (sentcells t X1 m1 D1 X2 m2 D2 mo eo X3 m3 D3).setIfInBounds 5 (.slice Y k K) = sentcells t X1 m1 D1 X2 m2 D2 mo eo Y k K := rfl
theorem sent_one : (sentcells t X1 m1 D1 X2 m2 D2 mo eo X3 m3 D3).all (·.oneCell') = true := by simp [sentcells, Value.oneCell']
theorem chkT_next {WP y : World} {po : Nat} {s : SentP} {u : URead} {n1 n2 n3 : Nat} (e1 : s.seqs.length = n1) (e2 : s.retry.length = n2) (e3 : s.bodies.length = n3)
    (h : ChkW WP po (sentcells u.tid X1 (n1 + 1) D1 X2 (n2 + 1) D2 u.m u.e X3 (n3 + 1) D3) X1 (n1 + 1) D1 (s.seqs ++ [u.seq]) X2 (n2 + 1) D2 (s.retry ++ [u.r]) X3 (n3 + 1) D3 (s.bodies ++ [u.body]) y) : ChkT WP po (sentS s u) X1 D1 X2 D2 X3 D3 y := by
  subst e1 e2 e3
  unfold ChkT sentS
  simp only [List.length_append, List.length_singleton]
  exact h
end
theorem parts_count {b : List UInt8} {L : List (List UInt8)} (h : partsP b = .ok L) : L.length ≤ 64 := by
  unfold partsP at h
  split at h
  · cases h
  · split at h
    · cases h
    · split at h
      · cases h
      · injection h with h; subst h; omega
end Go.Proofs.YtoagmehgiaamlaaDoor
