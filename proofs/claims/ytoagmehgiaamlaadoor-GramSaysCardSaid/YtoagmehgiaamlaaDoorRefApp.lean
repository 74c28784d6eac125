/-
  What the document's Check holds (printed by gen_refapp.py).
-/
import Derived.Test.YtoagmehgiaamlaaDoorRefCheckBase
namespace Go.Proofs.YtoagmehgiaamlaaDoor
open Go.ChangeShapes Go.WideShapes Go.ChangeAt Go.RowKit
set_option linter.unusedVariables false

/-- the frame in its block, what was sent in its own, three slices on their way -/
structure RAppS (W0 : World) (po pf : Nat) (oc fc : Array Value) (A6 : Option Addr) (n6 C6 : Nat) (body : List UInt8) (A1 : Option Addr) (n1 C1 : Nat) (l1 : List Int) (A2 : Option Addr) (n2 C2 : Nat) (l2 : List Bool) (A3 : Option Addr) (n3 C3 : Nat) (l3 : List (List UInt8)) (w' : World) : Prop where
  out : Blk w' po oc 52
  f : Blk w' pf fc 35
  ob : OwnU8 w' po A6 n6 C6 body
  o1 : OwnI w' po A1 n1 C1 l1
  o2 : OwnB w' po A2 n2 C2 l2
  o3 : OwnP w' po (.slice A3 n3 C3) l3
  bel : Below po W0 w'
/-- what was sent in its block, its three slices -/
structure RChkW (W0 : World) (po : Nat) (oc : Array Value) (A1 : Option Addr) (n1 C1 : Nat) (l1 : List Int) (A2 : Option Addr) (n2 C2 : Nat) (l2 : List Bool) (A3 : Option Addr) (n3 C3 : Nat) (l3 : List (List UInt8)) (w' : World) : Prop where
  out : Blk w' po oc 52
  o1 : OwnI w' po A1 n1 C1 l1
  o2 : OwnB w' po A2 n2 C2 l2
  o3 : OwnP w' po (.slice A3 n3 C3) l3
  bel : Below po W0 w'
/-- the three slices stand in the block -/
def RChkT (W0 : World) (po : Nat) (s : SentP) (A1 : Option Addr) (C1 : Nat) (A2 : Option Addr) (C2 : Nat) (A3 : Option Addr) (C3 : Nat) (w' : World) : Prop :=
  RChkW W0 po (sentcells s.tid A1 s.seqs.length C1 A2 s.retry.length C2 s.more s.eosp A3 s.bodies.length C3) A1 s.seqs.length C1 s.seqs A2 s.retry.length C2 s.retry A3 s.bodies.length C3 s.bodies w'
section
variable {W0 x y : World} {po pf : Nat} {oc fc : Array Value} {A6 : Option Addr} {n6 C6 : Nat} {body : List UInt8} {A1 : Option Addr} {n1 C1 : Nat} {l1 : List Int} {A2 : Option Addr} {n2 C2 : Nat} {l2 : List Bool} {A3 : Option Addr} {n3 C3 : Nat} {l3 : List (List UInt8)}
theorem RChkW.below (h : RChkW W0 po oc A1 n1 C1 l1 A2 n2 C2 l2 A3 n3 C3 l3 x) (hb : Below x.heap.size x y) : RChkW W0 po oc A1 n1 C1 l1 A2 n2 C2 l2 A3 n3 C3 l3 y :=
  ⟨h.out.below hb h.out.lt, h.o1.below hb (Nat.le_refl _), h.o2.below hb (Nat.le_refl _), h.o3.below hb (Nat.le_refl _), h.bel.trans (hb.mono (Nat.le_of_lt h.out.lt))⟩
theorem RChkW.app (h : RChkW W0 po oc A1 n1 C1 l1 A2 n2 C2 l2 A3 n3 C3 l3 x) (hf : Blk x pf fc 35) (ho : OwnU8 x po A6 n6 C6 body) : RAppS W0 po pf oc fc A6 n6 C6 body A1 n1 C1 l1 A2 n2 C2 l2 A3 n3 C3 l3 x := ⟨h.out, hf, ho, h.o1, h.o2, h.o3, h.bel⟩
theorem RAppS.below (h : RAppS W0 po pf oc fc A6 n6 C6 body A1 n1 C1 l1 A2 n2 C2 l2 A3 n3 C3 l3 x) (hb : Below x.heap.size x y) : RAppS W0 po pf oc fc A6 n6 C6 body A1 n1 C1 l1 A2 n2 C2 l2 A3 n3 C3 l3 y :=
  ⟨h.out.below hb h.out.lt, h.f.below hb h.f.lt, h.ob.below hb (Nat.le_refl _), h.o1.below hb (Nat.le_refl _), h.o2.below hb (Nat.le_refl _), h.o3.below hb (Nat.le_refl _), h.bel.trans (hb.mono (Nat.le_of_lt h.out.lt))⟩
theorem RAppS.alloc (h : RAppS W0 po pf oc fc A6 n6 C6 body A1 n1 C1 l1 A2 n2 C2 l2 A3 n3 C3 l3 x) (o : Obj) : RAppS W0 po pf oc fc A6 n6 C6 body A1 n1 C1 l1 A2 n2 C2 l2 A3 n3 C3 l3 (x.alloc o) := h.below ((Below.refl _ _).alloc (Nat.le_refl _) o)
theorem RAppS.drew (h : RAppS W0 po pf oc fc A6 n6 C6 body A1 n1 C1 l1 A2 n2 C2 l2 A3 n3 C3 l3 x) : RAppS W0 po pf oc fc A6 n6 C6 body A1 n1 C1 l1 A2 n2 C2 l2 A3 n3 C3 l3 x.drew := h.below (below_drewN (w := x) 1)
theorem Rqos_ne (h1 : Blk x pf fc 35) (h2 : Blk x po oc 52) : pf ≠ po := by
  intro e
  rw [e] at h1
  unfold Blk at h1 h2
  rw [h1] at h2
  injection h2 with h2
  injection h2 with _ h2
  exact absurd h2 (by decide)
theorem Rset_bel (h : Below po W0 x) (hp : po < x.heap.size) (i : Nat) (u : Value) : Below po W0 (x.setCell ⟨po, i, none⟩ u) :=
  h.trans ((touch_set (fun k => k = po) x po i u rfl).below (B := po) (fun k hk => by omega) (by omega))
theorem RownP_far (h : OwnP x po (.slice A3 n3 C3) l3) (h2 : Blk x po oc 52) (i : Nat) (u : Value) : OwnP (x.setCell ⟨po, i, none⟩ u) po (.slice A3 n3 C3) l3 := by
  obtain ⟨A, C, vs, e, ho, hp⟩ := h
  refine ⟨A, C, vs, e, own_far ho _ (own_ne ho h2 (by decide)) u, fun i' u' x' hu hx => ?_⟩
  obtain ⟨A', C', e', ho'⟩ := hp i' u' x' hu hx
  exact ⟨A', C', e', own_far ho' _ (own_ne ho' h2 (by decide)) u⟩
theorem RAppS.set_ (h : RAppS W0 po pf oc fc A6 n6 C6 body A1 n1 C1 l1 A2 n2 C2 l2 A3 n3 C3 l3 x) (i : Nat) (u : Value) : RAppS W0 po pf (oc.setIfInBounds i u) fc A6 n6 C6 body A1 n1 C1 l1 A2 n2 C2 l2 A3 n3 C3 l3 (x.setCell ⟨po, i, none⟩ u) :=
  ⟨h.out.set_ i u, h.f.far (Rqos_ne h.f h.out) u, own_far h.ob _ (own_ne h.ob h.out (by decide)) u, h.o1.far _ (own_ne h.o1 h.out (by decide)) u, h.o2.far _ (own_ne h.o2 h.out (by decide)) u, RownP_far h.o3 h.out i u, Rset_bel h.bel h.out.lt i u⟩
theorem RAppS.app1 (h : RAppS W0 po pf oc fc A6 n6 C6 body A1 n1 C1 l1 A2 n2 C2 l2 A3 n3 C3 l3 x) {X1 : Option Addr} {m1 D1 : Nat} {k1 : List Int} (ho : OwnI y po X1 m1 D1 k1) (hg : x.grownBy y (blk A1)) : RAppS W0 po pf oc fc A6 n6 C6 body X1 m1 D1 k1 A2 n2 C2 l2 A3 n3 C3 l3 y := by
  refine ⟨h.out.grown hg (own_ne h.o1 h.out (by decide)), h.f.grown hg (own_ne h.o1 h.f (by decide)), own_keep h.ob hg (own_ne_own h.ob h.o1 (by decide)), ho, own_keep h.o2 hg (own_ne_own h.o2 h.o1 (by decide)), ?_, below_grown h.bel h.o1 (Nat.le_refl _) (Nat.le_of_lt h.out.lt) hg⟩
  obtain ⟨A, C, vs, e, ho', hp⟩ := h.o3
  refine ⟨A, C, vs, e, own_keep ho' hg (own_ne_own ho' h.o1 (by decide)), fun i' u' x' hu hx => ?_⟩
  obtain ⟨A', C', e', ho2⟩ := hp i' u' x' hu hx
  exact ⟨A', C', e', own_keep ho2 hg (own_ne_own ho2 h.o1 (by decide))⟩
theorem RAppS.app2 (h : RAppS W0 po pf oc fc A6 n6 C6 body A1 n1 C1 l1 A2 n2 C2 l2 A3 n3 C3 l3 x) {X1 : Option Addr} {m1 D1 : Nat} {k1 : List Bool} (ho : OwnB y po X1 m1 D1 k1) (hg : x.grownBy y (blk A2)) : RAppS W0 po pf oc fc A6 n6 C6 body A1 n1 C1 l1 X1 m1 D1 k1 A3 n3 C3 l3 y := by
  refine ⟨h.out.grown hg (own_ne h.o2 h.out (by decide)), h.f.grown hg (own_ne h.o2 h.f (by decide)), own_keep h.ob hg (own_ne_own h.ob h.o2 (by decide)), own_keep h.o1 hg (own_ne_own h.o1 h.o2 (by decide)), ho, ?_, below_grown h.bel h.o2 (Nat.le_refl _) (Nat.le_of_lt h.out.lt) hg⟩
  obtain ⟨A, C, vs, e, ho', hp⟩ := h.o3
  refine ⟨A, C, vs, e, own_keep ho' hg (own_ne_own ho' h.o2 (by decide)), fun i' u' x' hu hx => ?_⟩
  obtain ⟨A', C', e', ho2⟩ := hp i' u' x' hu hx
  exact ⟨A', C', e', own_keep ho2 hg (own_ne_own ho2 h.o2 (by decide))⟩
/-- behind the last of the three: the body is in its list -/
structure REndS (W0 : World) (po pf : Nat) (oc fc : Array Value) (A1 : Option Addr) (n1 C1 : Nat) (l1 : List Int) (A2 : Option Addr) (n2 C2 : Nat) (l2 : List Bool) (A3 : Option Addr) (n3 C3 : Nat) (l3 : List (List UInt8)) (w' : World) : Prop where
  f : Blk w' pf fc 35
  chk : RChkW W0 po oc A1 n1 C1 l1 A2 n2 C2 l2 A3 n3 C3 l3 w'
theorem RAppS.app3 (h : RAppS W0 po pf oc fc A6 n6 C6 body A1 n1 C1 l1 A2 n2 C2 l2 A3 n3 C3 l3 x) {X1 : Option Addr} {m1 D1 : Nat} {k1 : List (List UInt8)} (ho : OwnP y po (.slice X1 m1 D1) k1) (hg : x.grownBy y (blk A3))
    (h4 : ∀ e', e' ≠ 22 → ∀ base' sz' A1 n1 C1 vs, x.ownsRow base' e' sz' (.slice A1 n1 C1) n1 vs → blk A1 = none ∨ blk A1 ≠ blk A3) (h5 : ∀ k cs t, t ≠ 22 → Blk x k cs t → some k ≠ blk A3) (h6 : ∀ k, blk A3 = some k → po ≤ k) : REndS W0 po pf oc fc A1 n1 C1 l1 A2 n2 C2 l2 X1 m1 D1 k1 y := by
  have hlt := h.out.lt
  refine ⟨h.f.grown hg (h5 _ _ _ (by decide) h.f), h.out.grown hg (h5 _ _ _ (by decide) h.out), own_keep h.o1 hg (h4 3 (by decide) _ _ _ _ _ _ h.o1), own_keep h.o2 hg (h4 4 (by decide) _ _ _ _ _ _ h.o2), ho, ?_⟩
  refine h.bel.trans ⟨hg.os, hg.tape, hg.output, hg.size, fun k hk => hg.block k (by omega) ?_⟩
  intro e
  have := h6 k e.symm
  omega
theorem REndS.set_ (h : REndS W0 po pf oc fc A1 n1 C1 l1 A2 n2 C2 l2 A3 n3 C3 l3 x) (i : Nat) (u : Value) : REndS W0 po pf (oc.setIfInBounds i u) fc A1 n1 C1 l1 A2 n2 C2 l2 A3 n3 C3 l3 (x.setCell ⟨po, i, none⟩ u) :=
  ⟨h.f.far (Rqos_ne h.f h.chk.out) u, h.chk.out.set_ i u, h.chk.o1.far _ (own_ne h.chk.o1 h.chk.out (by decide)) u, h.chk.o2.far _ (own_ne h.chk.o2 h.chk.out (by decide)) u, RownP_far h.chk.o3 h.chk.out i u, Rset_bel h.chk.bel h.chk.out.lt i u⟩
end
theorem Rchk_start (WP : World) (po : Nat) (hpo : WP.heap.size = po) : RChkT WP po noSent none 0 none 0 none 0 (WP.alloc (.cells zsent 52)) := by
  subst hpo
  exact ⟨Blk.new _ _ _, ownI_nil _ _, ownB_nil _ _, ownP_nil _ _, (Below.refl _ _).alloc (Nat.le_refl _) _⟩
section
variable {t t' : Int} {mo mo' eo eo' : Bool} {X1 Y : Option Addr} {m1 D1 k K : Nat} {X2 : Option Addr} {m2 D2 : Nat} {X3 : Option Addr} {m3 D3 : Nat}
theorem RchkT_next {WP y : World} {po : Nat} {s : SentP} {u : URead} {n1 n2 n3 : Nat} (e1 : s.seqs.length = n1) (e2 : s.retry.length = n2) (e3 : s.bodies.length = n3)
    (h : RChkW WP po (sentcells u.tid X1 (n1 + 1) D1 X2 (n2 + 1) D2 u.m u.e X3 (n3 + 1) D3) X1 (n1 + 1) D1 (s.seqs ++ [u.seq]) X2 (n2 + 1) D2 (s.retry ++ [u.r]) X3 (n3 + 1) D3 (s.bodies ++ [u.body]) y) : RChkT WP po (sentS s u) X1 D1 X2 D2 X3 D3 y := by
  subst e1 e2 e3
  unfold RChkT sentS
  simp only [List.length_append, List.length_singleton]
  exact h
end
end Go.Proofs.YtoagmehgiaamlaaDoor
