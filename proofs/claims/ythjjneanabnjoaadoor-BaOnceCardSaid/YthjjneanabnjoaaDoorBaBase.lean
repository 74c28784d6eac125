/-
  ba.Session in memory: frames, the session's block, its window, its rows; what its operations may turn.
-/
import Derived.Test.YthjjneanabnjoaaDoorWnMore
import Derived.Test.YthjjneanabnjoaaDoorMem
import Derived.Test.YthjjneanabnjoaaDoorClone
namespace Go.Proofs.YthjjneanabnjoaaDoor
open Go.ChangeShapes Go.WideShapes Go.ChangeAt Go.RowKit
set_option linter.unusedVariables false

/-- an api.Mpdu -/
structure Mp where
  id : Int
  flow : Int
  tid : Int
  at_ : Int
  body : List UInt8
  seq : Int
  sent : Int
  unt : Int
/-- one, and where its bytes lie -/
structure Md where
  m : Mp
  A : Option Addr
  C : Nat
/-- a ba.frame -/
structure Fm where
  m : Mp
  fl : Bool
  A : Option Addr
  C : Nat
def mpA (m : Mp) (A : Option Addr) (C : Nat) : Array Value := #[.int .i64 m.id, .int .u32 m.flow, .int .i64 m.tid, .int .i64 m.at_, .slice A m.body.length C, .int .i64 m.seq, .int .i64 m.sent, .int .i64 m.unt]
def fmA (x : Fm) : Array Value := #[.int .i64 x.m.id, .int .u32 x.m.flow, .int .i64 x.m.tid, .int .i64 x.m.at_, .slice x.A x.m.body.length x.C, .int .i64 x.m.seq, .int .i64 x.m.sent, .int .i64 x.m.unt, .bool x.fl]
def mdC (x : Md) : List Value := [.int .i64 x.m.id, .int .u32 x.m.flow, .int .i64 x.m.tid, .int .i64 x.m.at_, .slice x.A x.m.body.length x.C, .int .i64 x.m.seq, .int .i64 x.m.sent, .int .i64 x.m.unt]
def fmC (x : Fm) : List Value := [.int .i64 x.m.id, .int .u32 x.m.flow, .int .i64 x.m.tid, .int .i64 x.m.at_, .slice x.A x.m.body.length x.C, .int .i64 x.m.seq, .int .i64 x.m.sent, .int .i64 x.m.unt, .bool x.fl]
theorem mdC_len (x : Md) : (mdC x).length = 8 := rfl
theorem fmC_len (x : Fm) : (fmC x).length = 9 := rfl
theorem mdC_one (x : Md) : ∀ u ∈ mdC x, u.oneCell' = true := by
  intro u hu
  simp only [mdC, List.mem_cons, List.not_mem_nil, or_false] at hu
  rcases hu with rfl | rfl | rfl | rfl | rfl | rfl | rfl | rfl <;> rfl
theorem fmC_one (x : Fm) : ∀ u ∈ fmC x, u.oneCell' = true := by
  intro u hu
  simp only [fmC, List.mem_cons, List.not_mem_nil, or_false] at hu
  rcases hu with rfl | rfl | rfl | rfl | rfl | rfl | rfl | rfl | rfl <;> rfl
theorem info_mpdu : (Tryd.prog.info? 34).map (fun i => (i.zero, i.size, i.bytes)) = some (some (.agg #[.int .i64 0, .int .u32 0, .int .i64 0, .int .i64 0, .slice none 0 0, .int .i64 0, .int .i64 0, .int .i64 0]), 8, 80) := by kernel_rfl
theorem info_frame : (Tryd.prog.info? 81).map (fun i => (i.zero, i.size, i.bytes)) = some (some (.agg #[.int .i64 0, .int .u32 0, .int .i64 0, .int .i64 0, .slice none 0 0, .int .i64 0, .int .i64 0, .int .i64 0, .bool false]), 9, 88) := by kernel_rfl

/-- frames of the call's own -/
structure OwnM (w : World) (base : Nat) (A : Option Addr) (n C : Nat) (L : List Md) : Prop where
  own : w.ownsRow base 34 8 (.slice A n C) n (L.flatMap mdC)
  body : ∀ x ∈ L, OwnU8 w base x.A x.m.body.length x.C x.m.body
/-- rows of ba.frame of the call's own -/
structure OwnF (w : World) (base : Nat) (A : Option Addr) (n C : Nat) (L : List Fm) : Prop where
  own : w.ownsRow base 81 9 (.slice A n C) n (L.flatMap fmC)
  body : ∀ x ∈ L, Row w 1 x.A x.m.body.length x.C (x.m.body.map u8v)
theorem ownU8_touch {S : Nat → Prop} {w w' : World} {base n C : Nat} {A : Option Addr} {xs : List UInt8} (h : OwnU8 w base A n C xs) (ht : Touch S w w') (hA : ∀ k, blk A = some k → ¬ S k) : OwnU8 w' base A n C xs := own_touch h ht hA
theorem ownU8_far {w : World} {base n C : Nat} {A : Option Addr} {xs : List UInt8} (h : OwnU8 w base A n C xs) (p : Addr) (hp : some p.block ≠ blk A) (u : Value) : OwnU8 (w.setCell p u) base A n C xs := own_far h p hp u
section
variable {w w' : World} {base n C : Nat} {A : Option Addr} {L : List Md}
theorem OwnM.len (h : OwnM w base A n C L) : L.length = n := by have := h.own.1; rw [flat_len mdC 8 mdC_len] at this; omega
theorem OwnM.alloc (h : OwnM w base A n C L) (o : Obj) : OwnM (w.alloc o) base A n C L := ⟨World.ownsRow.alloc h.own o, fun x hx => (h.body x hx).alloc o⟩
theorem OwnM.below {B : Nat} (h : OwnM w base A n C L) (hb : Below B w w') (hB : w.heap.size ≤ B) : OwnM w' base A n C L := ⟨own_below h.own hb hB, fun x hx => (h.body x hx).below hb hB⟩
theorem OwnM.touch {S : Nat → Prop} (h : OwnM w base A n C L) (ht : Touch S w w') (h1 : ∀ k, blk A = some k → ¬ S k) (h2 : ∀ x ∈ L, ∀ k, blk x.A = some k → ¬ S k) : OwnM w' base A n C L := ⟨own_touch h.own ht h1, fun x hx => ownU8_touch (h.body x hx) ht (h2 x hx)⟩
theorem ownM_nil (w : World) (base : Nat) : OwnM w base none 0 0 [] := ⟨World.ownsRow_nil w base _ 8, fun x hx => by cases hx⟩
theorem OwnM.base_le {b' : Nat} (h : OwnM w base A n C L) (hb : b' ≤ base) : OwnM w b' A n C L := by
  refine ⟨⟨h.own.1, ?_⟩, fun x hx => (h.body x hx).base_le hb⟩
  rcases h.own.2 with h2 | ⟨g, cap, cur, hv, hg, r⟩
  · exact .inl h2
  · exact .inr ⟨g, cap, cur, hv, by omega, r⟩
theorem OwnM.at_ (h : OwnM w base A n C L) (hn : 0 < n) : ∃ g, A = some ⟨g, 0, none⟩ ∧ base ≤ g ∧ g < w.heap.size ∧ n ≤ C ∧ ∀ (k : Nat) (x : Md), L[k]? = some x → ∀ j u, (mdC x)[j]? = some u → w.cell? ⟨g, k * 8 + j, none⟩ = some u := by
  obtain ⟨g, h1, h2, h3, h4, h5, _, _⟩ := own_open h.own hn
  refine ⟨g, h1, h2, h3, h4, fun k x hx j u hu => h5 _ _ (flat_get mdC 8 mdC_len L k j ?_ hx hu)⟩
  have := (List.getElem?_eq_some_iff.1 hu).1
  rwa [mdC_len] at this
end

/-- a session -/
structure BS where
  w : WS
  sz : Int
  retry : Int
  life : Int
  state : Int
  token : Int
  l : List Fm
  asks : Bool
  vain : Int
/-- where its parts lie -/
structure BP where
  W : Nat
  AW : Option Addr
  CW : Nat
  A : Option Addr
  C : Nat
def bsA (p : BP) (s : BS) : Array Value := #[.pointer (some ⟨p.W, 0, none⟩), .int .i64 s.sz, .int .i64 s.retry, .int .i64 s.life, .int .i64 s.state, .int .i64 s.token, .slice p.A s.l.length p.C, .bool s.asks, .int .i64 s.vain]
structure Bs (w : World) (base B : Nat) (p : BP) (s : BS) : Prop where
  blk : Blk w B (bsA p s) 78
  win : Wn w base p.W p.AW p.CW s.w
  own : w.ownsRow base 81 9 (.slice p.A s.l.length p.C) s.l.length (s.l.flatMap fmC)
  body : ∀ x ∈ s.l, OwnU8 w base x.A x.m.body.length x.C x.m.body
/-- the blocks that are a session's -/
def bsS (B : Nat) (p : BP) (s : BS) : Nat → Prop := fun k => k = B ∨ k = p.W ∨ blk p.AW = some k ∨ blk p.A = some k ∨ ∃ x ∈ s.l, blk x.A = some k
/-- a session goes on -/
def BStep (w w' : World) (base B : Nat) (p : BP) (s s' : BS) : Prop := ∃ p', Bs w' base B p' s' ∧ Touch (bsS B p s) w w' ∧ ∀ k, bsS B p' s' k → bsS B p s k ∨ w.heap.size ≤ k
section
variable {w w' w2 : World} {base B : Nat} {p : BP} {s s' s2 : BS}
theorem Bs.c0 (h : Bs w base B p s) : w.cell? ⟨B, 0, none⟩ = some (.pointer (some ⟨p.W, 0, none⟩)) := h.blk.cell 0
theorem Bs.c1 (h : Bs w base B p s) : w.cell? ⟨B, 1, none⟩ = some (.int .i64 s.sz) := h.blk.cell 1
theorem Bs.c2 (h : Bs w base B p s) : w.cell? ⟨B, 2, none⟩ = some (.int .i64 s.retry) := h.blk.cell 2
theorem Bs.c3 (h : Bs w base B p s) : w.cell? ⟨B, 3, none⟩ = some (.int .i64 s.life) := h.blk.cell 3
theorem Bs.c4 (h : Bs w base B p s) : w.cell? ⟨B, 4, none⟩ = some (.int .i64 s.state) := h.blk.cell 4
theorem Bs.c5 (h : Bs w base B p s) : w.cell? ⟨B, 5, none⟩ = some (.int .i64 s.token) := h.blk.cell 5
theorem Bs.c6 (h : Bs w base B p s) : w.cell? ⟨B, 6, none⟩ = some (.slice p.A s.l.length p.C) := h.blk.cell 6
theorem Bs.c7 (h : Bs w base B p s) : w.cell? ⟨B, 7, none⟩ = some (.bool s.asks) := h.blk.cell 7
theorem Bs.c8 (h : Bs w base B p s) : w.cell? ⟨B, 8, none⟩ = some (.int .i64 s.vain) := h.blk.cell 8
theorem Bs.fr (h : Bs w base B p s) (i : Nat) : w.frozen? ⟨B, i, none⟩ = false := h.blk.frozen i
theorem Bs.lt (h : Bs w base B p s) : B < w.heap.size := h.blk.lt
theorem Bs.neW (h : Bs w base B p s) : B ≠ p.W := by
  intro e
  have h1 := h.blk
  have h2 := h.win.blk
  unfold Go.Proofs.YthjjneanabnjoaaDoor.Blk at h1 h2
  rw [← e, h1] at h2
  injection h2 with h2
  injection h2 with _ h2
  exact absurd h2 (by decide)
theorem Bs.neAW (h : Bs w base B p s) : some B ≠ Go.Proofs.YthjjneanabnjoaaDoor.blk p.AW := own_ne h.win.own h.blk (by decide)
theorem Bs.neA (h : Bs w base B p s) : some B ≠ Go.Proofs.YthjjneanabnjoaaDoor.blk p.A := own_ne h.own h.blk (by decide)
theorem Bs.neWA (h : Bs w base B p s) : some p.W ≠ Go.Proofs.YthjjneanabnjoaaDoor.blk p.A := own_ne h.own h.win.blk (by decide)
theorem Bs.neBody (h : Bs w base B p s) {x : Fm} (hx : x ∈ s.l) : some B ≠ Go.Proofs.YthjjneanabnjoaaDoor.blk x.A := own_ne (h.body x hx) h.blk (by decide)
theorem Bs.neWBody (h : Bs w base B p s) {x : Fm} (hx : x ∈ s.l) : some p.W ≠ Go.Proofs.YthjjneanabnjoaaDoor.blk x.A := own_ne (h.body x hx) h.win.blk (by decide)
theorem Bs.alloc (h : Bs w base B p s) (o : Obj) : Bs (w.alloc o) base B p s := ⟨h.blk.alloc o, h.win.alloc o, World.ownsRow.alloc h.own o, fun x hx => (h.body x hx).alloc o⟩
theorem Bs.drewN (h : Bs w base B p s) (n : Nat) : Bs (w.drewN n) base B p s := ⟨h.blk, h.win.drewN n, h.own, h.body⟩
theorem Bs.drew (h : Bs w base B p s) : Bs w.drew base B p s := ⟨h.blk, h.win.drew, h.own, h.body⟩
theorem Bs.below {D : Nat} (h : Bs w base B p s) (hb : Below D w w') (hD : w.heap.size ≤ D) : Bs w' base B p s := ⟨h.blk.below hb (Nat.lt_of_lt_of_le h.blk.lt hD), h.win.below hb hD, own_below h.own hb hD, fun x hx => (h.body x hx).below hb hD⟩
theorem Bs.touch {S : Nat → Prop} (h : Bs w base B p s) (ht : Touch S w w') (hS : ∀ k, bsS B p s k → ¬ S k) : Bs w' base B p s :=
  ⟨h.blk.touch ht (hS _ (.inl rfl)), h.win.touch ht (hS _ (.inr (.inl rfl))) (fun k hk => hS k (.inr (.inr (.inl hk)))), own_touch h.own ht (fun k hk => hS k (.inr (.inr (.inr (.inl hk))))), fun x hx => ownU8_touch (h.body x hx) ht (fun k hk => hS k (.inr (.inr (.inr (.inr ⟨x, hx, hk⟩)))))⟩
theorem Bs.ge (h : Bs w base B p s) (hB : base ≤ B) (hW : base ≤ p.W) : ∀ k, bsS B p s k → base ≤ k ∧ k < w.heap.size := by
  rintro k (rfl | rfl | hk | hk | ⟨x, hx, hk⟩)
  · exact ⟨hB, h.blk.lt⟩
  · exact ⟨hW, h.win.blk.lt⟩
  · exact h.win.own.ge k hk
  · exact own_ge h.own k hk
  · exact (h.body x hx).blk_ge k hk
theorem bstep_refl (h : Bs w base B p s) : BStep w w base B p s s := ⟨p, h, Touch.refl _ _, fun k hk => .inl hk⟩
theorem BStep.trans {p1 : BP} (h1 : Bs w' base B p1 s') (t1 : Touch (bsS B p s) w w') (n1 : ∀ k, bsS B p1 s' k → bsS B p s k ∨ w.heap.size ≤ k) (h2 : BStep w' w2 base B p1 s' s2) : BStep w w2 base B p s s2 := by
  obtain ⟨p2, h2, t2, n2⟩ := h2
  refine ⟨p2, h2, t1.trans t2 (fun k hk hs => ?_), fun k hk => ?_⟩
  · rcases n1 k hs with h | h
    · exact h
    · omega
  · rcases n2 k hk with h | h
    · exact n1 k h
    · exact .inr (Nat.le_trans t1.size h)
end
theorem row_frame (w : World) (x : Fm) (t : TypeId) (k : Nat) (hk : k = w.heap.size) : Row (w.alloc (.cells (fmA x) t)) 9 (some ⟨k, 0, none⟩) 1 1 (fmC x) := by
  subst hk
  refine ⟨rfl, Nat.le_refl _, by simp [maxLen], fun h => by simp at h, fun _ => ⟨w.heap.size, 0, rfl, by simp, fun i u hu => ?_⟩⟩
  rw [Nat.zero_add, (Blk.new w (fmA x) t).cell i]
  simpa [fmA, fmC] using hu
theorem row_mpdu (w : World) (x : Md) (t : TypeId) (k : Nat) (hk : k = w.heap.size) : Row (w.alloc (.cells (mpA x.m x.A x.C) t)) 8 (some ⟨k, 0, none⟩) 1 1 (mdC x) := by
  subst hk
  refine ⟨rfl, Nat.le_refl _, by simp [maxLen], fun h => by simp at h, fun _ => ⟨w.heap.size, 0, rfl, by simp, fun i u hu => ?_⟩⟩
  rw [Nat.zero_add, (Blk.new w (mpA x.m x.A x.C) t).cell i]
  simpa [mpA, mdC] using hu
end Go.Proofs.YthjjneanabnjoaaDoor
