/-
  A run of right frames (plain); make([]byte, n) in a region that draws.
-/
import Derived.Test.YtoagmehgiaamlaaDoorGramStep
import Derived.Test.YtoagmehgiaamlaaDoorRefPack
import Derived.Test.YtoagmehgiaamlaaDoorMg
namespace Go.Proofs.YtoagmehgiaamlaaDoor
open Go.ChangeShapes Go.WideShapes Go.ChangeAt Go.RowKit
set_option linter.unusedVariables false

theorem wp_make_u8 (w : World) {o : Oper} {a : Act} {K : Act → World → Prop} {Q : Exit → Act → World → Prop} (l c : Operand)
    (hop : o.op = Op.makeSlice 22 l c) (kl kc : IntKind) (n : Nat) (hl : a.eval l = .int kl (n : Int)) (hc : a.eval c = .int kc (n : Int)) (hn : n ≤ 140737488355328)
    (h : ∀ w', OwnU8 w' w.heap.size (some ⟨w.heap.size, 0, none⟩) n n (List.replicate n 0) → w.grownBy w' none → K (a.put o.dst (.slice (some ⟨w.heap.size, 0, none⟩) n n)) w') : o.wp Tryd.prog a w K Q := by
  obtain ⟨i, hi, hz, hsz, hby⟩ := info_parts info_u8
  obtain ⟨w', hrun, r1, r2⟩ := run_make_full (P := Tryd.prog) w w.heap.size 22 _ i _ 1 Tryd.underlying22 hi hz hsz kl kc n (by rw [hby]; omega) (by unfold maxLen; omega) (Nat.le_refl _)
  unfold Oper.wp
  simp [execOp, hop, hl, hc, hrun, Result.andThen]
  refine h w' ?_ r2
  unfold OwnU8
  have e : (List.replicate n (0 : UInt8)).map u8v = (madeCells (Value.int .u8 0).cells (n * 1)).toList := by
    apply List.ext_getElem
    · simp [size_madeCells]
    · intro k h1 h2
      simp [madeCells, u8v, Value.cells, Nat.mod_one]
  rw [e]
  exact r1

theorem app_part (w : World) {ops : Array Oper} {rest : List Oper} {o : Oper} {a : Act} {Q : Exit → Act → World → Prop} (hgd : Region.wanted o (yielded ops a.tmps) = true) (s x : Operand)
    (ho : o.op = .call { callee := .builtin .append, args := #[s, x], argTypes := #[38, 38] })
    (base : Nat) (A : Option Addr) (n C : Nat) (L : List (List UInt8)) (hn : n = L.length) (hs : a.eval s = .slice A n C) (hown : OwnP w base (.slice A n C) L) (hL : L.length ≤ 2000000)
    (A' : Option Addr) (m C' : Nat) (y : List UInt8) (hm : y.length = m) (hy : OwnU8 w base A' m C' y)
    (X : Option Addr) (c : Nat) (hx : a.eval x = .slice X 1 c) (hr : Row w 1 X 1 c [.slice A' m C']) (hbase : base ≤ w.heap.size)
    (h : ∀ A2 C2 w', OwnP w' base (.slice A2 (n + 1) C2) (L ++ [y]) → Below base w w' → wpList Tryd.prog ops Q rest (a.put o.dst (.slice A2 (n + 1) C2)) w') : wpList Tryd.prog ops Q (o :: rest) a w := by
  refine wpList_step fun K hK => ?_
  rw [if_pos hgd]
  refine wp_append_part w s x ho base A n C L hn hs hown hL A' m C' y hm hy X c hx hr hbase (fun A2 C2 w' h1 h2 _ _ h5 => hK _ _ (h A2 C2 w' h1 ⟨h2.os, h2.tape, h2.output, h2.size, fun k hk => h2.block k (by omega) (fun e => ?_)⟩))
  have := h5 k e.symm
  omega

/-- frames of one identifier, one behind the other -/
structure RunP where
  tid : Int
  start : Int
  q : Nat → Nat
  more : Bool
  eosp : Bool
  body : Nat → List UInt8
def seqAt (r : RunP) (j : Nat) : Int := (r.start + (r.q j : Int)) % 4096
def frAt (r : RunP) (j : Nat) : List UInt8 := frameB (adr2 2 2) (adr2 2 1) (adr2 2 1) r.tid (seqAt r j) false r.more r.eosp (r.body j)
def sentK (r : RunP) (k : Nat) : SentP := ⟨if k = 0 then 0 else r.tid, (List.range k).map (seqAt r), List.replicate k false, if k = 0 then false else r.more, if k = 0 then false else r.eosp, (List.range k).map r.body⟩
def lastK (r : RunP) (k : Nat) : Option URead := if k = 0 then none else some (uread (frAt r (k - 1)))
structure RunOk (r : RunP) (N : Nat) : Prop where
  t0 : 0 ≤ r.tid
  t1 : r.tid < 8
  s0 : 0 ≤ r.start
  s1 : r.start < 4096
  lt : ∀ j, j < N → r.q j < 64
  up : ∀ j, j + 1 < N → r.q j < r.q (j + 1)
  len : ∀ j, j < N → (r.body j).length ≤ 1500
/-- the rules that such a run keeps -/
structure KeepsR (m : RulesP) (r : RunP) : Prop where
  dst : m.dst = adr2 2 2
  bss : m.bss = adr2 2 1
  start : m.start = r.start
theorem fr_read {r : RunP} {N j : Nat} (h : RunOk r N) (hj : j < N) : rdErr (frAt r j) = none ∧ ∃ f, uread (frAt r j) = ⟨f, r.tid, seqAt r j, false, r.more, r.eosp, r.body j⟩ ∧ ∀ i, i < 18 → f i = fA (adr2 2 2) (adr2 2 1) (adr2 2 1) i := by
  refine frame_read ⟨h.t0, h.t1, ?_, ?_, h.len j hj⟩ <;> · unfold seqAt; omega
theorem seq_off {r : RunP} {N j : Nat} (h : RunOk r N) (hj : j < N) : (seqAt r j - r.start) % 4096 = (r.q j : Int) := by
  have := h.lt j hj; have := h.s0; have := h.s1
  unfold seqAt; omega
theorem fr_part {m : RulesP} {r : RunP} {N j : Nat} (hm : KeepsR m r) (hsz : 64 ≤ m.size) (h : RunOk r N) (hj : j < N) : partG m (uread (frAt r j)) (lastK r j) = none := by
  obtain ⟨_, f, hu, hf⟩ := fr_read h hj
  rw [hu]
  refine part_good (by rw [hm.dst]; exact fA_d hf) (by rw [hm.bss]; exact fA_s hf) (by rw [hm.bss]; exact fA_t hf) ?_ ?_
  · show (seqAt r j - m.start) % 4096 < m.size
    rw [hm.start, seq_off h hj]
    have := h.lt j hj
    omega
  · intro x hx
    unfold lastK at hx
    split at hx
    · cases hx
    · rename_i h0
      injection hx with hx
      subst hx
      obtain ⟨_, f', hu', _⟩ := fr_read h (show j - 1 < N by omega)
      rw [hu']
      refine ⟨rfl, ?_, rfl, rfl⟩
      show (seqAt r (j - 1) - m.start) % 4096 < (seqAt r j - m.start) % 4096
      rw [hm.start, seq_off h hj, seq_off h (show j - 1 < N by omega)]
      have := h.up (j - 1) (by omega)
      rw [show j - 1 + 1 = j by omega] at this
      omega
theorem sent_step {r : RunP} {N j : Nat} (h : RunOk r N) (hj : j < N) : sentS (sentK r j) (uread (frAt r j)) = sentK r (j + 1) := by
  obtain ⟨_, f, hu, _⟩ := fr_read h hj
  rw [hu]
  unfold sentS sentK
  simp only [List.range_succ, List.map_append, List.map_singleton, List.replicate_succ', Nat.add_one_ne_zero, if_false]
theorem run_sent {m : RulesP} {r : RunP} {N : Nat} (hm : KeepsR m r) (hsz : 64 ≤ m.size) (h : RunOk r N) (rest : List (List UInt8)) : ∀ k i, i + k ≤ N →
    sentL m ((List.range' i k).map (frAt r) ++ rest) i (sentK r i) (lastK r i) = sentL m rest (i + k) (sentK r (i + k)) (lastK r (i + k)) := by
  intro k
  induction k with
  | zero => intro i _; rfl
  | succ k ih =>
    intro i hi
    rw [List.range'_succ, List.map_cons, List.cons_append, sent_next (fr_read h (by omega)).1 (fr_part hm hsz h (by omega)), sent_step h (by omega)]
    have e : some (uread (frAt r i)) = lastK r (i + 1) := by unfold lastK; rw [if_neg (by omega)]; rfl
    rw [e, ih (i + 1) (by omega), show i + 1 + k = i + (k + 1) by omega]
theorem run_all {m : RulesP} {r : RunP} {N : Nat} (hm : KeepsR m r) (hsz : 64 ≤ m.size) (h : RunOk r N) : sentL m ((List.range N).map (frAt r)) 0 noSent none = .ok (sentK r N) := by
  have := run_sent hm hsz h [] N 0 (by omega)
  rw [List.append_nil, ← List.range_eq_range'] at this
  rw [Nat.zero_add] at this
  exact this
theorem run_bad {m : RulesP} {r : RunP} {N k : Nat} (hm : KeepsR m r) (hsz : 64 ≤ m.size) (h : RunOk r N) (hk : k ≤ N) (x : List UInt8) (rest : List (List UInt8)) {c : Nat} (hx : rdErr x = none) (hp : partG m (uread x) (lastK r k) = some c) :
    sentL m ((List.range k).map (frAt r) ++ x :: rest) 0 noSent none = .error (c, k) := by
  have := run_sent hm hsz h (x :: rest) k 0 (by omega)
  rw [← List.range_eq_range', Nat.zero_add] at this
  rw [sent_amiss hx hp] at this
  exact this
theorem fr_len (r : RunP) (j : Nat) : (frAt r j).length = 26 + (r.body j).length := frame_len _ _ _ _ _ _ _ _ _
theorem pack_bound : ∀ (L : List (List UInt8)) (b : Nat), (∀ x ∈ L, x.length ≤ b) → (packP L).length ≤ L.length * (8 + b) := by
  intro L b
  induction L using snoc_ind with
  | h0 => intro _; simp [packP, packF]
  | h M x ih =>
    intro h
    rw [pack_snoc]
    have h1 := ih (fun y hy => h y (by simp [hy]))
    have h2 := h x (by simp)
    simp only [List.length_append, delim_len, pad4_len, List.length_singleton]
    have h3 : up4 (packP M).length - (packP M).length ≤ 3 := by unfold up4; omega
    rw [Nat.add_mul]
    omega
theorem parts_pack {L : List (List UInt8)} (hg : goodL L) (h0 : L ≠ []) (h1 : L.length ≤ 64) (h2 : (packP L).length ≤ 65535) : partsP (packP L) = .ok L := by
  refine parts_ok ?_ (pts_pack hg) (by omega)
  intro e
  have hp := pts_pack hg
  rw [e, pts_nil] at hp
  injection hp with hp
  exact h0 hp.symm
/-- what a law holds behind the packing: the rules in their block, the bytes, the frames -/
structure BndS (w : World) (base pm : Nat) (m : RulesP) (A : Option Addr) (n C : Nat) (P : List UInt8) (B : Option Addr) (N D : Nat) (L : List (List UInt8)) (x : World) : Prop where
  rules : Blk x pm (rucells m) 30
  pk : OwnU8 x base A n C P
  l : OwnP x base (.slice B N D) L
  bel : Below w.heap.size w x
  ge : w.heap.size ≤ pm
section
variable {w x y : World} {base pm : Nat} {m m' : RulesP} {A : Option Addr} {n C : Nat} {P : List UInt8} {B : Option Addr} {N D : Nat} {L : List (List UInt8)}
theorem BndS.below (h : BndS w base pm m A n C P B N D L x) (hb : Below x.heap.size x y) : BndS w base pm m A n C P B N D L y :=
  ⟨h.rules.below hb h.rules.lt, h.pk.below hb (Nat.le_refl _), h.l.below hb (Nat.le_refl _), h.bel.trans (hb.mono h.bel.size), h.ge⟩
theorem BndS.grown (h : BndS w base pm m A n C P B N D L x) (hk : Blk y pm (rucells m') 30) (hg : x.grownBy y (some pm)) : BndS w base pm m' A n C P B N D L y :=
  ⟨hk, own_keepB h.pk h.rules (by decide) hg, ownP_keepB h.l h.rules (by decide) (by decide) hg, Below.grown h.bel hg h.bel.size (by intro k hk; injection hk with hk; have := h.ge; omega), h.ge⟩
theorem BndS.set_ (h : BndS w base pm m A n C P B N D L x) (i : Nat) (u : Value) (hm : (rucells m).setIfInBounds i u = rucells m') : BndS w base pm m' A n C P B N D L (x.setCell ⟨pm, i, none⟩ u) := by
  refine h.grown (by rw [← hm]; exact h.rules.set_ i u) ?_
  exact ⟨rfl, rfl, rfl, by simp [World.setCell], fun k _ hk => Below.heap_setCell x ⟨pm, i, none⟩ u k (by intro e; exact hk (by rw [e]))⟩
theorem BndS.row (h : BndS w base pm m A n C P B N D L x) : Row x 1 A n C (P.map u8v) := h.pk.row
theorem BndS.errs (h : BndS w base pm m A n C P B N D L x) {E : Nat → Addr} (hE : Errs allErr w E) : Errs allErr x E := hE.below h.bel (Nat.le_refl _)
theorem BndS.first (h : BndS w base pm m A n C P B N D L x) {f : List UInt8} (hf : L[0]? = some f) : ∃ b o A' C', B = some ⟨b, o, none⟩ ∧ b < x.heap.size ∧ x.cell? ⟨b, o, none⟩ = some (.slice A' f.length C') ∧ Row x 1 A' f.length C' (f.map u8v) := by
  obtain ⟨B', D', e, hr⟩ := h.l.row
  injection e with e1 e2 e3
  subst e1 e3
  obtain ⟨b, o, A', C', e1, e2', e3, e4⟩ := hr.at2 hf
  rw [Nat.add_zero] at e3
  exact ⟨b, o, A', C', e1, e2', e3, e4⟩
end
theorem two_roads8 {G F : Nat → Option Addr → Nat → Option Addr → Nat → Option Addr → Nat → World → Prop} {goal : Prop} (ways : (∀ b A1 C1 A2 C2 A3 C3 W, F b A1 C1 A2 C2 A3 C3 W → G b A1 C1 A2 C2 A3 C3 W) → goal) (rest : ∀ b A1 C1 A2 C2 A3 C3 W, F b A1 C1 A2 C2 A3 C3 W → G b A1 C1 A2 C2 A3 C3 W) : goal := ways rest
theorem two_roads2 {G F : Nat → World → Prop} {goal : Prop} (ways : (∀ b W, F b W → G b W) → goal) (rest : ∀ b W, F b W → G b W) : goal := ways rest
end Go.Proofs.YtoagmehgiaamlaaDoor
