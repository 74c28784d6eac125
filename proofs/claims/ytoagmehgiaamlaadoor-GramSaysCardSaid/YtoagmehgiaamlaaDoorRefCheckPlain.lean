/-
  The document's questions about a frame, in plain Lean: they are part's.
-/
import Derived.Test.YtoagmehgiaamlaaDoorRefApp
namespace Go.Proofs.YtoagmehgiaamlaaDoor
open Go.ChangeShapes Go.WideShapes Go.ChangeAt Go.RowKit
set_option linter.unusedVariables false

theorem wpList_load_midG {P : Program} {ops : Array Oper} {rest : List Oper} {op : Oper} {a : Act} {w : World} {Q : Exit → Act → World → Prop} (hgd : Region.wanted op (yielded ops a.tmps) = true) (ty : TypeId) (x : Operand) (ho : op.op = .load ty x)
    (b o : Nat) (hx : a.eval x = .pointer (some ⟨b, o, none⟩)) (cs : List Value) (d : TypeDesc) (hc : w.rangeAt b o cs)
    (hu : P.underlying ty = some d) (hd : d.isRow = true) (hi : (P.info? ty).map (·.size) = some cs.length)
    (h : wpList P ops Q rest (a.put op.dst (.agg cs.toArray)) w) : wpList P ops Q (op :: rest) a w := by
  refine wpList_step fun K hK => ?_
  rw [if_pos hgd]
  exact wp_load_mid ty x ho b o hx cs d hc hu hd hi (hK _ _ h)
/-- the frame ahead, as the document has it: in what was sent -/
def LastD (s : SentP) (i : Nat) (l : Option URead) : Prop := match l with
  | none => i = 0
  | some x => 0 < i ∧ s.tid = x.tid ∧ s.more = x.m ∧ s.eosp = x.e ∧ s.seqs[i - 1]? = some x.seq
def dQ (s : SentP) (i : Nat) : Int := s.seqs.getD (i - 1) 0
def d1 (m : RulesP) (u : URead) (s : SentP) (i : Nat) : Bool := !sameA u.a m.dst || !sameA (fun k => u.a (6 + k)) m.bss || !sameA (fun k => u.a (12 + k)) m.bss || (decide ((0 : Int) < (i : Int)) && !(u.tid == s.tid))
def d2 (m : RulesP) (u : URead) (s : SentP) (i : Nat) : Bool := !decide ((u.seq - m.start) % 4096 < m.size) || (decide ((0 : Int) < (i : Int)) && decide ((u.seq - m.start) % 4096 ≤ (dQ s i - m.start) % 4096))
def d3 (u : URead) (s : SentP) (i : Nat) : Bool := decide ((0 : Int) < (i : Int)) && (!(u.m == s.more) || !(u.e == s.eosp))
theorem gpart_doc {m : RulesP} {u : URead} {s : SentP} {i : Nat} {l : Option URead} (h : LastD s i l) : partG m u l = if d1 m u s i = true then some 4 else if d2 m u s i = true then some 10 else if d3 u s i = true then some 9 else none := by
  unfold partG
  have e1 : (sameA u.a m.dst = false ∨ sameA (fun i => u.a (6 + i)) m.bss = false ∨ sameA (fun i => u.a (12 + i)) m.bss = false ∨ (∃ x, l = some x ∧ u.tid ≠ x.tid)) ↔ d1 m u s i = true := by
    unfold d1
    simp only [Bool.or_eq_true, Bool.and_eq_true, Bool.not_eq_true', decide_eq_true_eq, beq_eq_false_iff_ne, or_assoc]
    cases l with
    | none =>
      have hi : i = 0 := h
      subst hi
      simp
    | some x =>
      obtain ⟨hi, ht, _⟩ := h
      have hi' : (0 : Int) < (i : Int) := by omega
      simp [ht, hi]
  have e2 : (¬ (u.seq - m.start) % 4096 < m.size ∨ (∃ x, l = some x ∧ (u.seq - m.start) % 4096 ≤ (x.seq - m.start) % 4096)) ↔ d2 m u s i = true := by
    unfold d2
    simp only [Bool.or_eq_true, Bool.and_eq_true, Bool.not_eq_true', decide_eq_true_eq, decide_eq_false_iff_not]
    cases l with
    | none =>
      have hi : i = 0 := h
      subst hi
      simp
    | some x =>
      obtain ⟨hi, _, _, _, hq⟩ := h
      have hi' : (0 : Int) < (i : Int) := by omega
      have hd : dQ s i = x.seq := by unfold dQ; rw [List.getD_eq_getElem?_getD, hq]; rfl
      simp [hi', hd]
      omega
  have e3 : (∃ x, l = some x ∧ (u.m ≠ x.m ∨ u.e ≠ x.e)) ↔ d3 u s i = true := by
    unfold d3
    simp only [Bool.or_eq_true, Bool.and_eq_true, Bool.not_eq_true', decide_eq_true_eq, beq_eq_false_iff_ne]
    cases l with
    | none =>
      have hi : i = 0 := h
      subst hi
      simp
    | some x =>
      obtain ⟨hi, _, hm, he, _⟩ := h
      have hi' : (0 : Int) < (i : Int) := by omega
      simp [hi', hm, he]
      omega
  simp only [e1, e2, e3]
theorem app_part3 (w : World) {ops : Array Oper} {rest : List Oper} {o : Oper} {a : Act} {Q : Exit → Act → World → Prop} (hgd : Region.wanted o (yielded ops a.tmps) = true) (s x : Operand)
    (ho : o.op = .call { callee := .builtin .append, args := #[s, x], argTypes := #[38, 38] })
    (base : Nat) (A : Option Addr) (n C : Nat) (L : List (List UInt8)) (hn : n = L.length) (hs : a.eval s = .slice A n C) (hown : OwnP w base (.slice A n C) L) (hL : L.length ≤ 2000000)
    (A' : Option Addr) (m C' : Nat) (y : List UInt8) (hm : y.length = m) (hy : OwnU8 w base A' m C' y)
    (X : Option Addr) (c : Nat) (hx : a.eval x = .slice X 1 c) (hr : Row w 1 X 1 c [.slice A' m C']) (hbase : base ≤ w.heap.size)
    (h : ∀ A2 C2 w', OwnP w' base (.slice A2 (n + 1) C2) (L ++ [y]) → w.grownBy w' (blk A) → (∀ e', e' ≠ 22 → ∀ base' sz' A1 n1 C1 vs, w.ownsRow base' e' sz' (.slice A1 n1 C1) n1 vs → blk A1 = none ∨ blk A1 ≠ blk A) →
      (∀ k cs t, t ≠ 22 → Blk w k cs t → some k ≠ blk A) → (∀ k, blk A = some k → base ≤ k) → wpList Tryd.prog ops Q rest (a.put o.dst (.slice A2 (n + 1) C2)) w') : wpList Tryd.prog ops Q (o :: rest) a w := by
  refine wpList_step fun K hK => ?_
  rw [if_pos hgd]
  exact wp_append_part w s x ho base A n C L hn hs hown hL A' m C' y hm hy X c hx hr hbase (fun A2 C2 w' h1 h2 h3 h4 h5 => hK _ _ (h A2 C2 w' h1 h2 h3 h4 h5))
theorem quiet0 {P : Program} {f : FuncId} {args : Array Value} {v : Value} (h : ∀ w, Calls P f args w fun e w' => e = .returned v ∧ w = w') (w : World) (a : Nat) : Calls P f args (w.drewN a) fun e w'' => e = .returned v ∧ ∃ n, w'' = w.drewN n :=
  (h _).mono (by rintro e w'' ⟨rfl, rfl⟩; exact ⟨rfl, a, rfl⟩)
theorem useq_bound (x : List UInt8) : 0 ≤ (uread x).seq ∧ (uread x).seq < 65536 := by
  unfold uread
  split
  · show 0 ≤ rdSeq (x.getD 22 0) (x.getD 23 0) ∧ rdSeq (x.getD 22 0) (x.getD 23 0) < 65536
    have b1 := UInt8.toNat_lt (x.getD 22 0)
    have b2 := UInt8.toNat_lt (x.getD 23 0)
    unfold rdSeq
    omega
  · exact ⟨by decide, by decide⟩
theorem lastD_next {s : SentP} {i : Nat} {u : URead} (h : s.seqs.length = i) : LastD (sentS s u) (i + 1) (some u) := by
  refine ⟨by omega, rfl, rfl, rfl, ?_⟩
  show (s.seqs ++ [u.seq])[i + 1 - 1]? = some u.seq
  rw [Nat.add_sub_cancel, ← h, List.getElem?_append_right (Nat.le_refl _), Nat.sub_self]
  rfl
def SeqB (s : SentP) : Prop := ∀ q ∈ s.seqs, 0 ≤ q ∧ q < 65536
theorem seqB_next {s : SentP} {u : URead} (h : SeqB s) (hu : 0 ≤ u.seq ∧ u.seq < 65536) : SeqB (sentS s u) := by
  intro q hq
  rcases List.mem_append.1 (show q ∈ s.seqs ++ [u.seq] from hq) with hq | hq
  · exact h q hq
  · rw [List.mem_singleton.1 hq]; exact hu
end Go.Proofs.YtoagmehgiaamlaaDoor
