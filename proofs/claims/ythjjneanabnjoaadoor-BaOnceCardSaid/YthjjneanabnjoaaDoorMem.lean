/-
  Bytes in memory, over this program's own type numbers: slices of bytes that the call owns, append onto them.
-/
import Derived.Test.YthjjneanabnjoaaDoorBase
namespace Go.Proofs.YthjjneanabnjoaaDoor
open Go.ChangeShapes Go.WideShapes Go.ChangeAt Go.RowKit
set_option linter.unusedVariables false

theorem row_six (w : World) (a b c d e f : UInt8) (t : TypeId) : Row (w.alloc (.cells #[.int .u8 (a.toNat : Int), .int .u8 (b.toNat : Int), .int .u8 (c.toNat : Int), .int .u8 (d.toNat : Int), .int .u8 (e.toNat : Int), .int .u8 (f.toNat : Int)] t)) 1 (some ⟨w.heap.size, 0, none⟩) 6 6 ([a, b, c, d, e, f].map u8v) := by
  rcases row_new w #[.int .u8 (a.toNat : Int), .int .u8 (b.toNat : Int), .int .u8 (c.toNat : Int), .int .u8 (d.toNat : Int), .int .u8 (e.toNat : Int), .int .u8 (f.toNat : Int)] t with h | h
  · exact h
  · simp [maxLen] at h
theorem row_four (w : World) (a b c d : UInt8) (t : TypeId) : Row (w.alloc (.cells #[.int .u8 (a.toNat : Int), .int .u8 (b.toNat : Int), .int .u8 (c.toNat : Int), .int .u8 (d.toNat : Int)] t)) 1 (some ⟨w.heap.size, 0, none⟩) 4 4 ([a, b, c, d].map u8v) := by
  rcases row_new w #[.int .u8 (a.toNat : Int), .int .u8 (b.toNat : Int), .int .u8 (c.toNat : Int), .int .u8 (d.toNat : Int)] t with h | h
  · exact h
  · simp [maxLen] at h
theorem info_u8 : (Tryd.prog.info? 5).map (fun i => (i.zero, i.size, i.bytes)) = some (some (.int .u8 0), 1, 1) := by kernel_rfl

/-- a slice of bytes of the call's own -/
def OwnU8 (w : World) (base : Nat) (A : Option Addr) (n C : Nat) (xs : List UInt8) : Prop := w.ownsRow base 5 1 (.slice A n C) n (xs.map u8v)

section
variable {w w' : World} {base n C : Nat} {A : Option Addr} {xs : List UInt8}
theorem OwnU8.row (h : OwnU8 w base A n C xs) : Row w 1 A n C (xs.map u8v) := row_of_own h
theorem OwnU8.alloc (h : OwnU8 w base A n C xs) (o : Obj) : OwnU8 (w.alloc o) base A n C xs := World.ownsRow.alloc h o
theorem OwnU8.len (h : OwnU8 w base A n C xs) : xs.length = n := by have := h.1; simpa using this
theorem OwnU8.keep (h : OwnU8 w base A n C xs) {r : Option Nat} (hg : w.grownBy w' r) (hr : blk A = none ∨ blk A ≠ r) : OwnU8 w' base A n C xs := by
  refine World.ownsRow.kept h hg ?_
  cases A <;> exact hr
theorem OwnU8.below {B : Nat} (h : OwnU8 w base A n C xs) (hb : Below B w w') (hB : w.heap.size ≤ B) : OwnU8 w' base A n C xs := by
  refine World.ownsRow.kept h (row := none) ⟨hb.os, hb.tape, hb.output, hb.size, fun k hk _ => hb.block k (by omega)⟩ ?_
  cases A <;> simp [Value.ownBlock]
theorem OwnU8.base_le {b' : Nat} (h : OwnU8 w base A n C xs) (hb : b' ≤ base) : OwnU8 w b' A n C xs := by
  refine ⟨h.1, ?_⟩
  rcases h.2 with h2 | ⟨g, cap, cur, hv, hg, r⟩
  · exact .inl h2
  · exact .inr ⟨g, cap, cur, hv, by omega, r⟩
theorem OwnU8.blk_ge (h : OwnU8 w base A n C xs) : ∀ b, blk A = some b → base ≤ b ∧ b < w.heap.size := by
  intro b hb
  exact World.ownsRow.lt h b (by rw [← hb]; cases A <;> rfl)
end
/-- an owned slice that is not empty, opened for reading and writing -/
theorem OwnU8.open_ {w : World} {base n C : Nat} {A : Option Addr} {xs : List UInt8} (h : OwnU8 w base A n C xs) (hn : 0 < n) :
    ∃ g, A = some ⟨g, 0, none⟩ ∧ base ≤ g ∧ g < w.heap.size ∧ (∀ k (hk : k < xs.length), w.cell? ⟨g, k, none⟩ = some (.int .u8 ((xs[k]).toNat : Int))) ∧
      (∀ k, w.frozen? ⟨g, k, none⟩ = false) ∧ ∀ k (v : UInt8), OwnU8 (w.setCell ⟨g, k, none⟩ (.int .u8 (v.toNat : Int))) base A n C (xs.set k v) := by
  obtain ⟨g, cap, hv, hb, hlt⟩ := World.ownsRow.form h hn
  injection hv with h1 h2 h3
  subst h1 h3
  have hl := h.len
  refine ⟨g, rfl, hb, hlt, fun k hk => ?_, fun k => World.ownsRow.frozenAt h k, fun k v => ?_⟩
  · rw [World.ownsRow.cellAt h k (by omega)]
    exact u8_get hk
  · have := (World.ownsRow.stored h k (u8v v)).1
    unfold OwnU8
    rw [List.map_set]
    exact this
/-- blocks of other elements are none of its own -/
theorem OwnU8.ne_blk {w : World} {base n C : Nat} {A : Option Addr} {xs : List UInt8} (h : OwnU8 w base A n C xs) {k : Nat} {cs : Array Value} {t : TypeId} (hb : Blk w k cs t) (ht : t ≠ 5) : some k ≠ blk A := by
  intro e
  rcases h.2 with ⟨hv, _⟩ | ⟨g, cap, cur, hv, _, hg, _⟩
  · injection hv with h1
    rw [h1] at e
    cases e
  · injection hv with h1
    rw [h1] at e
    injection e with e
    subst e
    unfold Blk at hb
    rw [hg] at hb
    injection hb with hb
    injection hb with _ h2
    exact ht h2.symm
/-- own_ne_blk -/
theorem ownU8_nil (w : World) (base : Nat) : OwnU8 w base none 0 0 [] := World.ownsRow_nil w base _ 1

/-- what a function hands back that makes a slice of bytes of its own -/
def GivesU8 (w : World) (xs : List UInt8) (e : Ending) (w' : World) : Prop :=
  ∃ A n C, e = .returned (.slice A n C) ∧ OwnU8 w' w.heap.size A n C xs ∧ Below w.heap.size w w'

theorem ownU8_made (w : World) : OwnU8 (w.alloc (.cells #[] 5)) w.heap.size (some ⟨w.heap.size, 0, none⟩) 0 0 [] :=
  World.ownsRow_made w #[] 0 (Nat.le_refl _) (by simp [maxLen]) (by simp)

theorem wp_append_u8 (w : World) {o : Oper} {a : Act} {K : Act → World → Prop} {Q : Exit → Act → World → Prop} (s x : Operand)
    (ho : o.op = .call { callee := .builtin .append, args := #[s, x], argTypes := #[30, 30] })
    (base : Nat) (A : Option Addr) (n C : Nat) (xs : List UInt8) (hs : a.eval s = .slice A n C) (hown : OwnU8 w base A n C xs)
    (A' : Option Addr) (m c : Nat) (ys : List UInt8) (hx : a.eval x = .slice A' m c) (hr : Row w 1 A' m c (ys.map u8v))
    (hsmall : n + m ≤ 140737488355328) (hbase : base ≤ w.heap.size)
    (h : ∀ A2 C2 w', OwnU8 w' base A2 (n + m) C2 (xs ++ ys) → w.grownBy w' (blk A) → (blk A2 = blk A ∨ blk A2 = some w.heap.size) → K (a.put o.dst (.slice A2 (n + m) C2)) w') : o.wp Tryd.prog a w K Q := by
  obtain ⟨i, hi, hz, hsz, hby⟩ := info_parts info_u8
  refine wp_append_row w s x _ ho base _ i _ 1 1 Tryd.underlying30 hi hz hsz hby rfl (by decide) A n C _ hs hown A' m c _ hx hr ?_ (by unfold maxLen; omega) (by omega) hbase ?_
  · intro u hu
    obtain ⟨b, _, rfl⟩ := List.mem_map.1 hu
    rfl
  · intro A2 C2 w' h1 h2 h3 _
    refine h A2 C2 w' ?_ h2 h3
    unfold OwnU8
    rw [List.map_append]
    exact h1
theorem append_u8 (w : World) {ops : Array Oper} {rest : List Oper} {o : Oper} {a : Act} {Q : Exit → Act → World → Prop} (hgd : Region.wanted o (yielded ops a.tmps) = true) (s x : Operand)
    (ho : o.op = .call { callee := .builtin .append, args := #[s, x], argTypes := #[30, 30] })
    (base : Nat) (A : Option Addr) (n C : Nat) (xs : List UInt8) (hs : a.eval s = .slice A n C) (hown : OwnU8 w base A n C xs)
    (A' : Option Addr) (m c : Nat) (ys : List UInt8) (hx : a.eval x = .slice A' m c) (hr : Row w 1 A' m c (ys.map u8v))
    (hsmall : n + m ≤ 140737488355328) (hbase : base ≤ w.heap.size)
    (h : ∀ A2 C2 w', OwnU8 w' base A2 (n + m) C2 (xs ++ ys) → w.grownBy w' (blk A) → (blk A2 = blk A ∨ blk A2 = some w.heap.size) → wpList Tryd.prog ops Q rest (a.put o.dst (.slice A2 (n + m) C2)) w') :
    wpList Tryd.prog ops Q (o :: rest) a w := by
  refine wpList_step fun K hK => ?_
  rw [if_pos hgd]
  exact wp_append_u8 w s x ho base A n C xs hs hown A' m c ys hx hr hsmall hbase fun A2 C2 w' r1 r2 r3 => hK _ _ (h A2 C2 w' r1 r2 r3)
theorem step_append_u8 (w : World) {ops : Array Oper} {o : Oper} {a : Act} {K : Act → World → Prop} {Q : Exit → Act → World → Prop} {E : Prop} (hgd : Region.wanted o (yielded ops a.tmps) = true) (s x : Operand)
    (ho : o.op = .call { callee := .builtin .append, args := #[s, x], argTypes := #[30, 30] })
    (base : Nat) (A : Option Addr) (n C : Nat) (xs : List UInt8) (hs : a.eval s = .slice A n C) (hown : OwnU8 w base A n C xs)
    (A' : Option Addr) (m c : Nat) (ys : List UInt8) (hx : a.eval x = .slice A' m c) (hr : Row w 1 A' m c (ys.map u8v))
    (hsmall : n + m ≤ 140737488355328) (hbase : base ≤ w.heap.size)
    (h : ∀ A2 C2 w', OwnU8 w' base A2 (n + m) C2 (xs ++ ys) → w.grownBy w' (blk A) → (blk A2 = blk A ∨ blk A2 = some w.heap.size) → K (a.put o.dst (.slice A2 (n + m) C2)) w') :
    if Region.wanted o (yielded ops a.tmps) = true then Oper.wp Tryd.prog o a w K Q else E := by
  rw [if_pos hgd]
  exact wp_append_u8 w s x ho base A n C xs hs hown A' m c ys hx hr hsmall hbase h

/-- 'make([]byte, 0, n)' -/
theorem make_u8 (w : World) {ops : Array Oper} {rest : List Oper} {o : Oper} {a : Act} {Q : Exit → Act → World → Prop} (hg : o.guard = none) (l c : Operand)
    (hop : o.op = Op.makeSlice 30 l c) (kl kc : IntKind) (n : Nat) (hl : a.eval l = .int kl 0) (hc : a.eval c = .int kc (n : Int)) (hn : n ≤ 140737488355328)
    (h : ∀ w', OwnU8 w' w.heap.size (some ⟨w.heap.size, 0, none⟩) 0 n [] → w.grownBy w' none → wpList Tryd.prog ops Q rest (a.put o.dst (.slice (some ⟨w.heap.size, 0, none⟩) 0 n)) w') :
    wpList Tryd.prog ops Q (o :: rest) a w := by
  obtain ⟨i, hi, hz, hsz, hby⟩ := info_parts info_u8
  exact wpList_make_own w hg l c _ hop w.heap.size _ i _ 1 Tryd.underlying30 hi hz hsz kl kc n n hl hc rfl (by rw [hby]; omega) (by unfold maxLen; omega) (Nat.le_refl _) h

/-- 'make([]byte, n)' -/
theorem make_u8_full (w : World) {ops : Array Oper} {rest : List Oper} {o : Oper} {a : Act} {Q : Exit → Act → World → Prop} (hg : o.guard = none) (l c : Operand)
    (hop : o.op = Op.makeSlice 30 l c) (kl kc : IntKind) (L C : Int) (n : Nat) (hl : a.eval l = .int kl L) (hc : a.eval c = .int kc C) (hL : L = (n : Int)) (hC : C = (n : Int)) (hn : n ≤ 140737488355328)
    (h : ∀ w', OwnU8 w' w.heap.size (some ⟨w.heap.size, 0, none⟩) n n (List.replicate n 0) → w.grownBy w' none → wpList Tryd.prog ops Q rest (a.put o.dst (.slice (some ⟨w.heap.size, 0, none⟩) n n)) w') :
    wpList Tryd.prog ops Q (o :: rest) a w := by
  obtain ⟨i, hi, hz, hsz, hby⟩ := info_parts info_u8
  refine wpList_make_full w hg l c _ hop w.heap.size _ i _ 1 Tryd.underlying30 hi hz hsz kl kc L C n hl hc hL hC (by rw [hby]; omega) (by unfold maxLen; omega) (Nat.le_refl _) ?_
  intro w' h1 h2
  refine h w' ?_ h2
  unfold OwnU8
  have e : (List.replicate n (0 : UInt8)).map u8v = (madeCells (Value.int .u8 0).cells (n * 1)).toList := by
    apply List.ext_getElem
    · simp [size_madeCells]
    · intro k h1 h2
      simp [madeCells, u8v, Value.cells, Nat.mod_one]
  rw [e]
  exact h1
end Go.Proofs.YthjjneanabnjoaaDoor
