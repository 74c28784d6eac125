/-
  Mem  CrcPlain  Err  Number  SameBytes  Own.
-/
import Derived.Test.YtoagmehgiaamlaaDoorBase
import Derived.LaidEql
import Derived.WideLaws
namespace Go.Proofs.YtoagmehgiaamlaaDoor
open Go.ChangeShapes Go.WideShapes Go.ChangeAt Go.RowKit
set_option linter.unusedVariables false

theorem row_six (w : World) (a b c d e f : UInt8) (t : TypeId) : Row (w.alloc (.cells #[.int .u8 (a.toNat : Int), .int .u8 (b.toNat : Int), .int .u8 (c.toNat : Int), .int .u8 (d.toNat : Int), .int .u8 (e.toNat : Int), .int .u8 (f.toNat : Int)] t)) 1 (some ⟨w.heap.size, 0, none⟩) 6 6 ([a, b, c, d, e, f].map u8v) := by
  rcases row_new w #[.int .u8 (a.toNat : Int), .int .u8 (b.toNat : Int), .int .u8 (c.toNat : Int), .int .u8 (d.toNat : Int), .int .u8 (e.toNat : Int), .int .u8 (f.toNat : Int)] t with h | h
  · exact h
  · simp [maxLen] at h
theorem row_four (w : World) (a b c d : UInt8) (t : TypeId) : Row (w.alloc (.cells #[.int .u8 (a.toNat : Int), .int .u8 (b.toNat : Int), .int .u8 (c.toNat : Int), .int .u8 (d.toNat : Int)] t)) 1 (some ⟨w.heap.size, 0, none⟩) 4 4 ([a, b, c, d].map u8v) := by
  rcases row_new w #[.int .u8 (a.toNat : Int), .int .u8 (b.toNat : Int), .int .u8 (c.toNat : Int), .int .u8 (d.toNat : Int)] t with h | h
  · exact h
  · simp [maxLen] at h
theorem info_u8 : (Tryd.prog.info? 5).map (fun i => (i.zero, i.size, i.bytes)) = some (some (.int .u8 0), 1, 1) := by kernel_rfl

/-- a slice of bytes of the call's own -/
def OwnU8 (w : World) (base : Nat) (A : Option Addr) (n C : Nat) (xs : List UInt8) : Prop := w.ownsRow base 5 1 (.slice A n C) n (xs.map u8v)

section
variable {w w' : World} {base n C : Nat} {A : Option Addr} {xs : List UInt8}
theorem OwnU8.row (h : OwnU8 w base A n C xs) : Row w 1 A n C (xs.map u8v) := row_of_own h
theorem OwnU8.alloc (h : OwnU8 w base A n C xs) (o : Obj) : OwnU8 (w.alloc o) base A n C xs := World.ownsRow.alloc h o
theorem OwnU8.len (h : OwnU8 w base A n C xs) : xs.length = n := by have := h.1; simpa using this
theorem OwnU8.keep (h : OwnU8 w base A n C xs) {r : Option Nat} (hg : w.grownBy w' r) (hr : blk A = none ∨ blk A ≠ r) : OwnU8 w' base A n C xs := by
  refine World.ownsRow.kept h hg ?_
  cases A <;> exact hr
theorem OwnU8.below {B : Nat} (h : OwnU8 w base A n C xs) (hb : Below B w w') (hB : w.heap.size ≤ B) : OwnU8 w' base A n C xs := by
  refine World.ownsRow.kept h (row := none) ⟨hb.os, hb.tape, hb.output, hb.size, fun k hk _ => hb.block k (by omega)⟩ ?_
  cases A <;> simp [Value.ownBlock]
theorem OwnU8.base_le {b' : Nat} (h : OwnU8 w base A n C xs) (hb : b' ≤ base) : OwnU8 w b' A n C xs := by
  refine ⟨h.1, ?_⟩
  rcases h.2 with h2 | ⟨g, cap, cur, hv, hg, r⟩
  · exact .inl h2
  · exact .inr ⟨g, cap, cur, hv, by omega, r⟩
theorem OwnU8.blk_ge (h : OwnU8 w base A n C xs) : ∀ b, blk A = some b → base ≤ b ∧ b < w.heap.size := by
  intro b hb
  exact World.ownsRow.lt h b (by rw [← hb]; cases A <;> rfl)
end
/-- an owned slice that is not empty, opened for reading and writing -/
theorem OwnU8.open_ {w : World} {base n C : Nat} {A : Option Addr} {xs : List UInt8} (h : OwnU8 w base A n C xs) (hn : 0 < n) :
    ∃ g, A = some ⟨g, 0, none⟩ ∧ base ≤ g ∧ g < w.heap.size ∧ (∀ k (hk : k < xs.length), w.cell? ⟨g, k, none⟩ = some (.int .u8 ((xs[k]).toNat : Int))) ∧
      (∀ k, w.frozen? ⟨g, k, none⟩ = false) ∧ ∀ k (v : UInt8), OwnU8 (w.setCell ⟨g, k, none⟩ (.int .u8 (v.toNat : Int))) base A n C (xs.set k v) := by
  obtain ⟨g, cap, hv, hb, hlt⟩ := World.ownsRow.form h hn
  injection hv with h1 h2 h3
  subst h1 h3
  have hl := h.len
  refine ⟨g, rfl, hb, hlt, fun k hk => ?_, fun k => World.ownsRow.frozenAt h k, fun k v => ?_⟩
  · rw [World.ownsRow.cellAt h k (by omega)]
    exact u8_get hk
  · have := (World.ownsRow.stored h k (u8v v)).1
    unfold OwnU8
    rw [List.map_set]
    exact this
/-- blocks of other elements are none of its own -/
theorem OwnU8.ne_blk {w : World} {base n C : Nat} {A : Option Addr} {xs : List UInt8} (h : OwnU8 w base A n C xs) {k : Nat} {cs : Array Value} {t : TypeId} (hb : Blk w k cs t) (ht : t ≠ 5) : some k ≠ blk A := by
  intro e
  rcases h.2 with ⟨hv, _⟩ | ⟨g, cap, cur, hv, _, hg, _⟩
  · injection hv with h1
    rw [h1] at e
    cases e
  · injection hv with h1
    rw [h1] at e
    injection e with e
    subst e
    unfold Blk at hb
    rw [hg] at hb
    injection hb with hb
    injection hb with _ h2
    exact ht h2.symm
/-- own_ne_blk -/
theorem ownU8_nil (w : World) (base : Nat) : OwnU8 w base none 0 0 [] := World.ownsRow_nil w base _ 1

/-- what a function hands back that makes a slice of bytes of its own -/
def GivesU8 (w : World) (xs : List UInt8) (e : Ending) (w' : World) : Prop :=
  ∃ A n C, e = .returned (.slice A n C) ∧ OwnU8 w' w.heap.size A n C xs ∧ Below w.heap.size w w'

theorem ownU8_made (w : World) : OwnU8 (w.alloc (.cells #[] 5)) w.heap.size (some ⟨w.heap.size, 0, none⟩) 0 0 [] :=
  World.ownsRow_made w #[] 0 (Nat.le_refl _) (by simp [maxLen]) (by simp)

theorem wp_append_u8 (w : World) {o : Oper} {a : Act} {K : Act → World → Prop} {Q : Exit → Act → World → Prop} (s x : Operand)
    (ho : o.op = .call { callee := .builtin .append, args := #[s, x], argTypes := #[22, 22] })
    (base : Nat) (A : Option Addr) (n C : Nat) (xs : List UInt8) (hs : a.eval s = .slice A n C) (hown : OwnU8 w base A n C xs)
    (A' : Option Addr) (m c : Nat) (ys : List UInt8) (hx : a.eval x = .slice A' m c) (hr : Row w 1 A' m c (ys.map u8v))
    (hsmall : n + m ≤ 140737488355328) (hbase : base ≤ w.heap.size)
    (h : ∀ A2 C2 w', OwnU8 w' base A2 (n + m) C2 (xs ++ ys) → w.grownBy w' (blk A) → (blk A2 = blk A ∨ blk A2 = some w.heap.size) → K (a.put o.dst (.slice A2 (n + m) C2)) w') : o.wp Tryd.prog a w K Q := by
  obtain ⟨i, hi, hz, hsz, hby⟩ := info_parts info_u8
  refine wp_append_row w s x _ ho base _ i _ 1 1 Tryd.underlying22 hi hz hsz hby rfl (by decide) A n C _ hs hown A' m c _ hx hr ?_ (by unfold maxLen; omega) (by omega) hbase ?_
  · intro u hu
    obtain ⟨b, _, rfl⟩ := List.mem_map.1 hu
    rfl
  · intro A2 C2 w' h1 h2 h3 _
    refine h A2 C2 w' ?_ h2 h3
    unfold OwnU8
    rw [List.map_append]
    exact h1
theorem append_u8 (w : World) {ops : Array Oper} {rest : List Oper} {o : Oper} {a : Act} {Q : Exit → Act → World → Prop} (hgd : Region.wanted o (yielded ops a.tmps) = true) (s x : Operand)
    (ho : o.op = .call { callee := .builtin .append, args := #[s, x], argTypes := #[22, 22] })
    (base : Nat) (A : Option Addr) (n C : Nat) (xs : List UInt8) (hs : a.eval s = .slice A n C) (hown : OwnU8 w base A n C xs)
    (A' : Option Addr) (m c : Nat) (ys : List UInt8) (hx : a.eval x = .slice A' m c) (hr : Row w 1 A' m c (ys.map u8v))
    (hsmall : n + m ≤ 140737488355328) (hbase : base ≤ w.heap.size)
    (h : ∀ A2 C2 w', OwnU8 w' base A2 (n + m) C2 (xs ++ ys) → w.grownBy w' (blk A) → (blk A2 = blk A ∨ blk A2 = some w.heap.size) → wpList Tryd.prog ops Q rest (a.put o.dst (.slice A2 (n + m) C2)) w') :
    wpList Tryd.prog ops Q (o :: rest) a w := by
  refine wpList_step fun K hK => ?_
  rw [if_pos hgd]
  exact wp_append_u8 w s x ho base A n C xs hs hown A' m c ys hx hr hsmall hbase fun A2 C2 w' r1 r2 r3 => hK _ _ (h A2 C2 w' r1 r2 r3)
theorem step_append_u8 (w : World) {ops : Array Oper} {o : Oper} {a : Act} {K : Act → World → Prop} {Q : Exit → Act → World → Prop} {E : Prop} (hgd : Region.wanted o (yielded ops a.tmps) = true) (s x : Operand)
    (ho : o.op = .call { callee := .builtin .append, args := #[s, x], argTypes := #[22, 22] })
    (base : Nat) (A : Option Addr) (n C : Nat) (xs : List UInt8) (hs : a.eval s = .slice A n C) (hown : OwnU8 w base A n C xs)
    (A' : Option Addr) (m c : Nat) (ys : List UInt8) (hx : a.eval x = .slice A' m c) (hr : Row w 1 A' m c (ys.map u8v))
    (hsmall : n + m ≤ 140737488355328) (hbase : base ≤ w.heap.size)
    (h : ∀ A2 C2 w', OwnU8 w' base A2 (n + m) C2 (xs ++ ys) → w.grownBy w' (blk A) → (blk A2 = blk A ∨ blk A2 = some w.heap.size) → K (a.put o.dst (.slice A2 (n + m) C2)) w') :
    if Region.wanted o (yielded ops a.tmps) = true then Oper.wp Tryd.prog o a w K Q else E := by
  rw [if_pos hgd]
  exact wp_append_u8 w s x ho base A n C xs hs hown A' m c ys hx hr hsmall hbase h

/-- 'make([]byte, 0, n)' -/
theorem make_u8 (w : World) {ops : Array Oper} {rest : List Oper} {o : Oper} {a : Act} {Q : Exit → Act → World → Prop} (hg : o.guard = none) (l c : Operand)
    (hop : o.op = Op.makeSlice 22 l c) (kl kc : IntKind) (n : Nat) (hl : a.eval l = .int kl 0) (hc : a.eval c = .int kc (n : Int)) (hn : n ≤ 140737488355328)
    (h : ∀ w', OwnU8 w' w.heap.size (some ⟨w.heap.size, 0, none⟩) 0 n [] → w.grownBy w' none → wpList Tryd.prog ops Q rest (a.put o.dst (.slice (some ⟨w.heap.size, 0, none⟩) 0 n)) w') :
    wpList Tryd.prog ops Q (o :: rest) a w := by
  obtain ⟨i, hi, hz, hsz, hby⟩ := info_parts info_u8
  exact wpList_make_own w hg l c _ hop w.heap.size _ i _ 1 Tryd.underlying22 hi hz hsz kl kc n n hl hc rfl (by rw [hby]; omega) (by unfold maxLen; omega) (Nat.le_refl _) h

/-- 'make([]byte, n)' -/
theorem make_u8_full (w : World) {ops : Array Oper} {rest : List Oper} {o : Oper} {a : Act} {Q : Exit → Act → World → Prop} (hg : o.guard = none) (l c : Operand)
    (hop : o.op = Op.makeSlice 22 l c) (kl kc : IntKind) (L C : Int) (n : Nat) (hl : a.eval l = .int kl L) (hc : a.eval c = .int kc C) (hL : L = (n : Int)) (hC : C = (n : Int)) (hn : n ≤ 140737488355328)
    (h : ∀ w', OwnU8 w' w.heap.size (some ⟨w.heap.size, 0, none⟩) n n (List.replicate n 0) → w.grownBy w' none → wpList Tryd.prog ops Q rest (a.put o.dst (.slice (some ⟨w.heap.size, 0, none⟩) n n)) w') :
    wpList Tryd.prog ops Q (o :: rest) a w := by
  obtain ⟨i, hi, hz, hsz, hby⟩ := info_parts info_u8
  refine wpList_make_full w hg l c _ hop w.heap.size _ i _ 1 Tryd.underlying22 hi hz hsz kl kc L C n hl hc hL hC (by rw [hby]; omega) (by unfold maxLen; omega) (Nat.le_refl _) ?_
  intro w' h1 h2
  refine h w' ?_ h2
  unfold OwnU8
  have e : (List.replicate n (0 : UInt8)).map u8v = (madeCells (Value.int .u8 0).cells (n * 1)).toList := by
    apply List.ext_getElem
    · simp [size_madeCells]
    · intro k h1 h2
      simp [madeCells, u8v, Value.cells, Nat.mod_one]
  rw [e]
  exact h1
end Go.Proofs.YtoagmehgiaamlaaDoor

namespace Go.Proofs.YtoagmehgiaamlaaDoor.Crc
open Go.RowKit
set_option linter.unusedVariables false

def bit (r : BitVec 8) (b : Bool) : BitVec 8 := (r <<< 1) ^^^ (bif (r.msb ^^ b) then 7#8 else 0#8)
def bitsOf (x : BitVec 8) : List Bool := [x.getLsbD 0, x.getLsbD 1, x.getLsbD 2, x.getLsbD 3, x.getLsbD 4, x.getLsbD 5, x.getLsbD 6, x.getLsbD 7]
def byte (r x : BitVec 8) : BitVec 8 := (bitsOf x).foldl bit r
def run (r : BitVec 8) (xs : List UInt8) : BitVec 8 := xs.foldl (fun r x => byte r x.toBitVec) r
def rev (x : BitVec 8) : BitVec 8 := x.reverse
def sum (xs : List UInt8) : UInt8 := ⟨rev (~~~ run 255#8 xs)⟩

theorem bit_xor (r s : BitVec 8) (b c : Bool) : bit (r ^^^ s) (b ^^ c) = bit r b ^^^ bit s c := by
  unfold bit
  rw [BitVec.msb_xor, BitVec.shiftLeft_xor_distrib]
  have e : ((r.msb ^^ s.msb) ^^ (b ^^ c)) = ((r.msb ^^ b) ^^ (s.msb ^^ c)) := by cases r.msb <;> cases s.msb <;> cases b <;> cases c <;> rfl
  rw [e]
  generalize (r.msb ^^ b) = p
  generalize (s.msb ^^ c) = q
  cases p <;> cases q
  · simp
  · simp [BitVec.xor_assoc]
  · simp only [Bool.xor_false, cond_true, cond_false, BitVec.xor_zero]; rw [BitVec.xor_assoc, BitVec.xor_comm (s <<< 1), ← BitVec.xor_assoc]
  · simp only [Bool.xor_self, cond_true, cond_false, BitVec.xor_zero]
    rw [BitVec.xor_assoc, BitVec.xor_comm 7#8, BitVec.xor_assoc (s <<< 1), BitVec.xor_self, BitVec.xor_zero]

theorem foldl_bit_xor (l m : List Bool) (h : l.length = m.length) : ∀ r s : BitVec 8, (List.zipWith (· ^^ ·) l m).foldl bit (r ^^^ s) = l.foldl bit r ^^^ m.foldl bit s := by
  induction l generalizing m with
  | nil => intro r s; cases m with | nil => rfl | cons _ _ => simp at h
  | cons b l ih =>
    intro r s
    cases m with
    | nil => simp at h
    | cons c m =>
      simp only [List.zipWith_cons_cons, List.foldl_cons]
      rw [bit_xor]
      exact ih m (by simpa using h) _ _

theorem byte_xor (r s x y : BitVec 8) : byte (r ^^^ s) (x ^^^ y) = byte r x ^^^ byte s y := by
  have h := foldl_bit_xor (bitsOf x) (bitsOf y) rfl r s
  rw [← show bitsOf (x ^^^ y) = List.zipWith (· ^^ ·) (bitsOf x) (bitsOf y) by simp [bitsOf]] at h
  exact h

theorem run_xor : ∀ (xs ys : List UInt8) (h : xs.length = ys.length) (r s : BitVec 8), run (r ^^^ s) (List.zipWith (· ^^^ ·) xs ys) = run r xs ^^^ run s ys := by
  intro xs
  induction xs with
  | nil => intro ys h r s; cases ys with | nil => rfl | cons _ _ => simp at h
  | cons x xs ih =>
    intro ys h r s
    cases ys with
    | nil => simp at h
    | cons y ys =>
      simp only [run, List.zipWith_cons_cons, List.foldl_cons] at *
      rw [UInt8.toBitVec_xor, byte_xor]
      exact ih ys (by simpa using h) _ _

theorem run_append (r : BitVec 8) (xs ys : List UInt8) : run r (xs ++ ys) = run (run r xs) ys := by simp [run]

/-! ### the walk's own forms -/
theorem msb_div (r : BitVec 8) : r.toNat / 128 = r.msb.toNat := by
  rw [BitVec.msb_eq_decide]
  have := r.isLt
  by_cases h : 128 ≤ r.toNat
  · simp [h]; omega
  · simp [h]; omega

theorem is_go (r : BitVec 8) (m : Nat) (hm : m < 256) :
    (bits .xor .u8 ((r.toNat : Int) / 128) (bits .and .u8 (m : Int) 1) == 1) = (r.msb ^^ decide (m % 2 = 1)) := by
  have e1 : bits .and .u8 (m : Int) 1 = ((m % 2 : Nat) : Int) := by
    have := u8_and_nat m 1 hm (by decide)
    rw [show ((1 : Nat) : Int) = 1 from rfl] at this
    rw [this, Nat.and_one_is_mod]
  have e2 : ((r.toNat : Int) / 128) = ((r.msb.toNat : Nat) : Int) := by rw [← msb_div]; omega
  rw [e1, e2, u8_xor_nat _ _ (by cases r.msb <;> decide) (by omega)]
  rcases Nat.mod_two_eq_zero_or_one m with h | h <;> rw [h] <;> cases r.msb <;> rfl

theorem shl_go (r : BitVec 8) : ((r.toNat : Int) * (2 : Int) % (256 : Int)) = ((r <<< 1).toNat : Int) := by
  rw [BitVec.toNat_shiftLeft, Nat.shiftLeft_eq]; simp

theorem yes_go (r : BitVec 8) (b : Bool) (h : (r.msb ^^ b) = true) : bits .xor .u8 ((r.toNat : Int) * 2 % 256) 7 = ((bit r b).toNat : Int) := by
  rw [shl_go]
  have := u8_xor_nat (r <<< 1).toNat 7 (r <<< 1).isLt (by decide)
  rw [show ((7 : Nat) : Int) = 7 from rfl] at this
  rw [this]
  simp [bit, h, BitVec.toNat_xor]
theorem no_go (r : BitVec 8) (b : Bool) (h : (r.msb ^^ b) = false) : ((r.toNat : Int) * (2 : Int) % (256 : Int)) = ((bit r b).toNat : Int) := by
  rw [shl_go]
  simp [bit, h]

theorem not_go (r : BitVec 8) : bits .xor .u8 IntKind.u8.max (r.toNat : Int) = ((~~~r).toNat : Int) := by
  have := u8_xor_nat 255 r.toNat (by decide) r.isLt
  rw [show ((255 : Nat) : Int) = IntKind.u8.max from rfl] at this
  rw [this, ← BitVec.allOnes_xor, BitVec.toNat_xor]; rfl

theorem i64_bits (a b : Nat) (ha : a < 9223372036854775808) (hb : b < 9223372036854775808) :
    bits .and .i64 (a : Int) (b : Int) = ((a &&& b : Nat) : Int) ∧ bits .or .i64 (a : Int) (b : Int) = ((a ||| b : Nat) : Int) ∧ bits .xor .i64 (a : Int) (b : Int) = ((a ^^^ b : Nat) : Int) := by
  have ea : BitVec.ofInt 64 (a : Int) = BitVec.ofNat 64 a := by rw [BitVec.ofInt_natCast]
  have eb : BitVec.ofInt 64 (b : Int) = BitVec.ofNat 64 b := by rw [BitVec.ofInt_natCast]
  have ta : (BitVec.ofNat 64 a).toNat = a := by rw [BitVec.toNat_ofNat]; omega
  have tb : (BitVec.ofNat 64 b).toNat = b := by rw [BitVec.toNat_ofNat]; omega
  have h1 : a &&& b < 2 ^ 63 := Nat.and_lt_two_pow _ (by omega)
  have h2 : a ||| b < 2 ^ 63 := Nat.or_lt_two_pow (by omega) (by omega)
  have h3 : a ^^^ b < 2 ^ 63 := Nat.xor_lt_two_pow (by omega) (by omega)
  refine ⟨?_, ?_, ?_⟩
  · show IntKind.i64.wrap ((BitVec.ofInt 64 (a : Int) &&& BitVec.ofInt 64 (b : Int)).toNat : Int) = _
    rw [ea, eb, BitVec.toNat_and, ta, tb]; exact IntWalk.i64_in _ (by omega)
  · show IntKind.i64.wrap ((BitVec.ofInt 64 (a : Int) ||| BitVec.ofInt 64 (b : Int)).toNat : Int) = _
    rw [ea, eb, BitVec.toNat_or, ta, tb]; exact IntWalk.i64_in _ (by omega)
  · show IntKind.i64.wrap ((BitVec.ofInt 64 (a : Int) ^^^ BitVec.ofInt 64 (b : Int)).toNat : Int) = _
    rw [ea, eb, BitVec.toNat_xor, ta, tb]; exact IntWalk.i64_in _ (by omega)
theorem i64_one (a : Nat) (ha : a < 9223372036854775808) : bits .and .i64 (a : Int) 1 = ((a % 2 : Nat) : Int) := by
  have := (i64_bits a 1 ha (by decide)).1
  rw [show ((1 : Nat) : Int) = 1 from rfl] at this
  rw [this, Nat.and_one_is_mod]
theorem is64_go (r x : BitVec 8) (j : Nat) :
    (bits .xor .i64 (bits .and .i64 ((r.toNat : Int) / 128) 1) (bits .and .i64 ((x.toNat : Int) / 2 ^ j) 1) == 1) = (r.msb ^^ decide (x.toNat / 2 ^ j % 2 = 1)) := by
  have hx : x.toNat / 2 ^ j < 256 := Nat.lt_of_le_of_lt (Nat.div_le_self _ _) x.isLt
  have e2 : ((r.toNat : Int) / 128) = ((r.msb.toNat : Nat) : Int) := by rw [← msb_div]; omega
  have e3 : ((x.toNat : Int) / 2 ^ j) = ((x.toNat / 2 ^ j : Nat) : Int) := by simp
  have hm : r.msb.toNat < 256 := by cases r.msb <;> decide
  rw [e2, e3, i64_one _ (by omega), i64_one _ (by omega), (i64_bits _ _ (by omega) (by omega)).2.2]
  generalize x.toNat / 2 ^ j = m
  rcases Nat.mod_two_eq_zero_or_one m with h | h <;> rw [h] <;> cases r.msb <;> rfl
theorem shl64_go (r : BitVec 8) : bits .and .i64 ((r.toNat : Int) * (2 : Int)) 255 = ((r <<< 1).toNat : Int) := by
  have hr := r.isLt
  have := (i64_bits (r.toNat * 2) 255 (by omega) (by decide)).1
  rw [show ((255 : Nat) : Int) = 255 from rfl, show ((r.toNat * 2 : Nat) : Int) = (r.toNat : Int) * 2 by omega] at this
  rw [this, show (255 : Nat) = 2 ^ 8 - 1 from rfl, Nat.and_two_pow_sub_one_eq_mod, BitVec.toNat_shiftLeft, Nat.shiftLeft_eq]
theorem yes64_go (r : BitVec 8) (b : Bool) (h : (r.msb ^^ b) = true) : bits .xor .i64 (bits .and .i64 ((r.toNat : Int) * (2 : Int)) 255) 7 = ((bit r b).toNat : Int) := by
  rw [shl64_go]
  have := (i64_bits (r <<< 1).toNat 7 (by have := (r <<< 1).isLt; omega) (by decide)).2.2
  rw [show ((7 : Nat) : Int) = 7 from rfl] at this
  rw [this]
  simp [bit, h, BitVec.toNat_xor]
theorem no64_go (r : BitVec 8) (b : Bool) (h : (r.msb ^^ b) = false) : bits .and .i64 ((r.toNat : Int) * (2 : Int)) 255 = ((bit r b).toNat : Int) := by
  rw [shl64_go]
  simp [bit, h]

/-- the mirrored register behind k bits -/
def mirror (r : BitVec 8) : Nat → Nat
  | 0 => 0
  | k + 1 => if r.toNat / 2 ^ k % 2 = 0 then mirror r k ||| (128 / 2 ^ k) else mirror r k
theorem mirror_all : ∀ r : BitVec 8, mirror r 8 = (rev (~~~r)).toNat := by decide +kernel
theorem mirror_lt (r : BitVec 8) (k : Nat) : mirror r k < 256 := by
  induction k with
  | zero => exact (by decide : 0 < 256)
  | succ k ih =>
    unfold mirror
    split
    · exact Nat.or_lt_two_pow (n := 8) ih (Nat.lt_of_le_of_lt (Nat.div_le_self _ _) (by decide))
    · exact ih
theorem mirror_test (r : BitVec 8) (k : Nat) : (bits .and .i64 ((r.toNat : Int) / 2 ^ k) 1 == 0) = decide (r.toNat / 2 ^ k % 2 = 0) := by
  have hx : r.toNat / 2 ^ k < 256 := Nat.lt_of_le_of_lt (Nat.div_le_self _ _) r.isLt
  have e3 : ((r.toNat : Int) / 2 ^ k) = ((r.toNat / 2 ^ k : Nat) : Int) := by simp
  rw [e3, i64_one _ (by omega)]
  generalize r.toNat / 2 ^ k = m
  rcases Nat.mod_two_eq_zero_or_one m with h | h <;> rw [h] <;> rfl
theorem mirror_or (r : BitVec 8) (k : Nat) : bits .or .i64 (mirror r k : Int) ((128 : Int) / 2 ^ k) = ((mirror r k ||| (128 / 2 ^ k) : Nat) : Int) := by
  have e : (128 : Int) / 2 ^ k = ((128 / 2 ^ k : Nat) : Int) := by simp
  have hx : 128 / 2 ^ k ≤ 128 := Nat.div_le_self _ _
  have hm := mirror_lt r k
  rw [e, (i64_bits _ _ (by omega) (by omega)).2.1]

/-- the register behind j bits of a byte -/
def part (r x : BitVec 8) (j : Nat) : BitVec 8 := ((bitsOf x).take j).foldl bit r
theorem part_zero (r x : BitVec 8) : part r x 0 = r := rfl
theorem part_eight (r x : BitVec 8) : part r x 8 = byte r x := rfl
theorem bitsOf_get (x : BitVec 8) (j : Nat) (h : j < 8) : (bitsOf x)[j]? = some (decide (x.toNat / 2 ^ j % 2 = 1)) := by
  have e : ∀ i : Nat, x.getLsbD i = decide (x.toNat / 2 ^ i % 2 = 1) := fun i => by
    rw [BitVec.getLsbD, Nat.testBit_eq_decide_div_mod_eq]
  match j, h with
  | 0, _ | 1, _ | 2, _ | 3, _ | 4, _ | 5, _ | 6, _ | 7, _ => simp only [bitsOf, List.getElem?_cons_succ, List.getElem?_cons_zero, e]
theorem part_succ (r x : BitVec 8) (j : Nat) (h : j < 8) : part r x (j + 1) = bit (part r x j) (decide (x.toNat / 2 ^ j % 2 = 1)) := by
  unfold part
  rw [List.take_add_one, bitsOf_get x j h]
  simp
theorem half (x j : Nat) : ((x / 2 ^ j : Nat) : Int) / 2 = ((x / 2 ^ (j + 1) : Nat) : Int) := by
  rw [Nat.pow_succ, ← Nat.div_div_eq_div_mul]; simp

theorem run_snoc (r : BitVec 8) (xs : List UInt8) (k : Nat) (h : k < xs.length) : run r (xs.take (k + 1)) = byte (run r (xs.take k)) (xs[k]).toBitVec := by
  rw [List.take_succ_eq_append_getElem h, run_append]; rfl

/-! ### what follows of the linearity -/
theorem rev_xor (x y : BitVec 8) : rev (x ^^^ y) = rev x ^^^ rev y := by
  unfold rev
  apply BitVec.eq_of_getLsbD_eq
  intro i hi
  simp [BitVec.getLsbD_reverse, BitVec.getMsbD_xor]

theorem rev_zero {x : BitVec 8} (h : rev x = 0#8) : x = 0#8 := by
  have : rev (rev x) = rev 0#8 := by rw [h]
  have e0 : rev 0#8 = 0#8 := by decide
  rw [e0] at this
  simpa [rev, BitVec.reverse_reverse_eq] using this

def zeros (n : Nat) : List UInt8 := List.replicate n 0
theorem byte_zz : byte 0#8 0#8 = 0#8 := by decide
theorem run_zz (n : Nat) : run 0#8 (zeros n) = 0#8 := by
  induction n with
  | zero => rfl
  | succ n ih => simp only [zeros, List.replicate_succ, run, List.foldl_cons] at *; exact ih
theorem byte_z_inj : ∀ r : BitVec 8, byte r 0#8 = 0#8 → r = 0#8 := by decide +kernel
theorem byte_0_inj : ∀ x : BitVec 8, byte 0#8 x = 0#8 → x = 0#8 := by decide +kernel
theorem run_z_inj (n : Nat) : ∀ r : BitVec 8, run r (zeros n) = 0#8 → r = 0#8 := by
  induction n with
  | zero => intro r h; exact h
  | succ n ih =>
    intro r h
    simp only [zeros, List.replicate_succ, run, List.foldl_cons] at *
    exact byte_z_inj r (ih _ h)

/-- zeros but for one byte -/
def unit (n k : Nat) (x : UInt8) : List UInt8 := (zeros n).set k x
theorem unit_length (n k : Nat) (x : UInt8) : (unit n k x).length = n := by simp [unit, zeros]
theorem run_unit (n k : Nat) (x : UInt8) (h : k < n) : run 0#8 (unit n k x) = run (byte 0#8 x.toBitVec) (zeros (n - 1 - k)) := by
  have e : unit n k x = zeros k ++ (x :: zeros (n - 1 - k)) := by
    unfold unit zeros
    rw [List.set_eq_take_append_cons_drop, if_pos (by simpa using h)]
    simp only [List.take_replicate, List.drop_replicate]
    rw [Nat.min_eq_left (by omega), show n - (k + 1) = n - 1 - k by omega]
  rw [e, run_append, run_zz]
  rfl

theorem xor_unit (xs : List UInt8) (k : Nat) (x : UInt8) (h : k < xs.length) : List.zipWith (· ^^^ ·) xs (unit xs.length k x) = xs.set k (xs[k] ^^^ x) := by
  apply List.ext_getElem
  · simp [unit, zeros]
  · intro i h1 h2
    simp only [List.getElem_zipWith, unit, zeros, List.getElem_set, List.getElem_replicate]
    split
    · subst_vars; rfl
    · simp

/-- SUMS OF LISTS THAT DIFFER -/
theorem sum_xor (xs es : List UInt8) (h : xs.length = es.length) : sum (List.zipWith (· ^^^ ·) xs es) = sum xs ^^^ ⟨rev (run 0#8 es)⟩ := by
  unfold sum
  have := run_xor xs es h 255#8 0#8
  rw [BitVec.xor_zero] at this
  rw [this]
  apply UInt8.toBitVec_inj.1
  rw [UInt8.toBitVec_xor]
  show rev (~~~(run 255#8 xs ^^^ run 0#8 es)) = rev (~~~run 255#8 xs) ^^^ rev (run 0#8 es)
  rw [← rev_xor]
  congr 1
  apply BitVec.eq_of_getLsbD_eq
  intro i hi
  simp only [BitVec.getLsbD_not, BitVec.getLsbD_xor, hi, decide_true, Bool.true_and]
  cases (run 255#8 xs).getLsbD i <;> cases (run 0#8 es).getLsbD i <;> rfl

/-- ONE BYTE TURNED: the sum is another, if the byte is. -/
theorem own_law (xs : List UInt8) (k : Nat) (x : UInt8) (h : k < xs.length) : (sum xs == sum (xs.set k (xs[k] ^^^ x))) = (x == 0) := by
  rw [← xor_unit xs k x h, sum_xor _ _ (by rw [unit_length]), run_unit _ _ _ h]
  rw [Bool.eq_iff_iff]
  simp only [beq_iff_eq]
  constructor
  · intro e
    have e1 : (⟨rev (run (byte 0#8 x.toBitVec) (zeros (xs.length - 1 - k)))⟩ : UInt8) = 0 := by
      have : sum xs ^^^ sum xs = sum xs ^^^ (sum xs ^^^ ⟨rev (run (byte 0#8 x.toBitVec) (zeros (xs.length - 1 - k)))⟩) := by rw [← e]
      rwa [UInt8.xor_self, ← UInt8.xor_assoc, UInt8.xor_self, UInt8.zero_xor, eq_comm] at this
    have e2 := rev_zero (congrArg UInt8.toBitVec e1)
    have e3 := byte_0_inj _ (run_z_inj _ _ e2)
    exact UInt8.toBitVec_inj.1 e3
  · rintro rfl
    have : byte 0#8 (0 : UInt8).toBitVec = 0#8 := by decide
    rw [this, run_zz]
    show sum xs = sum xs ^^^ 0
    rw [UInt8.xor_zero]

/-- FOUR LISTS -/
def xor3 (a b c : List UInt8) : List UInt8 := List.zipWith (· ^^^ ·) a (List.zipWith (· ^^^ ·) b c)
theorem linear_law (a b c : List UInt8) (h1 : a.length = b.length) (h2 : a.length = c.length) : sum a ^^^ sum b ^^^ sum c ^^^ sum (xor3 a b c) = 0 := by
  have l0 : (List.zipWith (· ^^^ ·) b c).length = b.length := by simp; omega
  have e1 : sum (xor3 a b c) = sum a ^^^ ⟨rev (run 0#8 (List.zipWith (· ^^^ ·) b c))⟩ := sum_xor _ _ (by omega)
  have e2 : run 0#8 (List.zipWith (· ^^^ ·) b c) = run 255#8 b ^^^ run 255#8 c := by
    have := run_xor b c (by omega) 255#8 255#8
    rwa [BitVec.xor_self] at this
  have e3 : (⟨rev (run 255#8 b ^^^ run 255#8 c)⟩ : UInt8) = sum b ^^^ sum c := by
    apply UInt8.toBitVec_inj.1
    rw [UInt8.toBitVec_xor]
    show rev _ = rev (~~~run 255#8 b) ^^^ rev (~~~run 255#8 c)
    rw [← rev_xor]
    congr 1
    apply BitVec.eq_of_getLsbD_eq
    intro i hi
    simp only [BitVec.getLsbD_not, BitVec.getLsbD_xor, hi, decide_true, Bool.true_and]
    cases (run 255#8 b).getLsbD i <;> cases (run 255#8 c).getLsbD i <;> rfl
  rw [e1, e2, e3]
  generalize sum a = x
  generalize sum b = y
  generalize sum c = z
  rw [UInt8.xor_assoc x y z, UInt8.xor_assoc x, ← UInt8.xor_assoc (y ^^^ z) x, UInt8.xor_comm (y ^^^ z) x, UInt8.xor_assoc x (y ^^^ z), UInt8.xor_self, UInt8.xor_zero, UInt8.xor_self]

/-- does the last byte fit those ahead? -/
def fits (xs : List UInt8) : Bool := decide (0 < xs.length) && (xs.getLastD 0 == sum xs.dropLast)
def sealed (xs : List UInt8) : List UInt8 := xs ++ [sum xs]

/-- the mark that an error leaves: that of one bit, d bytes ahead of the last -/
def mark (d m : Nat) : BitVec 8 := match d with
  | 0 => 1#8 <<< m
  | d + 1 => rev (run (byte 0#8 (1#8 <<< m)) (zeros d))
def marks : List Nat := [1, 2, 4, 8, 16, 32, 64, 128, 145, 227, 7, 14, 28, 56, 112, 224, 109, 218, 117, 234, 21, 42, 84, 168, 208, 97, 194, 69, 138, 213, 107, 214, 140, 217, 115, 230, 13, 26, 52, 104, 233, 19, 38, 76, 152, 241, 35, 70, 55, 110, 220, 121, 242, 37, 74, 148, 81, 162, 133, 203, 87, 174, 157, 251, 253, 59, 118, 236, 25, 50, 100, 200, 44, 88, 176, 161, 131, 199, 79, 158, 49, 98, 196, 73, 146, 229, 11, 22, 181, 171, 151, 239, 31, 62, 124, 248, 82, 164, 137, 211, 103, 206, 93, 186, 143, 223, 127, 254, 61, 122, 244, 41, 155, 247, 47, 94, 188, 185, 179, 167]
theorem marks_eq : ((List.range 120).map fun p => (mark (p / 8) (p % 8)).toNat) = marks := by decide +kernel
theorem marks_nodup : marks.Nodup := by decide +kernel
theorem marks_pos : 0 ∉ marks := by decide +kernel
theorem mark_get (d m : Nat) (hd : d < 15) (hm : m < 8) : marks[8 * d + m]? = some (mark d m).toNat := by
  rw [← marks_eq]
  rw [List.getElem?_map, List.getElem?_range (by omega)]
  simp only [Option.map_some]
  rw [show (8 * d + m) / 8 = d by omega, show (8 * d + m) % 8 = m by omega]
theorem mark_inj (d m d' m' : Nat) (hd : d < 15) (hm : m < 8) (hd' : d' < 15) (hm' : m' < 8) (h : mark d m = mark d' m') : d = d' ∧ m = m' := by
  have h1 := mark_get d m hd hm
  have h2 := mark_get d' m' hd' hm'
  rw [h] at h1
  obtain ⟨l1, g1⟩ := List.getElem?_eq_some_iff.1 h1
  obtain ⟨l2, g2⟩ := List.getElem?_eq_some_iff.1 h2
  have hp := List.pairwise_iff_getElem.1 marks_nodup
  have : 8 * d + m = 8 * d' + m' := by
    rcases Nat.lt_trichotomy (8 * d + m) (8 * d' + m') with c | c | c
    · exact absurd (g1.trans g2.symm) (hp _ _ l1 l2 c)
    · exact c
    · exact absurd (g2.trans g1.symm) (hp _ _ l2 l1 c)
  omega
theorem mark_ne (d m : Nat) (hd : d < 15) (hm : m < 8) : mark d m ≠ 0#8 := by
  intro h
  have h1 := mark_get d m hd hm
  rw [h] at h1
  exact marks_pos (List.mem_of_getElem? h1)

/-- what an error of a sealed list leaves -/
def synd (es : List UInt8) : BitVec 8 := (es.getLastD 0).toBitVec ^^^ rev (run 0#8 es.dropLast)
theorem zip_snoc (a b : List UInt8) (x y : UInt8) (h : a.length = b.length) : List.zipWith (· ^^^ ·) (a ++ [x]) (b ++ [y]) = List.zipWith (· ^^^ ·) a b ++ [x ^^^ y] := by
  rw [List.zipWith_append h]; rfl
theorem split_last (es : List UInt8) (n : Nat) (h : es.length = n + 1) : ∃ ds y, es = ds ++ [y] ∧ ds.length = n := by
  have hne : es ≠ [] := by intro e; simp [e] at h
  exact ⟨es.dropLast, es.getLast hne, (List.dropLast_concat_getLast hne).symm, by simp [h]⟩
theorem synd_snoc (ds : List UInt8) (y : UInt8) : synd (ds ++ [y]) = y.toBitVec ^^^ rev (run 0#8 ds) := by
  simp [synd]
theorem bv_xor_eq_zero (x y : BitVec 8) : (x ^^^ y = 0#8) ↔ x = y := by
  constructor
  · intro h
    have : x ^^^ (y ^^^ y) = y := by rw [← BitVec.xor_assoc, h, BitVec.zero_xor]
    rwa [BitVec.xor_self, BitVec.xor_zero] at this
  · rintro rfl; exact BitVec.xor_self
theorem fits_snoc (xs : List UInt8) (y : UInt8) : fits (xs ++ [y]) = (y == sum xs) := by
  simp [fits]
theorem fits_err (xs es : List UInt8) (h : es.length = xs.length + 1) : fits (List.zipWith (· ^^^ ·) (sealed xs) es) = decide (synd es = 0#8) := by
  obtain ⟨ds, y, rfl, hd⟩ := split_last es _ h
  unfold sealed
  rw [zip_snoc _ _ _ _ hd.symm, fits_snoc, sum_xor _ _ hd.symm, synd_snoc, Bool.eq_iff_iff]
  simp only [beq_iff_eq, decide_eq_true_eq, bv_xor_eq_zero]
  constructor
  · intro e
    have : sum xs ^^^ (sum xs ^^^ y) = sum xs ^^^ (sum xs ^^^ ⟨rev (run 0#8 ds)⟩) := by rw [e]
    rw [← UInt8.xor_assoc, ← UInt8.xor_assoc, UInt8.xor_self, UInt8.zero_xor, UInt8.zero_xor] at this
    exact congrArg UInt8.toBitVec this
  · intro e
    have : y = ⟨rev (run 0#8 ds)⟩ := UInt8.toBitVec_inj.1 e
    rw [← this]
theorem synd_xor (es fs : List UInt8) (n : Nat) (h : es.length = n + 1) (h' : fs.length = n + 1) : synd (List.zipWith (· ^^^ ·) es fs) = synd es ^^^ synd fs := by
  obtain ⟨ds, y, rfl, hd⟩ := split_last es _ h
  obtain ⟨ds', y', rfl, hd'⟩ := split_last fs _ h'
  rw [zip_snoc _ _ _ _ (by omega), synd_snoc, synd_snoc, synd_snoc, UInt8.toBitVec_xor]
  have := run_xor ds ds' (by omega) 0#8 0#8
  rw [BitVec.xor_self] at this
  rw [this, rev_xor]
  generalize y.toBitVec = a
  generalize y'.toBitVec = b
  generalize rev (run 0#8 ds) = c
  generalize rev (run 0#8 ds') = d
  rw [BitVec.xor_assoc a b, BitVec.xor_assoc a c, ← BitVec.xor_assoc b c, BitVec.xor_comm b c, BitVec.xor_assoc c b]
def bitU (m : Nat) : UInt8 := ⟨1#8 <<< m⟩
theorem synd_unit (n j m : Nat) (hj : j < n + 1) : synd (unit (n + 1) j (bitU m)) = mark (n - j) m := by
  by_cases e : j = n
  · subst e
    have : unit (j + 1) j (bitU m) = zeros j ++ [bitU m] := by
      unfold unit zeros
      rw [List.set_eq_take_append_cons_drop, if_pos (by simp)]
      simp [List.take_replicate]
    rw [this, synd_snoc, run_zz, show rev 0#8 = 0#8 by decide, BitVec.xor_zero, Nat.sub_self]
    rfl
  · have : unit (n + 1) j (bitU m) = unit n j (bitU m) ++ [0] := by
      unfold unit zeros
      rw [List.replicate_succ', List.set_append, if_pos (by simp; omega)]
    rw [this, synd_snoc, run_unit _ _ _ (by omega)]
    obtain ⟨d, hd⟩ : ∃ d, n - j = d + 1 := ⟨n - j - 1, by omega⟩
    rw [hd, show n - 1 - j = d by omega]
    show 0#8 ^^^ _ = _
    rw [BitVec.zero_xor]
    rfl

/-- one bit turned -/
def flip (xs : List UInt8) (i : Nat) : List UInt8 := xs.set (i / 8) (xs.getD (i / 8) 0 ^^^ bitU (i % 8))
theorem flip_eq (xs : List UInt8) (i : Nat) (h : i < 8 * xs.length) : flip xs i = List.zipWith (· ^^^ ·) xs (unit xs.length (i / 8) (bitU (i % 8))) := by
  rw [xor_unit _ _ _ (by omega)]
  unfold flip
  congr 1
  simp [List.getD, List.getElem?_eq_getElem (show i / 8 < xs.length by omega)]
theorem flip_length (xs : List UInt8) (i : Nat) : (flip xs i).length = xs.length := by simp [flip]
theorem sealed_length (xs : List UInt8) : (sealed xs).length = xs.length + 1 := by simp [sealed]
theorem fits_sealed (xs : List UInt8) : fits (sealed xs) = true := by unfold sealed; rw [fits_snoc]; simp
theorem one_law (xs : List UInt8) (i : Nat) (hn : xs.length ≤ 14) (h : i < 8 * (xs.length + 1)) : fits (flip (sealed xs) i) = false := by
  rw [flip_eq _ _ (by rw [sealed_length]; exact h), sealed_length, fits_err _ _ (by rw [unit_length]), synd_unit _ _ _ (by omega)]
  simpa using mark_ne _ _ (by omega) (by omega)
theorem two_law (xs : List UInt8) (i k : Nat) (hn : xs.length ≤ 14) (h : i < 8 * (xs.length + 1)) (h' : k < 8 * (xs.length + 1)) : fits (flip (flip (sealed xs) i) k) = decide (i = k) := by
  rw [flip_eq _ k (by rw [flip_length, sealed_length]; exact h'), flip_length, sealed_length, flip_eq _ i (by rw [sealed_length]; exact h), sealed_length]
  have e : ∀ a b c : List UInt8, List.zipWith (· ^^^ ·) (List.zipWith (· ^^^ ·) a b) c = List.zipWith (· ^^^ ·) a (List.zipWith (· ^^^ ·) b c) := by
    intro a
    induction a with
    | nil => intro b c; rfl
    | cons x a ih =>
      intro b c
      cases b with
      | nil => rfl
      | cons y b =>
        cases c with
        | nil => rfl
        | cons z c => simp only [List.zipWith_cons_cons, ih, UInt8.xor_assoc]
  rw [e, fits_err _ _ (by simp [unit_length]), synd_xor _ _ xs.length (unit_length _ _ _) (unit_length _ _ _), synd_unit _ _ _ (by omega), synd_unit _ _ _ (by omega), decide_eq_decide, bv_xor_eq_zero]
  constructor
  · intro h
    have := mark_inj _ _ _ _ (by omega) (by omega) (by omega) (by omega) h
    omega
  · rintro rfl; rfl
end Go.Proofs.YtoagmehgiaamlaaDoor.Crc

namespace Go.Proofs.YtoagmehgiaamlaaDoor
open Go.ChangeShapes Go.WideShapes Go.ChangeAt Go.RowKit
set_option linter.unusedVariables false

/-- where the errors lie, in api's order: End Shape Range Many Kind Sum None Twice Full State Seq Long Word Number -/
def errG (i : Nat) : Nat := [2, 1, 5, 3, 4, 8, 9, 10,
  11, 0, 6, 7, 12, 13].getD i 0
def errV (E : Nat → Addr) (i : Nat) : Value := .iface 122 (.pointer (some (E i)))
/-- no error, or one of api's -/
def errO (E : Nat → Addr) : Option Nat → Value
  | none => .nilIface
  | some i => errV E i
/-- an error's number as the references have it -/
def errCode : Option Nat → Int
  | none => 0
  | some i => 101 + (i : Int)
def allErr : List Nat := [0, 1, 2, 3, 4, 5, 6, 7, 8, 9, 10, 11, 12, 13]

structure Errs (S : List Nat) (w : World) (E : Nat → Addr) : Prop where
  cell : ∀ i, i ∈ S → w.cell? ⟨errG i, 0, none⟩ = some (errV E i)
  blk : ∀ i, i ∈ S → ∃ c t, w.heap[(E i).block]? = some (.cells c t (0, 0))
  ne : ∀ i, i ∈ S → ∀ j, j ∈ S → i ≠ j → E i ≠ E j

theorem Errs.sub {S T : List Nat} {w : World} {E : Nat → Addr} (h : Errs S w E) (hs : ∀ i, i ∈ T → i ∈ S) : Errs T w E :=
  ⟨fun i hi => h.cell i (hs i hi), fun i hi => h.blk i (hs i hi), fun i hi j hj => h.ne i (hs i hi) j (hs j hj)⟩
theorem Errs.keep {S : List Nat} {w w' : World} {E : Nat → Addr} (h : Errs S w E) (hk : ∀ b, b < w.heap.size → w'.heap[b]? = w.heap[b]?) : Errs S w' E := by
  refine ⟨fun i hi => ?_, fun i hi => ?_, h.ne⟩
  · rw [World.cell?_of_block (hk _ (World.block_lt_of_cell? w _ (h.cell i hi)))]
    exact h.cell i hi
  · obtain ⟨c, t, hb⟩ := h.blk i hi
    exact ⟨c, t, by rw [hk _ (Array.getElem?_eq_some_iff.1 hb).1]; exact hb⟩
theorem Errs.below {S : List Nat} {w w' : World} {E : Nat → Addr} {B : Nat} (h : Errs S w E) (hb : Below B w w') (hB : w.heap.size ≤ B) : Errs S w' E :=
  h.keep fun b hlt => hb.block b (by omega)
theorem Errs.drewN {S : List Nat} {w : World} {E : Nat → Addr} (h : Errs S w E) (n : Nat) : Errs S (w.drewN n) E := ⟨h.cell, h.blk, h.ne⟩
theorem Errs.drew {S : List Nat} {w : World} {E : Nat → Addr} (h : Errs S w E) : Errs S w.drew E := ⟨h.cell, h.blk, h.ne⟩
theorem Errs.alloc {S : List Nat} {w : World} {E : Nat → Addr} (h : Errs S w E) (o : Obj) : Errs S (w.alloc o) E := h.keep fun b hlt => Below.heap_alloc w o b hlt
/-- a cell of a variable, spelt for the walk -/
theorem Errs.at_ {S : List Nat} {w : World} {E : Nat → Addr} (h : Errs S w E) (i g : Nat) (hi : i ∈ S) (hg : errG i = g) :
    w.cell? ⟨g, 0, none⟩ = some (.iface 122 (.pointer (some (E i)))) := by
  subst hg
  exact h.cell i hi

theorem err_comparable : (Tryd.prog.info? 122).map (·.comparable) = some true := by kernel_rfl
theorem err_size : (Tryd.prog.info? 140).map (·.size) = some 1 := by kernel_rfl

theorem err_same (a : Addr) (w : World) : (binOp .eql 42 (.iface 122 (.pointer (some a))) (.iface 122 (.pointer (some a)))).run Tryd.prog w = .ok (.bool true) w := by
  obtain ⟨i, hi, hc⟩ := Option.map_eq_some_iff.1 err_comparable
  obtain ⟨j, hj, _⟩ := Option.map_eq_some_iff.1 err_size
  exact run_eql_iface_ptr_same w a Tryd.underlying42 Tryd.underlying122 hi hc hj
theorem err_other {S : List Nat} {w : World} {E : Nat → Addr} (h : Errs S w E) {i j : Nat} (hi : i ∈ S) (hj : j ∈ S) (hij : i ≠ j) :
    (binOp .eql 42 (.iface 122 (.pointer (some (E i)))) (.iface 122 (.pointer (some (E j))))).run Tryd.prog w = .ok (.bool false) w := by
  obtain ⟨ti, h1, hc⟩ := Option.map_eq_some_iff.1 err_comparable
  obtain ⟨tj, h2, hs⟩ := Option.map_eq_some_iff.1 err_size
  obtain ⟨c1, t1, b1⟩ := h.blk i hi
  obtain ⟨c2, t2, b2⟩ := h.blk j hj
  exact run_eql_iface_ptr_other w Tryd.underlying42 Tryd.underlying122 h1 hc h2 (by rw [hs]; decide) (h.ne i hi j hj hij) b1 b2

/-- an error held against nil -/
theorem err_isnil (E : Nat → Addr) (o : Option Nat) (w : World) : (binOp .eql 42 (errO E o) .nilIface).run Tryd.prog w = .ok (.bool (decide (o = none))) w := by
  rcases o with _ | i
  · simp [errO, go_sem]
  · simp [errO, errV, go_sem]
theorem err_nonnil (E : Nat → Addr) (o : Option Nat) (w : World) : (binOp .neq 42 (errO E o) .nilIface).run Tryd.prog w = .ok (.bool (!decide (o = none))) w := by
  rcases o with _ | i
  · simp [errO, go_sem]
  · simp [errO, errV, go_sem]
theorem err_guard (E : Nat → Addr) (o : Option Nat) (x : Operand) (v : Value) (w : World) : (eqGuard .eql 42 x (.const v) (errO E o) .nilIface).run Tryd.prog w = .ok () w := by
  rcases o with _ | i
  · cases x <;> rfl
  · rfl
theorem err_guard' (E : Nat → Addr) (o : Option Nat) (x : Operand) (v : Value) (w : World) : (eqGuard .neq 42 x (.const v) (errO E o) .nilIface).run Tryd.prog w = .ok () w := by
  rcases o with _ | i
  · cases x <;> rfl
  · rfl
end Go.Proofs.YtoagmehgiaamlaaDoor

namespace Go.Proofs.YtoagmehgiaamlaaDoor
open Go.ChangeShapes Go.WideShapes Go.ChangeAt Go.RowKit
set_option linter.unusedVariables false

theorem tmod_neg {n below q : Int} (h0 : 0 < below) (hn : n < 0) (hq : n.tmod below = q) : q ≤ 0 ∧ -below < q ∧ ((q = 0 ∧ n % below = 0) ∨ (q < 0 ∧ n % below = q + below)) := by
  have e3 := Int.emod_nonneg (-n) (show below ≠ 0 by omega)
  have e4 := Int.emod_lt_of_pos (-n) h0
  have e1 := Int.emod_nonneg n (show below ≠ 0 by omega)
  have e5 : q = -((-n) % below) := by rw [← hq, ← Int.tmod_eq_emod_of_nonneg (by omega), Int.neg_tmod, Int.neg_neg]
  have e6 : n % below = if n.natAbs % below.natAbs = 0 then 0 else below - (-n) % below := by
    obtain ⟨m, rfl⟩ : ∃ m, n = -m := ⟨-n, by omega⟩
    rw [Int.neg_neg, Int.neg_emod, Int.natAbs_of_nonneg (by omega)]
    have : (below ∣ m) ↔ ((-m).natAbs % below.natAbs = 0) := by
      rw [← Int.natAbs_dvd_natAbs, Int.natAbs_neg, Nat.dvd_iff_mod_eq_zero]
    simp only [this]
  have e7 : (-n) % below = ((n.natAbs % below.natAbs : Nat) : Int) := by
    rw [Int.natCast_emod, Int.natAbs_of_nonneg (by omega : 0 ≤ below), Int.ofNat_natAbs_of_nonpos (by omega)]
  split at e6 <;> omega

set_option maxHeartbeats 400000 in
theorem number_any (n below : Int) (w : World) (h0 : 0 < below) (h1 : below ≤ 4611686018427387904) (hn0 : -9223372036854775808 ≤ n) (hn1 : n ≤ 9223372036854775807) :
    Calls Tryd.prog 8 #[.int .i64 n, .int .i64 below] w fun e w' => e = .returned (.int .i64 (n % below)) ∧ w = w' := by
  have hb : (below == 0) = false := by simp; omega
  have hb1 : ¬ below = -1 := by omega
  have e1 := Int.emod_nonneg n (show below ≠ 0 by omega)
  have e2 := Int.emod_lt_of_pos n h0
  by_cases hn : n < 0
  · obtain ⟨q, hq⟩ : ∃ q, n.tmod below = q := ⟨_, rfl⟩
    obtain ⟨a1, a2, a3⟩ := tmod_neg h0 hn hq
    rcases a3 with ⟨a3, a4⟩ | ⟨a3, a4⟩
    · subst a3
      have H4 := Lib.hid a4
      clear a4 e1 e2
      go_enter Tryd.func8, Tryd.ntmps8
      go_wp2_with fail
      go_ret
      exact ⟨ret_i64 H4.out.symm, rfl⟩
    · have H4 := Lib.hid a4
      clear a4 e1 e2
      go_enter Tryd.func8, Tryd.ntmps8
      go_wp2_with fail
      go_ret
      exact ⟨ret_i64 H4.out.symm, rfl⟩
  · go_enter Tryd.func8, Tryd.ntmps8
    go_wp2_with fail
    go_ret
    exact ⟨rfl, rfl⟩
end Go.Proofs.YtoagmehgiaamlaaDoor

namespace Go.Proofs.YtoagmehgiaamlaaDoor
open Go.ChangeShapes Go.WideShapes Go.ChangeAt Go.RowKit
set_option linter.unusedVariables false

def sameB (xs ys : List UInt8) : Bool := decide (xs = ys)
theorem sameB_yes {xs ys : List UInt8} (hl : xs.length = ys.length) (h : ∀ j, j < xs.length → xs[j]? = ys[j]?) : sameB xs ys = true := by
  unfold sameB
  rw [decide_eq_true_eq]
  apply List.ext_getElem? fun i => ?_
  by_cases hi : i < xs.length
  · exact h i hi
  · rw [List.getElem?_eq_none (by omega), List.getElem?_eq_none (by omega)]
theorem sameB_no {xs ys : List UInt8} (j : Nat) (h : ¬ xs[j]? = ys[j]?) : sameB xs ys = false := by
  unfold sameB
  rw [decide_eq_false_iff_not]
  rintro rfl
  exact h rfl

set_option maxHeartbeats 400000 in
theorem sameBytes_any (a : Option Addr) (len cap : Nat) (xs : List UInt8) (b : Option Addr) (lenb capb : Nat) (ys : List UInt8) (w : World) (h : Row w 1 a len cap (xs.map u8v)) (hb : Row w 1 b lenb capb (ys.map u8v)) :
    Calls Tryd.prog 15 #[.slice a len cap, .slice b lenb capb] w fun e w' => e = .returned (.bool (sameB xs ys)) ∧ ∃ n, w' = w.drewN n := by
  have hm := h.len_le
  have hmb := hb.len_le
  have HL := Lib.hid (show xs.length = len by simpa using h.1)
  have HB := Lib.hid (show ys.length = lenb by simpa using hb.1)
  by_cases hll : len = lenb
  · subst hll
    have hne : (!((len : Int) == (len : Int))) = false := by simp
    go_enter Tryd.func15, Tryd.ntmps15
    go_wp2_with fail
    go_loopw [5, 6] (fun i s wr => ∃ k : Nat, k ≤ len ∧ i = .int .i64 k ∧ Hid (∀ j, j < k → xs[j]? = ys[j]?) ∧ ∃ n, wr = w.drewN n) (fun i _ _ => len - (intOf i).toNat)
    case atStart => exact ⟨0, Nat.zero_le _, rfl, fun j hj => by omega, 0, rfl⟩
    case round =>
      obtain ⟨k, hk, rfl, HE, nd, rfl⟩ := hrel
      by_cases hlt : k < len
      · obtain ⟨b1, off1, rfl, hb1, hc1⟩ := h.at_ (by omega)
        obtain ⟨b2, off2, rfl, hb2, hc2⟩ := hb.at_ (by omega)
        have hkx : k < xs.length := by rw [HL.out]; exact hlt
        have hky : k < ys.length := by rw [HB.out]; exact hlt
        have hcell1 : w.cell? ⟨b1, off1 + k, none⟩ = some (.int .u8 ((xs[k]'hkx).toNat : Int)) := hc1 k _ (u8_get hkx)
        have hcell2 : w.cell? ⟨b2, off2 + k, none⟩ = some (.int .u8 ((ys[k]'hky).toNat : Int)) := hc2 k _ (u8_get hky)
        have HX := Lib.hid (show xs[k]? = some (xs[k]'hkx) from List.getElem?_eq_getElem hkx)
        have HY := Lib.hid (show ys[k]? = some (ys[k]'hky) from List.getElem?_eq_getElem hky)
        generalize (xs[k]'hkx) = X at *
        generalize (ys[k]'hky) = Y at *
        have HQ := Lib.hid (toNat_beq X Y)
        clear hc1 hc2
        have e1 : 0 ≤ (k : Int) := by omega
        have e2 : (k : Int) < (len : Int) := by omega
        go_wp2_with fail
        go_quiet (fail)
        go_wp2_with fail
        · have hy : (!((X.toNat : Int) == (Y.toNat : Int))) = true := by assumption
          go_ret
          refine ⟨ret_bool ?_, _, rfl⟩
          rw [HQ.out] at hy
          refine (sameB_no k ?_).symm
          rw [HX.out, HY.out]
          intro e
          injection e with e
          simp [e] at hy
        · have hy : (!((X.toNat : Int) == (Y.toNat : Int))) = false := by assumption
          go_roundw
          case rel =>
            refine ⟨k + 1, by omega, by go_num, fun j hj => ?_, _, rfl⟩
            rw [HQ.out] at hy
            by_cases hjk : j = k
            · subst hjk
              rw [HX.out, HY.out]
              simpa using hy
            · exact HE.out j (by omega)
          case measure => simp [intOf]; omega
      · have hke : k = len := by omega
        have HF := Lib.hid (show sameB xs ys = true from sameB_yes (by rw [HL.out, HB.out]) fun j hj => HE.out j (by rw [HL.out] at hj; omega))
        clear hke
        go_wp2_with fail
        go_ret
        exact ⟨ret_bool HF.out.symm, _, rfl⟩
  · have hne : (!((len : Int) == (lenb : Int))) = true := by simp; omega
    go_enter Tryd.func15, Tryd.ntmps15
    go_wp2_with fail
    go_ret
    refine ⟨ret_bool ?_, 0, rfl⟩
    symm
    unfold sameB
    rw [decide_eq_false_iff_not]
    rintro rfl
    exact hll (HL.out.symm.trans HB.out)
end Go.Proofs.YtoagmehgiaamlaaDoor

namespace Go.Proofs.YtoagmehgiaamlaaDoor
open Go.ChangeShapes Go.WideShapes Go.ChangeAt Go.RowKit
set_option linter.unusedVariables false

section
variable {w w' : World} {base sz n C : Nat} {e : TypeId} {A : Option Addr} {vs : List Value}
theorem own_open (h : w.ownsRow base e sz (.slice A n C) n vs) (hn : 0 < n) :
    ∃ g, A = some ⟨g, 0, none⟩ ∧ base ≤ g ∧ g < w.heap.size ∧ n ≤ C ∧ (∀ j u, vs[j]? = some u → w.cell? ⟨g, j, none⟩ = some u) ∧ (∀ j, w.frozen? ⟨g, j, none⟩ = false) ∧
      ∀ j u, (w.setCell ⟨g, j, none⟩ u).ownsRow base e sz (.slice A n C) n (vs.set j u) := by
  obtain ⟨g, cap, hv, hb, hlt⟩ := World.ownsRow.form h hn
  injection hv with h1 h2 h3
  subst h1 h3
  have hc := (row_of_own h).len_cap.1
  refine ⟨g, rfl, hb, hlt, hc, fun j u hu => ?_, fun j => World.ownsRow.frozenAt h j, fun j u => (World.ownsRow.stored h j u).1⟩
  have := World.ownsRow.cells h (g := g) rfl j u hu
  rwa [add_at, Nat.zero_add] at this
theorem own_keep (h : w.ownsRow base e sz (.slice A n C) n vs) {r : Option Nat} (hg : w.grownBy w' r) (hr : blk A = none ∨ blk A ≠ r) : w'.ownsRow base e sz (.slice A n C) n vs := by
  refine World.ownsRow.kept h hg ?_
  cases A <;> exact hr
theorem own_below {B : Nat} (h : w.ownsRow base e sz (.slice A n C) n vs) (hb : Below B w w') (hB : w.heap.size ≤ B) : w'.ownsRow base e sz (.slice A n C) n vs := by
  refine World.ownsRow.kept h (row := none) ⟨hb.os, hb.tape, hb.output, hb.size, fun k hk _ => hb.block k (by omega)⟩ ?_
  cases A <;> simp [Value.ownBlock]
theorem own_ge (h : w.ownsRow base e sz (.slice A n C) n vs) : ∀ b, blk A = some b → base ≤ b ∧ b < w.heap.size := by
  intro b hb
  exact World.ownsRow.lt h b (by rw [← hb]; cases A <;> rfl)
theorem own_ne (h : w.ownsRow base e sz (.slice A n C) n vs) {k : Nat} {cs : Array Value} {t : TypeId} (hb : Blk w k cs t) (ht : t ≠ e) : some k ≠ blk A := by
  intro ee
  rcases h.2 with ⟨hv, _⟩ | ⟨g, cap, cur, hv, _, hg, _⟩
  · injection hv with h1
    rw [h1] at ee
    cases ee
  · injection hv with h1
    rw [h1] at ee
    injection ee with ee
    subst ee
    unfold Blk at hb
    rw [hg] at hb
    injection hb with hb
    injection hb with _ h2
    exact ht h2.symm
theorem own_ne_own (h : w.ownsRow base e sz (.slice A n C) n vs) {base' sz' n' C' : Nat} {e' : TypeId} {A' : Option Addr} {vs' : List Value} (h' : w.ownsRow base' e' sz' (.slice A' n' C') n' vs') (ht : e' ≠ e) : blk A = none ∨ blk A ≠ blk A' := by
  rcases h.2 with ⟨hv, _⟩ | ⟨g, cap, cur, hv, _, hg, _⟩
  · injection hv with h1
    exact .inl (by rw [h1]; rfl)
  · right
    injection hv with h1
    subst h1
    have := own_ne h' (show Blk w g cur e from hg) (fun x => ht x.symm)
    exact this
theorem own_far (h : w.ownsRow base e sz (.slice A n C) n vs) (p : Addr) (hp : some p.block ≠ blk A) (u : Value) : (w.setCell p u).ownsRow base e sz (.slice A n C) n vs :=
  own_keep h (r := some p.block) ⟨rfl, rfl, rfl, by simp [World.setCell], fun k _ hk => Below.heap_setCell w p u k (by intro e; exact hk (by rw [e]))⟩ (by
    rcases hA : blk A with _ | b
    · exact .inl rfl
    · exact .inr (by rw [hA] at hp; exact fun x => hp x.symm))
end

/-- the blocks of which S says so may turn, no other that was there -/
structure Touch (S : Nat → Prop) (w w' : World) : Prop where
  os : w'.os = w.os
  tape : w'.tape = w.tape
  output : w'.output = w.output
  size : w.heap.size ≤ w'.heap.size
  block : ∀ k, k < w.heap.size → ¬ S k → w'.heap[k]? = w.heap[k]?
section
variable {S T : Nat → Prop} {w w1 w2 : World}
theorem Touch.refl (S : Nat → Prop) (w : World) : Touch S w w := ⟨rfl, rfl, rfl, Nat.le_refl _, fun _ _ _ => rfl⟩
theorem Touch.trans (h : Touch S w w1) (h2 : Touch T w1 w2) (hs : ∀ k, k < w.heap.size → T k → S k) : Touch S w w2 :=
  ⟨h2.os.trans h.os, h2.tape.trans h.tape, h2.output.trans h.output, Nat.le_trans h.size h2.size, fun k hk hn => (h2.block k (Nat.lt_of_lt_of_le hk h.size) (fun x => hn (hs k hk x))).trans (h.block k hk hn)⟩
theorem Touch.mono (h : Touch S w w1) (hs : ∀ k, k < w.heap.size → S k → T k) : Touch T w w1 := ⟨h.os, h.tape, h.output, h.size, fun k hk hn => h.block k hk (fun x => hn (hs k hk x))⟩
theorem touch_alloc (S : Nat → Prop) (w : World) (o : Obj) : Touch S w (w.alloc o) := ⟨rfl, rfl, rfl, by simp, fun k hk _ => Below.heap_alloc w o k hk⟩
theorem touch_set (S : Nat → Prop) (w : World) (b i : Nat) (u : Value) (hb : S b) : Touch S w (w.setCell ⟨b, i, none⟩ u) :=
  ⟨rfl, rfl, rfl, by simp [World.setCell], fun k _ hk => Below.heap_setCell w ⟨b, i, none⟩ u k (by intro e; exact hk (e ▸ hb))⟩
theorem touch_of_below {B : Nat} (h : Below B w w1) (hB : ∀ k, k < w.heap.size → ¬ S k → k < B) : Touch S w w1 := ⟨h.os, h.tape, h.output, h.size, fun k hk hn => h.block k (hB k hk hn)⟩
theorem touch_of_grown {r : Option Nat} (h : w.grownBy w1 r) (hr : ∀ k, r = some k → S k) : Touch S w w1 := ⟨h.os, h.tape, h.output, h.size, fun k hk hn => h.block k hk (fun e => hn (hr k e.symm))⟩
theorem touch_drew (S : Nat → Prop) (w : World) (n : Nat) : Touch S w (w.drewN n) := ⟨rfl, rfl, rfl, Nat.le_refl _, fun _ _ _ => rfl⟩
/-- behind it all lies below what may turn -/
theorem Touch.below {B : Nat} (h : Touch S w w1) (hS : ∀ k, S k → B ≤ k) (hB : B ≤ w.heap.size) : Below B w w1 := ⟨h.os, h.tape, h.output, h.size, fun k hk => h.block k (by omega) (fun x => by have := hS k x; omega)⟩
theorem Blk.touch {n : Nat} {cs : Array Value} {t : TypeId} (h : Blk w n cs t) (ht : Touch S w w1) (hn : ¬ S n) : Blk w1 n cs t := h.keep fun hlt => ht.block n hlt hn
theorem own_touch {base sz n C : Nat} {e : TypeId} {A : Option Addr} {vs : List Value} (h : w.ownsRow base e sz (.slice A n C) n vs) (ht : Touch S w w1) (hA : ∀ k, blk A = some k → ¬ S k) : w1.ownsRow base e sz (.slice A n C) n vs := by
  refine ⟨h.1, ?_⟩
  rcases h.2 with hn | ⟨g, cap, cur, hv, hb, hgg, rest⟩
  · exact .inl hn
  · refine .inr ⟨g, cap, cur, hv, hb, ?_, rest⟩
    injection hv with h1
    rw [ht.block g (Array.getElem?_eq_some_iff.1 hgg).1 (hA g (by rw [h1]; rfl))]
    exact hgg
end

/-- the cells of a list of structs -/
theorem flat_len {α : Type} (f : α → List Value) (sz : Nat) (hf : ∀ x, (f x).length = sz) (L : List α) : (L.flatMap f).length = L.length * sz := by
  induction L with
  | nil => simp
  | cons x L ih => simp [List.flatMap_cons, hf x, ih, Nat.succ_mul, Nat.add_comm]
theorem flat_get {α : Type} (f : α → List Value) (sz : Nat) (hf : ∀ x, (f x).length = sz) (L : List α) (k j : Nat) (hj : j < sz) {x : α} {u : Value} (hx : L[k]? = some x) (hu : (f x)[j]? = some u) : (L.flatMap f)[k * sz + j]? = some u := by
  induction L generalizing k with
  | nil => simp at hx
  | cons y L ih =>
    rw [List.flatMap_cons]
    rcases k with _ | k
    · simp only [List.getElem?_cons_zero, Option.some.injEq] at hx
      subst hx
      rw [Nat.zero_mul, Nat.zero_add, List.getElem?_append_left (by rw [hf]; exact hj)]
      exact hu
    · rw [List.getElem?_append_right (by rw [hf, Nat.succ_mul]; omega), hf, show (k + 1) * sz + j - sz = k * sz + j by rw [Nat.succ_mul]; omega]
      exact ih k (by simpa using hx)
theorem flat_set {α : Type} (f : α → List Value) (sz : Nat) (hf : ∀ x, (f x).length = sz) (L : List α) (k j : Nat) (hj : j < sz) {x x' : α} {u : Value} (hx : L[k]? = some x) (hu : (f x).set j u = f x') : (L.flatMap f).set (k * sz + j) u = (L.set k x').flatMap f := by
  induction L generalizing k with
  | nil => simp at hx
  | cons y L ih =>
    rcases k with _ | k
    · simp only [List.getElem?_cons_zero, Option.some.injEq] at hx
      subst hx
      rw [List.flatMap_cons, Nat.zero_mul, Nat.zero_add, List.set_append_left _ _ (by rw [hf]; exact hj), hu, List.set_cons_zero, List.flatMap_cons]
    · rw [List.flatMap_cons, List.set_append_right _ _ (by rw [hf, Nat.succ_mul]; omega), hf, show (k + 1) * sz + j - sz = k * sz + j by rw [Nat.succ_mul]; omega, ih k (by simpa using hx), List.set_cons_succ, List.flatMap_cons]
end Go.Proofs.YtoagmehgiaamlaaDoor

