/-
  The sum of a delimiter in plain terms (bits, bytes, lists), its linearity, and what follows of it. No program in sight.
-/
import Derived.Test.YtplcdjdmkmdddaaDoorBase
namespace Go.Proofs.YtplcdjdmkmdddaaDoor.Crc
open Go.RowKit
set_option linter.unusedVariables false

def bit (r : BitVec 8) (b : Bool) : BitVec 8 := (r <<< 1) ^^^ (bif (r.msb ^^ b) then 7#8 else 0#8)
def bitsOf (x : BitVec 8) : List Bool := [x.getLsbD 0, x.getLsbD 1, x.getLsbD 2, x.getLsbD 3, x.getLsbD 4, x.getLsbD 5, x.getLsbD 6, x.getLsbD 7]
def byte (r x : BitVec 8) : BitVec 8 := (bitsOf x).foldl bit r
def run (r : BitVec 8) (xs : List UInt8) : BitVec 8 := xs.foldl (fun r x => byte r x.toBitVec) r
def rev (x : BitVec 8) : BitVec 8 := x.reverse
def sum (xs : List UInt8) : UInt8 := ⟨rev (~~~ run 255#8 xs)⟩

theorem bit_xor (r s : BitVec 8) (b c : Bool) : bit (r ^^^ s) (b ^^ c) = bit r b ^^^ bit s c := by
  unfold bit
  rw [BitVec.msb_xor, BitVec.shiftLeft_xor_distrib]
  have e : ((r.msb ^^ s.msb) ^^ (b ^^ c)) = ((r.msb ^^ b) ^^ (s.msb ^^ c)) := by cases r.msb <;> cases s.msb <;> cases b <;> cases c <;> rfl
  rw [e]
  generalize (r.msb ^^ b) = p
  generalize (s.msb ^^ c) = q
  cases p <;> cases q
  · simp
  · simp [BitVec.xor_assoc]
  · simp only [Bool.xor_false, cond_true, cond_false, BitVec.xor_zero]; rw [BitVec.xor_assoc, BitVec.xor_comm (s <<< 1), ← BitVec.xor_assoc]
  · simp only [Bool.xor_self, cond_true, cond_false, BitVec.xor_zero]
    rw [BitVec.xor_assoc, BitVec.xor_comm 7#8, BitVec.xor_assoc (s <<< 1), BitVec.xor_self, BitVec.xor_zero]

theorem foldl_bit_xor (l m : List Bool) (h : l.length = m.length) : ∀ r s : BitVec 8, (List.zipWith (· ^^ ·) l m).foldl bit (r ^^^ s) = l.foldl bit r ^^^ m.foldl bit s := by
  induction l generalizing m with
  | nil => intro r s; cases m with | nil => rfl | cons _ _ => simp at h
  | cons b l ih =>
    intro r s
    cases m with
    | nil => simp at h
    | cons c m =>
      simp only [List.zipWith_cons_cons, List.foldl_cons]
      rw [bit_xor]
      exact ih m (by simpa using h) _ _

theorem byte_xor (r s x y : BitVec 8) : byte (r ^^^ s) (x ^^^ y) = byte r x ^^^ byte s y := by
  have h := foldl_bit_xor (bitsOf x) (bitsOf y) rfl r s
  rw [← show bitsOf (x ^^^ y) = List.zipWith (· ^^ ·) (bitsOf x) (bitsOf y) by simp [bitsOf]] at h
  exact h

theorem run_xor : ∀ (xs ys : List UInt8) (h : xs.length = ys.length) (r s : BitVec 8), run (r ^^^ s) (List.zipWith (· ^^^ ·) xs ys) = run r xs ^^^ run s ys := by
  intro xs
  induction xs with
  | nil => intro ys h r s; cases ys with | nil => rfl | cons _ _ => simp at h
  | cons x xs ih =>
    intro ys h r s
    cases ys with
    | nil => simp at h
    | cons y ys =>
      simp only [run, List.zipWith_cons_cons, List.foldl_cons] at *
      rw [UInt8.toBitVec_xor, byte_xor]
      exact ih ys (by simpa using h) _ _

theorem run_append (r : BitVec 8) (xs ys : List UInt8) : run r (xs ++ ys) = run (run r xs) ys := by simp [run]

/-! ### the walk's own forms -/
theorem msb_div (r : BitVec 8) : r.toNat / 128 = r.msb.toNat := by
  rw [BitVec.msb_eq_decide]
  have := r.isLt
  by_cases h : 128 ≤ r.toNat
  · simp [h]; omega
  · simp [h]; omega

theorem is_go (r : BitVec 8) (m : Nat) (hm : m < 256) :
    (bits .xor .u8 ((r.toNat : Int) / 128) (bits .and .u8 (m : Int) 1) == 1) = (r.msb ^^ decide (m % 2 = 1)) := by
  have e1 : bits .and .u8 (m : Int) 1 = ((m % 2 : Nat) : Int) := by
    have := u8_and_nat m 1 hm (by decide)
    rw [show ((1 : Nat) : Int) = 1 from rfl] at this
    rw [this, Nat.and_one_is_mod]
  have e2 : ((r.toNat : Int) / 128) = ((r.msb.toNat : Nat) : Int) := by rw [← msb_div]; omega
  rw [e1, e2, u8_xor_nat _ _ (by cases r.msb <;> decide) (by omega)]
  rcases Nat.mod_two_eq_zero_or_one m with h | h <;> rw [h] <;> cases r.msb <;> rfl

theorem shl_go (r : BitVec 8) : ((r.toNat : Int) * (2 : Int) % (256 : Int)) = ((r <<< 1).toNat : Int) := by
  rw [BitVec.toNat_shiftLeft, Nat.shiftLeft_eq]; simp

theorem yes_go (r : BitVec 8) (b : Bool) (h : (r.msb ^^ b) = true) : bits .xor .u8 ((r.toNat : Int) * 2 % 256) 7 = ((bit r b).toNat : Int) := by
  rw [shl_go]
  have := u8_xor_nat (r <<< 1).toNat 7 (r <<< 1).isLt (by decide)
  rw [show ((7 : Nat) : Int) = 7 from rfl] at this
  rw [this]
  simp [bit, h, BitVec.toNat_xor]
theorem no_go (r : BitVec 8) (b : Bool) (h : (r.msb ^^ b) = false) : ((r.toNat : Int) * (2 : Int) % (256 : Int)) = ((bit r b).toNat : Int) := by
  rw [shl_go]
  simp [bit, h]

theorem not_go (r : BitVec 8) : bits .xor .u8 IntKind.u8.max (r.toNat : Int) = ((~~~r).toNat : Int) := by
  have := u8_xor_nat 255 r.toNat (by decide) r.isLt
  rw [show ((255 : Nat) : Int) = IntKind.u8.max from rfl] at this
  rw [this, ← BitVec.allOnes_xor, BitVec.toNat_xor]; rfl

theorem i64_bits (a b : Nat) (ha : a < 9223372036854775808) (hb : b < 9223372036854775808) :
    bits .and .i64 (a : Int) (b : Int) = ((a &&& b : Nat) : Int) ∧ bits .or .i64 (a : Int) (b : Int) = ((a ||| b : Nat) : Int) ∧ bits .xor .i64 (a : Int) (b : Int) = ((a ^^^ b : Nat) : Int) := by
  have ea : BitVec.ofInt 64 (a : Int) = BitVec.ofNat 64 a := by rw [BitVec.ofInt_natCast]
  have eb : BitVec.ofInt 64 (b : Int) = BitVec.ofNat 64 b := by rw [BitVec.ofInt_natCast]
  have ta : (BitVec.ofNat 64 a).toNat = a := by rw [BitVec.toNat_ofNat]; omega
  have tb : (BitVec.ofNat 64 b).toNat = b := by rw [BitVec.toNat_ofNat]; omega
  have h1 : a &&& b < 2 ^ 63 := Nat.and_lt_two_pow _ (by omega)
  have h2 : a ||| b < 2 ^ 63 := Nat.or_lt_two_pow (by omega) (by omega)
  have h3 : a ^^^ b < 2 ^ 63 := Nat.xor_lt_two_pow (by omega) (by omega)
  refine ⟨?_, ?_, ?_⟩
  · show IntKind.i64.wrap ((BitVec.ofInt 64 (a : Int) &&& BitVec.ofInt 64 (b : Int)).toNat : Int) = _
    rw [ea, eb, BitVec.toNat_and, ta, tb]; exact IntWalk.i64_in _ (by omega)
  · show IntKind.i64.wrap ((BitVec.ofInt 64 (a : Int) ||| BitVec.ofInt 64 (b : Int)).toNat : Int) = _
    rw [ea, eb, BitVec.toNat_or, ta, tb]; exact IntWalk.i64_in _ (by omega)
  · show IntKind.i64.wrap ((BitVec.ofInt 64 (a : Int) ^^^ BitVec.ofInt 64 (b : Int)).toNat : Int) = _
    rw [ea, eb, BitVec.toNat_xor, ta, tb]; exact IntWalk.i64_in _ (by omega)
theorem i64_one (a : Nat) (ha : a < 9223372036854775808) : bits .and .i64 (a : Int) 1 = ((a % 2 : Nat) : Int) := by
  have := (i64_bits a 1 ha (by decide)).1
  rw [show ((1 : Nat) : Int) = 1 from rfl] at this
  rw [this, Nat.and_one_is_mod]
theorem is64_go (r x : BitVec 8) (j : Nat) :
    (bits .xor .i64 (bits .and .i64 ((r.toNat : Int) / 128) 1) (bits .and .i64 ((x.toNat : Int) / 2 ^ j) 1) == 1) = (r.msb ^^ decide (x.toNat / 2 ^ j % 2 = 1)) := by
  have hx : x.toNat / 2 ^ j < 256 := Nat.lt_of_le_of_lt (Nat.div_le_self _ _) x.isLt
  have e2 : ((r.toNat : Int) / 128) = ((r.msb.toNat : Nat) : Int) := by rw [← msb_div]; omega
  have e3 : ((x.toNat : Int) / 2 ^ j) = ((x.toNat / 2 ^ j : Nat) : Int) := by simp
  have hm : r.msb.toNat < 256 := by cases r.msb <;> decide
  rw [e2, e3, i64_one _ (by omega), i64_one _ (by omega), (i64_bits _ _ (by omega) (by omega)).2.2]
  generalize x.toNat / 2 ^ j = m
  rcases Nat.mod_two_eq_zero_or_one m with h | h <;> rw [h] <;> cases r.msb <;> rfl
theorem shl64_go (r : BitVec 8) : bits .and .i64 ((r.toNat : Int) * (2 : Int)) 255 = ((r <<< 1).toNat : Int) := by
  have hr := r.isLt
  have := (i64_bits (r.toNat * 2) 255 (by omega) (by decide)).1
  rw [show ((255 : Nat) : Int) = 255 from rfl, show ((r.toNat * 2 : Nat) : Int) = (r.toNat : Int) * 2 by omega] at this
  rw [this, show (255 : Nat) = 2 ^ 8 - 1 from rfl, Nat.and_two_pow_sub_one_eq_mod, BitVec.toNat_shiftLeft, Nat.shiftLeft_eq]
theorem yes64_go (r : BitVec 8) (b : Bool) (h : (r.msb ^^ b) = true) : bits .xor .i64 (bits .and .i64 ((r.toNat : Int) * (2 : Int)) 255) 7 = ((bit r b).toNat : Int) := by
  rw [shl64_go]
  have := (i64_bits (r <<< 1).toNat 7 (by have := (r <<< 1).isLt; omega) (by decide)).2.2
  rw [show ((7 : Nat) : Int) = 7 from rfl] at this
  rw [this]
  simp [bit, h, BitVec.toNat_xor]
theorem no64_go (r : BitVec 8) (b : Bool) (h : (r.msb ^^ b) = false) : bits .and .i64 ((r.toNat : Int) * (2 : Int)) 255 = ((bit r b).toNat : Int) := by
  rw [shl64_go]
  simp [bit, h]

/-- the mirrored register behind k bits -/
def mirror (r : BitVec 8) : Nat → Nat
  | 0 => 0
  | k + 1 => if r.toNat / 2 ^ k % 2 = 0 then mirror r k ||| (128 / 2 ^ k) else mirror r k
theorem mirror_all : ∀ r : BitVec 8, mirror r 8 = (rev (~~~r)).toNat := by decide +kernel
theorem mirror_lt (r : BitVec 8) (k : Nat) : mirror r k < 256 := by
  induction k with
  | zero => exact (by decide : 0 < 256)
  | succ k ih =>
    unfold mirror
    split
    · exact Nat.or_lt_two_pow (n := 8) ih (Nat.lt_of_le_of_lt (Nat.div_le_self _ _) (by decide))
    · exact ih
theorem mirror_test (r : BitVec 8) (k : Nat) : (bits .and .i64 ((r.toNat : Int) / 2 ^ k) 1 == 0) = decide (r.toNat / 2 ^ k % 2 = 0) := by
  have hx : r.toNat / 2 ^ k < 256 := Nat.lt_of_le_of_lt (Nat.div_le_self _ _) r.isLt
  have e3 : ((r.toNat : Int) / 2 ^ k) = ((r.toNat / 2 ^ k : Nat) : Int) := by simp
  rw [e3, i64_one _ (by omega)]
  generalize r.toNat / 2 ^ k = m
  rcases Nat.mod_two_eq_zero_or_one m with h | h <;> rw [h] <;> rfl
theorem mirror_or (r : BitVec 8) (k : Nat) : bits .or .i64 (mirror r k : Int) ((128 : Int) / 2 ^ k) = ((mirror r k ||| (128 / 2 ^ k) : Nat) : Int) := by
  have e : (128 : Int) / 2 ^ k = ((128 / 2 ^ k : Nat) : Int) := by simp
  have hx : 128 / 2 ^ k ≤ 128 := Nat.div_le_self _ _
  have hm := mirror_lt r k
  rw [e, (i64_bits _ _ (by omega) (by omega)).2.1]

/-- the register behind j bits of a byte -/
def part (r x : BitVec 8) (j : Nat) : BitVec 8 := ((bitsOf x).take j).foldl bit r
theorem part_zero (r x : BitVec 8) : part r x 0 = r := rfl
theorem part_eight (r x : BitVec 8) : part r x 8 = byte r x := rfl
theorem bitsOf_get (x : BitVec 8) (j : Nat) (h : j < 8) : (bitsOf x)[j]? = some (decide (x.toNat / 2 ^ j % 2 = 1)) := by
  have e : ∀ i : Nat, x.getLsbD i = decide (x.toNat / 2 ^ i % 2 = 1) := fun i => by
    rw [BitVec.getLsbD, Nat.testBit_eq_decide_div_mod_eq]
  match j, h with
  | 0, _ | 1, _ | 2, _ | 3, _ | 4, _ | 5, _ | 6, _ | 7, _ => simp only [bitsOf, List.getElem?_cons_succ, List.getElem?_cons_zero, e]
theorem part_succ (r x : BitVec 8) (j : Nat) (h : j < 8) : part r x (j + 1) = bit (part r x j) (decide (x.toNat / 2 ^ j % 2 = 1)) := by
  unfold part
  rw [List.take_add_one, bitsOf_get x j h]
  simp
theorem half (x j : Nat) : ((x / 2 ^ j : Nat) : Int) / 2 = ((x / 2 ^ (j + 1) : Nat) : Int) := by
  rw [Nat.pow_succ, ← Nat.div_div_eq_div_mul]; simp

theorem run_snoc (r : BitVec 8) (xs : List UInt8) (k : Nat) (h : k < xs.length) : run r (xs.take (k + 1)) = byte (run r (xs.take k)) (xs[k]).toBitVec := by
  rw [List.take_succ_eq_append_getElem h, run_append]; rfl

/-! ### what follows of the linearity -/
theorem rev_xor (x y : BitVec 8) : rev (x ^^^ y) = rev x ^^^ rev y := by
  unfold rev
  apply BitVec.eq_of_getLsbD_eq
  intro i hi
  simp [BitVec.getLsbD_reverse, BitVec.getMsbD_xor]

theorem rev_zero {x : BitVec 8} (h : rev x = 0#8) : x = 0#8 := by
  have : rev (rev x) = rev 0#8 := by rw [h]
  have e0 : rev 0#8 = 0#8 := by decide
  rw [e0] at this
  simpa [rev, BitVec.reverse_reverse_eq] using this

def zeros (n : Nat) : List UInt8 := List.replicate n 0
theorem byte_zz : byte 0#8 0#8 = 0#8 := by decide
theorem run_zz (n : Nat) : run 0#8 (zeros n) = 0#8 := by
  induction n with
  | zero => rfl
  | succ n ih => simp only [zeros, List.replicate_succ, run, List.foldl_cons] at *; exact ih
theorem byte_z_inj : ∀ r : BitVec 8, byte r 0#8 = 0#8 → r = 0#8 := by decide +kernel
theorem byte_0_inj : ∀ x : BitVec 8, byte 0#8 x = 0#8 → x = 0#8 := by decide +kernel
theorem run_z_inj (n : Nat) : ∀ r : BitVec 8, run r (zeros n) = 0#8 → r = 0#8 := by
  induction n with
  | zero => intro r h; exact h
  | succ n ih =>
    intro r h
    simp only [zeros, List.replicate_succ, run, List.foldl_cons] at *
    exact byte_z_inj r (ih _ h)

/-- zeros but for one byte -/
def unit (n k : Nat) (x : UInt8) : List UInt8 := (zeros n).set k x
theorem unit_length (n k : Nat) (x : UInt8) : (unit n k x).length = n := by simp [unit, zeros]
theorem run_unit (n k : Nat) (x : UInt8) (h : k < n) : run 0#8 (unit n k x) = run (byte 0#8 x.toBitVec) (zeros (n - 1 - k)) := by
  have e : unit n k x = zeros k ++ (x :: zeros (n - 1 - k)) := by
    unfold unit zeros
    rw [List.set_eq_take_append_cons_drop, if_pos (by simpa using h)]
    simp only [List.take_replicate, List.drop_replicate]
    rw [Nat.min_eq_left (by omega), show n - (k + 1) = n - 1 - k by omega]
  rw [e, run_append, run_zz]
  rfl

theorem xor_unit (xs : List UInt8) (k : Nat) (x : UInt8) (h : k < xs.length) : List.zipWith (· ^^^ ·) xs (unit xs.length k x) = xs.set k (xs[k] ^^^ x) := by
  apply List.ext_getElem
  · simp [unit, zeros]
  · intro i h1 h2
    simp only [List.getElem_zipWith, unit, zeros, List.getElem_set, List.getElem_replicate]
    split
    · subst_vars; rfl
    · simp

/-- SUMS OF LISTS THAT DIFFER -/
theorem sum_xor (xs es : List UInt8) (h : xs.length = es.length) : sum (List.zipWith (· ^^^ ·) xs es) = sum xs ^^^ ⟨rev (run 0#8 es)⟩ := by
  unfold sum
  have := run_xor xs es h 255#8 0#8
  rw [BitVec.xor_zero] at this
  rw [this]
  apply UInt8.toBitVec_inj.1
  rw [UInt8.toBitVec_xor]
  show rev (~~~(run 255#8 xs ^^^ run 0#8 es)) = rev (~~~run 255#8 xs) ^^^ rev (run 0#8 es)
  rw [← rev_xor]
  congr 1
  apply BitVec.eq_of_getLsbD_eq
  intro i hi
  simp only [BitVec.getLsbD_not, BitVec.getLsbD_xor, hi, decide_true, Bool.true_and]
  cases (run 255#8 xs).getLsbD i <;> cases (run 0#8 es).getLsbD i <;> rfl

/-- ONE BYTE TURNED: the sum is another, if the byte is. -/
theorem own_law (xs : List UInt8) (k : Nat) (x : UInt8) (h : k < xs.length) : (sum xs == sum (xs.set k (xs[k] ^^^ x))) = (x == 0) := by
  rw [← xor_unit xs k x h, sum_xor _ _ (by rw [unit_length]), run_unit _ _ _ h]
  rw [Bool.eq_iff_iff]
  simp only [beq_iff_eq]
  constructor
  · intro e
    have e1 : (⟨rev (run (byte 0#8 x.toBitVec) (zeros (xs.length - 1 - k)))⟩ : UInt8) = 0 := by
      have : sum xs ^^^ sum xs = sum xs ^^^ (sum xs ^^^ ⟨rev (run (byte 0#8 x.toBitVec) (zeros (xs.length - 1 - k)))⟩) := by rw [← e]
      rwa [UInt8.xor_self, ← UInt8.xor_assoc, UInt8.xor_self, UInt8.zero_xor, eq_comm] at this
    have e2 := rev_zero (congrArg UInt8.toBitVec e1)
    have e3 := byte_0_inj _ (run_z_inj _ _ e2)
    exact UInt8.toBitVec_inj.1 e3
  · rintro rfl
    have : byte 0#8 (0 : UInt8).toBitVec = 0#8 := by decide
    rw [this, run_zz]
    show sum xs = sum xs ^^^ 0
    rw [UInt8.xor_zero]

/-- FOUR LISTS -/
def xor3 (a b c : List UInt8) : List UInt8 := List.zipWith (· ^^^ ·) a (List.zipWith (· ^^^ ·) b c)
theorem linear_law (a b c : List UInt8) (h1 : a.length = b.length) (h2 : a.length = c.length) : sum a ^^^ sum b ^^^ sum c ^^^ sum (xor3 a b c) = 0 := by
  have l0 : (List.zipWith (· ^^^ ·) b c).length = b.length := by simp; omega
  have e1 : sum (xor3 a b c) = sum a ^^^ ⟨rev (run 0#8 (List.zipWith (· ^^^ ·) b c))⟩ := sum_xor _ _ (by omega)
  have e2 : run 0#8 (List.zipWith (· ^^^ ·) b c) = run 255#8 b ^^^ run 255#8 c := by
    have := run_xor b c (by omega) 255#8 255#8
    rwa [BitVec.xor_self] at this
  have e3 : (⟨rev (run 255#8 b ^^^ run 255#8 c)⟩ : UInt8) = sum b ^^^ sum c := by
    apply UInt8.toBitVec_inj.1
    rw [UInt8.toBitVec_xor]
    show rev _ = rev (~~~run 255#8 b) ^^^ rev (~~~run 255#8 c)
    rw [← rev_xor]
    congr 1
    apply BitVec.eq_of_getLsbD_eq
    intro i hi
    simp only [BitVec.getLsbD_not, BitVec.getLsbD_xor, hi, decide_true, Bool.true_and]
    cases (run 255#8 b).getLsbD i <;> cases (run 255#8 c).getLsbD i <;> rfl
  rw [e1, e2, e3]
  generalize sum a = x
  generalize sum b = y
  generalize sum c = z
  rw [UInt8.xor_assoc x y z, UInt8.xor_assoc x, ← UInt8.xor_assoc (y ^^^ z) x, UInt8.xor_comm (y ^^^ z) x, UInt8.xor_assoc x (y ^^^ z), UInt8.xor_self, UInt8.xor_zero, UInt8.xor_self]

/-- does the last byte fit those ahead? -/
def fits (xs : List UInt8) : Bool := decide (0 < xs.length) && (xs.getLastD 0 == sum xs.dropLast)
def sealed (xs : List UInt8) : List UInt8 := xs ++ [sum xs]

/-- the mark that an error leaves: that of one bit, d bytes ahead of the last -/
def mark (d m : Nat) : BitVec 8 := match d with
  | 0 => 1#8 <<< m
  | d + 1 => rev (run (byte 0#8 (1#8 <<< m)) (zeros d))
def marks : List Nat := [1, 2, 4, 8, 16, 32, 64, 128, 145, 227, 7, 14, 28, 56, 112, 224, 109, 218, 117, 234, 21, 42, 84, 168, 208, 97, 194, 69, 138, 213, 107, 214, 140, 217, 115, 230, 13, 26, 52, 104, 233, 19, 38, 76, 152, 241, 35, 70, 55, 110, 220, 121, 242, 37, 74, 148, 81, 162, 133, 203, 87, 174, 157, 251, 253, 59, 118, 236, 25, 50, 100, 200, 44, 88, 176, 161, 131, 199, 79, 158, 49, 98, 196, 73, 146, 229, 11, 22, 181, 171, 151, 239, 31, 62, 124, 248, 82, 164, 137, 211, 103, 206, 93, 186, 143, 223, 127, 254, 61, 122, 244, 41, 155, 247, 47, 94, 188, 185, 179, 167]
theorem marks_eq : ((List.range 120).map fun p => (mark (p / 8) (p % 8)).toNat) = marks := by decide +kernel
theorem marks_nodup : marks.Nodup := by decide +kernel
theorem marks_pos : 0 ∉ marks := by decide +kernel
theorem mark_get (d m : Nat) (hd : d < 15) (hm : m < 8) : marks[8 * d + m]? = some (mark d m).toNat := by
  rw [← marks_eq]
  rw [List.getElem?_map, List.getElem?_range (by omega)]
  simp only [Option.map_some]
  rw [show (8 * d + m) / 8 = d by omega, show (8 * d + m) % 8 = m by omega]
theorem mark_inj (d m d' m' : Nat) (hd : d < 15) (hm : m < 8) (hd' : d' < 15) (hm' : m' < 8) (h : mark d m = mark d' m') : d = d' ∧ m = m' := by
  have h1 := mark_get d m hd hm
  have h2 := mark_get d' m' hd' hm'
  rw [h] at h1
  obtain ⟨l1, g1⟩ := List.getElem?_eq_some_iff.1 h1
  obtain ⟨l2, g2⟩ := List.getElem?_eq_some_iff.1 h2
  have hp := List.pairwise_iff_getElem.1 marks_nodup
  have : 8 * d + m = 8 * d' + m' := by
    rcases Nat.lt_trichotomy (8 * d + m) (8 * d' + m') with c | c | c
    · exact absurd (g1.trans g2.symm) (hp _ _ l1 l2 c)
    · exact c
    · exact absurd (g2.trans g1.symm) (hp _ _ l2 l1 c)
  omega
theorem mark_ne (d m : Nat) (hd : d < 15) (hm : m < 8) : mark d m ≠ 0#8 := by
  intro h
  have h1 := mark_get d m hd hm
  rw [h] at h1
  exact marks_pos (List.mem_of_getElem? h1)

/-- what an error of a sealed list leaves -/
def synd (es : List UInt8) : BitVec 8 := (es.getLastD 0).toBitVec ^^^ rev (run 0#8 es.dropLast)
theorem zip_snoc (a b : List UInt8) (x y : UInt8) (h : a.length = b.length) : List.zipWith (· ^^^ ·) (a ++ [x]) (b ++ [y]) = List.zipWith (· ^^^ ·) a b ++ [x ^^^ y] := by
  rw [List.zipWith_append h]; rfl
theorem split_last (es : List UInt8) (n : Nat) (h : es.length = n + 1) : ∃ ds y, es = ds ++ [y] ∧ ds.length = n := by
  have hne : es ≠ [] := by intro e; simp [e] at h
  exact ⟨es.dropLast, es.getLast hne, (List.dropLast_concat_getLast hne).symm, by simp [h]⟩
theorem synd_snoc (ds : List UInt8) (y : UInt8) : synd (ds ++ [y]) = y.toBitVec ^^^ rev (run 0#8 ds) := by
  simp [synd]
theorem bv_xor_eq_zero (x y : BitVec 8) : (x ^^^ y = 0#8) ↔ x = y := by
  constructor
  · intro h
    have : x ^^^ (y ^^^ y) = y := by rw [← BitVec.xor_assoc, h, BitVec.zero_xor]
    rwa [BitVec.xor_self, BitVec.xor_zero] at this
  · rintro rfl; exact BitVec.xor_self
theorem fits_snoc (xs : List UInt8) (y : UInt8) : fits (xs ++ [y]) = (y == sum xs) := by
  simp [fits]
theorem fits_err (xs es : List UInt8) (h : es.length = xs.length + 1) : fits (List.zipWith (· ^^^ ·) (sealed xs) es) = decide (synd es = 0#8) := by
  obtain ⟨ds, y, rfl, hd⟩ := split_last es _ h
  unfold sealed
  rw [zip_snoc _ _ _ _ hd.symm, fits_snoc, sum_xor _ _ hd.symm, synd_snoc, Bool.eq_iff_iff]
  simp only [beq_iff_eq, decide_eq_true_eq, bv_xor_eq_zero]
  constructor
  · intro e
    have : sum xs ^^^ (sum xs ^^^ y) = sum xs ^^^ (sum xs ^^^ ⟨rev (run 0#8 ds)⟩) := by rw [e]
    rw [← UInt8.xor_assoc, ← UInt8.xor_assoc, UInt8.xor_self, UInt8.zero_xor, UInt8.zero_xor] at this
    exact congrArg UInt8.toBitVec this
  · intro e
    have : y = ⟨rev (run 0#8 ds)⟩ := UInt8.toBitVec_inj.1 e
    rw [← this]
theorem synd_xor (es fs : List UInt8) (n : Nat) (h : es.length = n + 1) (h' : fs.length = n + 1) : synd (List.zipWith (· ^^^ ·) es fs) = synd es ^^^ synd fs := by
  obtain ⟨ds, y, rfl, hd⟩ := split_last es _ h
  obtain ⟨ds', y', rfl, hd'⟩ := split_last fs _ h'
  rw [zip_snoc _ _ _ _ (by omega), synd_snoc, synd_snoc, synd_snoc, UInt8.toBitVec_xor]
  have := run_xor ds ds' (by omega) 0#8 0#8
  rw [BitVec.xor_self] at this
  rw [this, rev_xor]
  generalize y.toBitVec = a
  generalize y'.toBitVec = b
  generalize rev (run 0#8 ds) = c
  generalize rev (run 0#8 ds') = d
  rw [BitVec.xor_assoc a b, BitVec.xor_assoc a c, ← BitVec.xor_assoc b c, BitVec.xor_comm b c, BitVec.xor_assoc c b]
def bitU (m : Nat) : UInt8 := ⟨1#8 <<< m⟩
theorem synd_unit (n j m : Nat) (hj : j < n + 1) : synd (unit (n + 1) j (bitU m)) = mark (n - j) m := by
  by_cases e : j = n
  · subst e
    have : unit (j + 1) j (bitU m) = zeros j ++ [bitU m] := by
      unfold unit zeros
      rw [List.set_eq_take_append_cons_drop, if_pos (by simp)]
      simp [List.take_replicate]
    rw [this, synd_snoc, run_zz, show rev 0#8 = 0#8 by decide, BitVec.xor_zero, Nat.sub_self]
    rfl
  · have : unit (n + 1) j (bitU m) = unit n j (bitU m) ++ [0] := by
      unfold unit zeros
      rw [List.replicate_succ', List.set_append, if_pos (by simp; omega)]
    rw [this, synd_snoc, run_unit _ _ _ (by omega)]
    obtain ⟨d, hd⟩ : ∃ d, n - j = d + 1 := ⟨n - j - 1, by omega⟩
    rw [hd, show n - 1 - j = d by omega]
    show 0#8 ^^^ _ = _
    rw [BitVec.zero_xor]
    rfl

/-- one bit turned -/
def flip (xs : List UInt8) (i : Nat) : List UInt8 := xs.set (i / 8) (xs.getD (i / 8) 0 ^^^ bitU (i % 8))
theorem flip_eq (xs : List UInt8) (i : Nat) (h : i < 8 * xs.length) : flip xs i = List.zipWith (· ^^^ ·) xs (unit xs.length (i / 8) (bitU (i % 8))) := by
  rw [xor_unit _ _ _ (by omega)]
  unfold flip
  congr 1
  simp [List.getD, List.getElem?_eq_getElem (show i / 8 < xs.length by omega)]
theorem flip_length (xs : List UInt8) (i : Nat) : (flip xs i).length = xs.length := by simp [flip]
theorem sealed_length (xs : List UInt8) : (sealed xs).length = xs.length + 1 := by simp [sealed]
theorem fits_sealed (xs : List UInt8) : fits (sealed xs) = true := by unfold sealed; rw [fits_snoc]; simp
theorem one_law (xs : List UInt8) (i : Nat) (hn : xs.length ≤ 14) (h : i < 8 * (xs.length + 1)) : fits (flip (sealed xs) i) = false := by
  rw [flip_eq _ _ (by rw [sealed_length]; exact h), sealed_length, fits_err _ _ (by rw [unit_length]), synd_unit _ _ _ (by omega)]
  simpa using mark_ne _ _ (by omega) (by omega)
theorem two_law (xs : List UInt8) (i k : Nat) (hn : xs.length ≤ 14) (h : i < 8 * (xs.length + 1)) (h' : k < 8 * (xs.length + 1)) : fits (flip (flip (sealed xs) i) k) = decide (i = k) := by
  rw [flip_eq _ k (by rw [flip_length, sealed_length]; exact h'), flip_length, sealed_length, flip_eq _ i (by rw [sealed_length]; exact h), sealed_length]
  have e : ∀ a b c : List UInt8, List.zipWith (· ^^^ ·) (List.zipWith (· ^^^ ·) a b) c = List.zipWith (· ^^^ ·) a (List.zipWith (· ^^^ ·) b c) := by
    intro a
    induction a with
    | nil => intro b c; rfl
    | cons x a ih =>
      intro b c
      cases b with
      | nil => rfl
      | cons y b =>
        cases c with
        | nil => rfl
        | cons z c => simp only [List.zipWith_cons_cons, ih, UInt8.xor_assoc]
  rw [e, fits_err _ _ (by simp [unit_length]), synd_xor _ _ xs.length (unit_length _ _ _) (unit_length _ _ _), synd_unit _ _ _ (by omega), synd_unit _ _ _ (by omega), decide_eq_decide, bv_xor_eq_zero]
  constructor
  · intro h
    have := mark_inj _ _ _ _ (by omega) (by omega) (by omega) (by omega) h
    omega
  · rintro rfl; rfl
end Go.Proofs.YtplcdjdmkmdddaaDoor.Crc
