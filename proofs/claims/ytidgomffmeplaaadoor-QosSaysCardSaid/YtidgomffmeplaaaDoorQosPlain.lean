/-
  Reading a data frame in plain terms.
-/
import Derived.Test.YtidgomffmeplaaaDoorQosBase
namespace Go.Proofs.YtidgomffmeplaaaDoor
open Go.ChangeShapes Go.WideShapes Go.ChangeAt Go.RowKit
set_option linter.unusedVariables false

def rdA (xs : List UInt8) (i : Nat) : UInt8 := xs.getD (4 + i) 0
/-- is the head's form as it has to be? -/
def shapeOk (x1 x2 x3 x22 x24 x25 : UInt8) : Bool :=
  (x1 == 2 || x1 == 10 || x1 == 34 || x1 == 42) && x2 == 0 && x3 == 0 && x25 == 0 && x22.toNat % 16 == 0 && (x24.toNat < 8 || (16 ≤ x24.toNat && x24.toNat < 24))
def rdErr (xs : List UInt8) : Option Nat :=
  if xs.length < 26 then some 0 else if xs.getD 0 0 ≠ 0x88 then some 4
  else if shapeOk (xs.getD 1 0) (xs.getD 2 0) (xs.getD 3 0) (xs.getD 22 0) (xs.getD 24 0) (xs.getD 25 0) = false then some 1
  else if 1526 < xs.length then some 2 else none
def rdTid (x24 : UInt8) : Int := (x24.toNat % 16 : Nat)
def rdSeq (x22 x23 : UInt8) : Int := ((x22.toNat + 256 * x23.toNat) / 16 : Nat)
def bitAt (x : UInt8) (k : Nat) : Bool := x.toNat / 2 ^ k % 2 == 1

/-! ### the walk's own forms -/
theorem form1 : ∀ x : Fin 256, (!(bits .andNot .u8 ((x.val : Nat) : Int) 40 == 2)) = !((UInt8.ofNat x.val) == 2 || (UInt8.ofNat x.val) == 10 || (UInt8.ofNat x.val) == 34 || (UInt8.ofNat x.val) == 42) := by decide +kernel
theorem form24 : ∀ x : Fin 256, decide (8 ≤ bits .andNot .u8 ((x.val : Nat) : Int) 16) = !(decide (x.val < 8) || (decide (16 ≤ x.val) && decide (x.val < 24))) := by decide +kernel
theorem form24v : ∀ x : Fin 256, (x.val < 8 ∨ (16 ≤ x.val ∧ x.val < 24)) → bits .andNot .u8 ((x.val : Nat) : Int) 16 = ((x.val % 16 : Nat) : Int) := by decide +kernel
theorem formbit (k v : Nat) (hk : (k, v) ∈ [(3, 8), (5, 32), (4, 16)]) : ∀ x : Fin 256, decide (0 < bits .and .u8 ((x.val : Nat) : Int) (v : Int)) = (x.val / 2 ^ k % 2 == 1) := by
  simp only [List.mem_cons, Prod.mk.injEq, List.not_mem_nil, or_false] at hk
  rcases hk with ⟨rfl, rfl⟩ | ⟨rfl, rfl⟩ | ⟨rfl, rfl⟩ <;> decide +kernel
theorem of_fin {p : Nat → UInt8 → Prop} (h : ∀ x : Fin 256, p x.val (UInt8.ofNat x.val)) (x : UInt8) : p x.toNat x := by
  have := h ⟨x.toNat, UInt8.toNat_lt x⟩
  simpa using this
theorem go_form1 (x : UInt8) : (!(bits .andNot .u8 (x.toNat : Int) 40 == 2)) = !(x == 2 || x == 10 || x == 34 || x == 42) :=
  of_fin (p := fun n x => (!(bits .andNot .u8 (n : Int) 40 == 2)) = !(x == 2 || x == 10 || x == 34 || x == 42)) form1 x
theorem go_form24 (x : UInt8) : decide (8 ≤ bits .andNot .u8 (x.toNat : Int) 16) = !(decide (x.toNat < 8) || (decide (16 ≤ x.toNat) && decide (x.toNat < 24))) :=
  of_fin (p := fun n _ => decide (8 ≤ bits .andNot .u8 (n : Int) 16) = !(decide (n < 8) || (decide (16 ≤ n) && decide (n < 24)))) form24 x
theorem go_form24v (x : UInt8) (h : x.toNat < 8 ∨ (16 ≤ x.toNat ∧ x.toNat < 24)) : bits .andNot .u8 (x.toNat : Int) 16 = ((x.toNat % 16 : Nat) : Int) :=
  of_fin (p := fun n _ => (n < 8 ∨ (16 ≤ n ∧ n < 24)) → bits .andNot .u8 (n : Int) 16 = ((n % 16 : Nat) : Int)) form24v x h
theorem go_bit3 (x : UInt8) : decide (0 < bits .and .u8 (x.toNat : Int) 8) = bitAt x 3 := of_fin (p := fun n _ => decide (0 < bits .and .u8 (n : Int) 8) = (n / 2 ^ 3 % 2 == 1)) (formbit 3 8 (by decide)) x
theorem go_bit5 (x : UInt8) : decide (0 < bits .and .u8 (x.toNat : Int) 32) = bitAt x 5 := of_fin (p := fun n _ => decide (0 < bits .and .u8 (n : Int) 32) = (n / 2 ^ 5 % 2 == 1)) (formbit 5 32 (by decide)) x
theorem go_bit4 (x : UInt8) : decide (0 < bits .and .u8 (x.toNat : Int) 16) = bitAt x 4 := of_fin (p := fun n _ => decide (0 < bits .and .u8 (n : Int) 16) = (n / 2 ^ 4 % 2 == 1)) (formbit 4 16 (by decide)) x
theorem go_join (x y : UInt8) : bits .or .i64 (x.toNat : Int) ((y.toNat : Int) * 256) = ((x.toNat + 256 * y.toNat : Nat) : Int) := by
  have hx := UInt8.toNat_lt x
  have hy := UInt8.toNat_lt y
  have e : ((y.toNat : Int) * 256) = ((y.toNat * 256 : Nat) : Int) := by simp
  have ea : BitVec.ofInt 64 ((x.toNat : Nat) : Int) = BitVec.ofNat 64 x.toNat := by rw [BitVec.ofInt_natCast]
  have eb : BitVec.ofInt 64 ((y.toNat * 256 : Nat) : Int) = BitVec.ofNat 64 (y.toNat * 256) := by rw [BitVec.ofInt_natCast]
  have ta : (BitVec.ofNat 64 x.toNat).toNat = x.toNat := by rw [BitVec.toNat_ofNat]; omega
  have tb : (BitVec.ofNat 64 (y.toNat * 256)).toNat = y.toNat * 256 := by rw [BitVec.toNat_ofNat]; omega
  rw [e]
  show IntKind.i64.wrap ((BitVec.ofInt 64 ((x.toNat : Nat) : Int) ||| BitVec.ofInt 64 ((y.toNat * 256 : Nat) : Int)).toNat : Int) = _
  rw [ea, eb, BitVec.toNat_or, ta, tb, Nat.or_comm]
  have : y.toNat * 256 ||| x.toNat = y.toNat * 256 + x.toNat := by
    have := Nat.two_pow_add_eq_or_of_lt (i := 8) (show x.toNat < 2 ^ 8 by omega) y.toNat
    rw [show 2 ^ 8 * y.toNat = y.toNat * 256 by omega] at this
    exact this.symm
  rw [this, IntWalk.i64_in _ (by omega)]
  omega
end Go.Proofs.YtidgomffmeplaaaDoor
