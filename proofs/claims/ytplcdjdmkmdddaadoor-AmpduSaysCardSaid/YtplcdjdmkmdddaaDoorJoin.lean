/-
  Two bytes as a number; a slice from a place on.
-/
import Derived.Test.YtplcdjdmkmdddaaDoorMem
namespace Go.Proofs.YtplcdjdmkmdddaaDoor
open Go.ChangeShapes Go.WideShapes Go.ChangeAt Go.RowKit
set_option linter.unusedVariables false

theorem go_join (x y : UInt8) : bits .or .i64 (x.toNat : Int) ((y.toNat : Int) * 256) = ((x.toNat + 256 * y.toNat : Nat) : Int) := by
  have hx := UInt8.toNat_lt x
  have hy := UInt8.toNat_lt y
  have e : ((y.toNat : Int) * 256) = ((y.toNat * 256 : Nat) : Int) := by simp
  have ea : BitVec.ofInt 64 ((x.toNat : Nat) : Int) = BitVec.ofNat 64 x.toNat := by rw [BitVec.ofInt_natCast]
  have eb : BitVec.ofInt 64 ((y.toNat * 256 : Nat) : Int) = BitVec.ofNat 64 (y.toNat * 256) := by rw [BitVec.ofInt_natCast]
  have ta : (BitVec.ofNat 64 x.toNat).toNat = x.toNat := by rw [BitVec.toNat_ofNat]; omega
  have tb : (BitVec.ofNat 64 (y.toNat * 256)).toNat = y.toNat * 256 := by rw [BitVec.toNat_ofNat]; omega
  rw [e]
  show IntKind.i64.wrap ((BitVec.ofInt 64 ((x.toNat : Nat) : Int) ||| BitVec.ofInt 64 ((y.toNat * 256 : Nat) : Int)).toNat : Int) = _
  rw [ea, eb, BitVec.toNat_or, ta, tb, Nat.or_comm]
  have : y.toNat * 256 ||| x.toNat = y.toNat * 256 + x.toNat := by
    have := Nat.two_pow_add_eq_or_of_lt (i := 8) (show x.toNat < 2 ^ 8 by omega) y.toNat
    rw [show 2 ^ 8 * y.toNat = y.toNat * 256 by omega] at this
    exact this.symm
  rw [this, IntWalk.i64_in _ (by omega)]
  omega
theorem Row.from_ {w : World} {b off len cap : Nat} {vs : List Value} (h : Row w 1 (some ⟨b, off, none⟩) len cap vs) {n : Nat} (hn : n ≤ len) : Row w 1 (some ⟨b, off + n, none⟩) (len - n) (cap - n) (vs.drop n) := by
  obtain ⟨h1, h2, h3, h4, h5⟩ := h
  refine ⟨by simp; omega, by omega, by omega, by simp, fun hl => ?_⟩
  obtain ⟨b', off', e, hb, hc⟩ := h5 (by omega)
  obtain ⟨rfl, rfl⟩ : b = b' ∧ off = off' := by injection e with e; injection e with e1 e2 e3; exact ⟨e1, e2⟩
  exact ⟨b, off + n, rfl, hb, fun i u hu => by rw [List.getElem?_drop] at hu; rw [Nat.add_assoc]; exact hc _ u hu⟩

theorem Row.cut {w : World} {b off len cap : Nat} {vs : List Value} (h : Row w 1 (some ⟨b, off, none⟩) len cap vs) {n : Nat} (hn : n ≤ len) :
    Row w 1 (if cap = n then some ⟨b, off, none⟩ else some ⟨b, off + n, none⟩) (len - n) (cap - n) (vs.drop n) := by
  by_cases hc : cap = n
  · rw [if_pos hc]
    have h1 := h.1
    have h2 := h.len_cap
    exact ⟨by simp; omega, by omega, by omega, by simp, fun hl => by omega⟩
  · rw [if_neg hc]; exact h.from_ hn

end Go.Proofs.YtplcdjdmkmdddaaDoor
