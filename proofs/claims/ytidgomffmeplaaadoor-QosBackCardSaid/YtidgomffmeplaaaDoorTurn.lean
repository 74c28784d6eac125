/-
  A bit of a slice's own bytes is turned: 'b[k/8] = b[k/8] ^ 1<<uint(k%8)'.
-/
import Derived.Test.YtidgomffmeplaaaDoorMem
namespace Go.Proofs.YtidgomffmeplaaaDoor
open Go.ChangeShapes Go.WideShapes Go.ChangeAt Go.RowKit
set_option linter.unusedVariables false

def tbit (m : Nat) : UInt8 := ⟨1#8 <<< m⟩
def tflip (xs : List UInt8) (i : Nat) : List UInt8 := xs.set (i / 8) (xs.getD (i / 8) 0 ^^^ tbit (i % 8))
theorem tflip_length (xs : List UInt8) (i : Nat) : (tflip xs i).length = xs.length := by simp [tflip]
theorem tbit_ne (m : Nat) (h : m < 8) : tbit m ≠ 0 := by
  rcases (show m = 0 ∨ m = 1 ∨ m = 2 ∨ m = 3 ∨ m = 4 ∨ m = 5 ∨ m = 6 ∨ m = 7 by omega) with rfl | rfl | rfl | rfl | rfl | rfl | rfl | rfl <;> decide
theorem tflip_ne (xs : List UInt8) (i : Nat) (h : i < 8 * xs.length) : tflip xs i ≠ xs := by
  intro e
  have hi : i / 8 < xs.length := by omega
  have e1 : (tflip xs i)[i / 8]? = xs[i / 8]? := by rw [e]
  unfold tflip at e1
  rw [List.getElem?_set_self hi, List.getD_eq_getElem?_getD, List.getElem?_eq_getElem hi] at e1
  simp only [Option.getD_some, Option.some.injEq] at e1
  have e2 : xs[i / 8] ^^^ (xs[i / 8] ^^^ tbit (i % 8)) = xs[i / 8] ^^^ xs[i / 8] := by rw [e1]
  rw [← UInt8.xor_assoc, UInt8.xor_self, UInt8.zero_xor] at e2
  exact tbit_ne _ (by omega) e2
theorem tbit_go (X : UInt8) (m : Nat) : bits .xor .u8 (X.toNat : Int) ((2 : Int) ^ m % (256 : Int)) = ((X ^^^ tbit m).toNat : Int) := by
  have e : ((2 : Int) ^ m % (256 : Int)) = ((tbit m).toNat : Int) := by
    have : (tbit m).toNat = 2 ^ m % 256 := by
      show (1#8 <<< m).toNat = _
      rw [BitVec.toNat_shiftLeft, Nat.shiftLeft_eq]
      simp
    rw [this]
    simp
  rw [e, u8_xor_go]
theorem tflip_open {w : World} {base n C g : Nat} {T : List UInt8} (h : OwnU8 w base (some ⟨g, 0, none⟩) n C T) (i : Nat) (hi : i < 8 * n) :
    ∃ X : UInt8, w.cell? ⟨g, i / 8, none⟩ = some (.int .u8 (X.toNat : Int)) ∧ w.frozen? ⟨g, i / 8, none⟩ = false ∧
      OwnU8 (w.setCell ⟨g, i / 8, none⟩ (.int .u8 (bits .xor .u8 (X.toNat : Int) ((2 : Int) ^ (i % 8) % (256 : Int))))) base (some ⟨g, 0, none⟩) n C (tflip T i) := by
  obtain ⟨g', hg', _, _, hcell, hfro, hset⟩ := h.open_ (by omega)
  injection hg' with hg'
  injection hg' with hg'
  subst hg'
  have hx : i / 8 < T.length := by rw [h.len]; omega
  refine ⟨T[i / 8]'hx, hcell _ hx, hfro _, ?_⟩
  have := hset (i / 8) (T[i / 8]'hx ^^^ tbit (i % 8))
  rw [tbit_go]
  unfold tflip
  rw [List.getD_eq_getElem?_getD, List.getElem?_eq_getElem hx]
  exact this
/-- a struct laid into a block just made: what was there stays -/
theorem OwnU8.stored {w w' : World} {base n C : Nat} {A : Option Addr} {xs : List UInt8} {o : Obj} (h : OwnU8 w base A n C xs) (hg : (w.alloc o).grownBy w' (some w.heap.size)) : OwnU8 w' base A n C xs :=
  OwnU8.keep (h.alloc o) hg (by right; intro e; have := (h.blk_ge _ e).2; omega)
theorem Below.stored {B : Nat} {v w w' : World} {o : Obj} (h : Below B v w) (hB : B ≤ w.heap.size) (hg : (w.alloc o).grownBy w' (some w.heap.size)) : Below B v w' :=
  Below.grown (h.alloc hB o) hg (by simp; omega) (by simp; omega)
end Go.Proofs.YtidgomffmeplaaaDoor
