/-
  What a book of packets computes, in plain Lean. A place is a pair: class, reason.
-/
import Derived.Test.YthppbicfemgoaaaDoorOwn
namespace Go.Proofs.YthppbicfemgoaaaDoor
open Go.ChangeShapes Go.WideShapes Go.ChangeAt Go.RowKit
set_option linter.unusedVariables false

namespace Count
abbrev Pl := Int × Int
def bkF (p : Pl) : List Value := [.int .i64 p.1, .int .i64 p.2]
def bkC (L : List Pl) : List Value := L.flatMap bkF
theorem bkF_len (p : Pl) : (bkF p).length = 2 := rfl
theorem bkC_len (L : List Pl) : (bkC L).length = L.length * 2 := flat_len bkF 2 bkF_len L
theorem bkC_get0 {L : List Pl} {k : Nat} {p : Pl} (h : L[k]? = some p) : (bkC L)[k * 2]? = some (.int .i64 p.1) := flat_get bkF 2 bkF_len L k 0 (by omega) h rfl
theorem bkC_get1 {L : List Pl} {k : Nat} {p : Pl} (h : L[k]? = some p) : (bkC L)[k * 2 + 1]? = some (.int .i64 p.2) := flat_get bkF 2 bkF_len L k 1 (by omega) h rfl
theorem bkC_set0 {L : List Pl} {k : Nat} {p : Pl} (h : L[k]? = some p) (c : Int) : (bkC L).set (k * 2) (.int .i64 c) = bkC (L.set k (c, p.2)) := flat_set bkF 2 bkF_len L k 0 (by omega) h rfl
theorem bkC_set1 {L : List Pl} {k : Nat} {p : Pl} (h : L[k]? = some p) (r : Int) : (bkC L).set (k * 2 + 1) (.int .i64 r) = bkC (L.set k (p.1, r)) := flat_set bkF 2 bkF_len L k 1 (by omega) h rfl
theorem bkC_snoc (L : List Pl) (p : Pl) : bkC (L ++ [p]) = bkC L ++ [.int .i64 p.1, .int .i64 p.2] := by simp [bkC, bkF]

def isC (c : Int) (p : Pl) : Bool := p.1 == c
def isR (r : Int) (p : Pl) : Bool := p.1 == 4 && p.2 == r
def nC (c : Int) (L : List Pl) : Nat := L.countP (isC c)
def nR (r : Int) (L : List Pl) : Nat := L.countP (isR r)
def over (p : Pl) : Bool := p.1 == 3 || p.1 == 4
def good (p : Pl) : Prop := 1 ≤ p.1 ∧ p.1 ≤ 4 ∧ (p.1 = 4 → 1 ≤ p.2 ∧ p.2 ≤ 5)

theorem nC_sum (L : List Pl) (h : ∀ p ∈ L, good p) : nC 1 L + nC 2 L + nC 3 L + nC 4 L = L.length := by
  induction L with
  | nil => rfl
  | cons p L ih =>
    have ih' := ih fun q hq => h q (List.mem_cons_of_mem _ hq)
    obtain ⟨h1, h2, _⟩ := h p (List.mem_cons_self ..)
    simp only [nC] at ih' ⊢
    simp only [List.countP_cons, List.length_cons]
    rcases (show p.1 = 1 ∨ p.1 = 2 ∨ p.1 = 3 ∨ p.1 = 4 by omega) with e | e | e | e <;> simp [isC, e] <;> omega
theorem nR_sum (L : List Pl) (h : ∀ p ∈ L, good p) : nR 1 L + nR 2 L + nR 3 L + nR 4 L + nR 5 L = nC 4 L := by
  induction L with
  | nil => rfl
  | cons p L ih =>
    have ih' := ih fun q hq => h q (List.mem_cons_of_mem _ hq)
    obtain ⟨h1, h2, h3⟩ := h p (List.mem_cons_self ..)
    simp only [nR, nC] at ih' ⊢
    simp only [List.countP_cons]
    by_cases e : p.1 = 4
    · obtain ⟨h4, h5⟩ := h3 e
      rcases (show p.2 = 1 ∨ p.2 = 2 ∨ p.2 = 3 ∨ p.2 = 4 ∨ p.2 = 5 by omega) with e2 | e2 | e2 | e2 | e2 <;> simp [isC, isR, e, e2] <;> omega
    · simp [isC, isR, e]; omega
theorem count_take {f : Pl → Bool} {L : List Pl} {k : Nat} {p : Pl} (h : L[k]? = some p) : (L.take (k + 1)).countP f = (L.take k).countP f + (if f p then 1 else 0) := by
  obtain ⟨hk, rfl⟩ := List.getElem?_eq_some_iff.1 h
  rw [List.take_succ_eq_append_getElem hk, List.countP_append, List.countP_cons, List.countP_nil]
  simp
theorem count_le (f : Pl → Bool) (L : List Pl) (k : Nat) : (L.take k).countP f ≤ k := Nat.le_trans List.countP_le_length (by simp; omega)

/-- what Move says: the error's number, and the book behind it -/
def mvR (L : List Pl) (id c : Int) : Option Nat :=
  if id < 1 ∨ id > L.length then some 6
  else if c < 1 ∨ c > 3 then some 2
  else match L[(id - 1).toNat]? with
    | none => some 6
    | some p => if over p = true ∨ c = 1 ∨ (c = 3 ∧ p.1 = 1) then some 9 else none
def mvL (L : List Pl) (id c : Int) : List Pl :=
  match mvR L id c with
  | none => match L[(id - 1).toNat]? with | some p => L.set (id - 1).toNat (c, p.2) | none => L
  | some _ => L
def dpR (L : List Pl) (id r : Int) : Option Nat :=
  if id < 1 ∨ id > L.length then some 6
  else if r < 1 ∨ r > 5 then some 2
  else match L[(id - 1).toNat]? with
    | none => some 6
    | some p => if over p = true then some 9 else none
def dpL (L : List Pl) (id r : Int) : List Pl :=
  match dpR L id r with
  | none => L.set (id - 1).toNat (4, r)
  | some _ => L
end Count
end Go.Proofs.YthppbicfemgoaaaDoor
