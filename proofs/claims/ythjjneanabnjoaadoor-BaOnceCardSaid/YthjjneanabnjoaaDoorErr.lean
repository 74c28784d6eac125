/-
  api's errors in memory, and two of them held against one another.
-/
import Derived.Test.YthjjneanabnjoaaDoorBase
import Derived.LaidEql
import Derived.WideLaws
namespace Go.Proofs.YthjjneanabnjoaaDoor
open Go.ChangeShapes Go.WideShapes Go.ChangeAt Go.RowKit
set_option linter.unusedVariables false

/-- where the errors lie, in api's order: End Shape Range Many Kind Sum None Twice Full State Seq Long Word Number -/
def errG (i : Nat) : Nat := [5, 6, 0, 7, 8, 9, 3, 10,
  2, 1, 4, 11, 12, 13].getD i 0
def errV (E : Nat → Addr) (i : Nat) : Value := .iface 115 (.pointer (some (E i)))
/-- no error, or one of api's -/
def errO (E : Nat → Addr) : Option Nat → Value
  | none => .nilIface
  | some i => errV E i
/-- an error's number as the references have it -/
def errCode : Option Nat → Int
  | none => 0
  | some i => 101 + (i : Int)
def allErr : List Nat := [0, 1, 2, 3, 4, 5, 6, 7, 8, 9, 10, 11, 12, 13]

structure Errs (S : List Nat) (w : World) (E : Nat → Addr) : Prop where
  cell : ∀ i, i ∈ S → w.cell? ⟨errG i, 0, none⟩ = some (errV E i)
  blk : ∀ i, i ∈ S → ∃ c t, w.heap[(E i).block]? = some (.cells c t (0, 0))
  ne : ∀ i, i ∈ S → ∀ j, j ∈ S → i ≠ j → E i ≠ E j

theorem Errs.sub {S T : List Nat} {w : World} {E : Nat → Addr} (h : Errs S w E) (hs : ∀ i, i ∈ T → i ∈ S) : Errs T w E :=
  ⟨fun i hi => h.cell i (hs i hi), fun i hi => h.blk i (hs i hi), fun i hi j hj => h.ne i (hs i hi) j (hs j hj)⟩
theorem Errs.keep {S : List Nat} {w w' : World} {E : Nat → Addr} (h : Errs S w E) (hk : ∀ b, b < w.heap.size → w'.heap[b]? = w.heap[b]?) : Errs S w' E := by
  refine ⟨fun i hi => ?_, fun i hi => ?_, h.ne⟩
  · rw [World.cell?_of_block (hk _ (World.block_lt_of_cell? w _ (h.cell i hi)))]
    exact h.cell i hi
  · obtain ⟨c, t, hb⟩ := h.blk i hi
    exact ⟨c, t, by rw [hk _ (Array.getElem?_eq_some_iff.1 hb).1]; exact hb⟩
theorem Errs.below {S : List Nat} {w w' : World} {E : Nat → Addr} {B : Nat} (h : Errs S w E) (hb : Below B w w') (hB : w.heap.size ≤ B) : Errs S w' E :=
  h.keep fun b hlt => hb.block b (by omega)
theorem Errs.drewN {S : List Nat} {w : World} {E : Nat → Addr} (h : Errs S w E) (n : Nat) : Errs S (w.drewN n) E := ⟨h.cell, h.blk, h.ne⟩
theorem Errs.drew {S : List Nat} {w : World} {E : Nat → Addr} (h : Errs S w E) : Errs S w.drew E := ⟨h.cell, h.blk, h.ne⟩
theorem Errs.alloc {S : List Nat} {w : World} {E : Nat → Addr} (h : Errs S w E) (o : Obj) : Errs S (w.alloc o) E := h.keep fun b hlt => Below.heap_alloc w o b hlt
/-- a cell of a variable, spelt for the walk -/
theorem Errs.at_ {S : List Nat} {w : World} {E : Nat → Addr} (h : Errs S w E) (i g : Nat) (hi : i ∈ S) (hg : errG i = g) :
    w.cell? ⟨g, 0, none⟩ = some (.iface 115 (.pointer (some (E i)))) := by
  subst hg
  exact h.cell i hi

theorem err_comparable : (Tryd.prog.info? 115).map (·.comparable) = some true := by kernel_rfl
theorem err_size : (Tryd.prog.info? 131).map (·.size) = some 1 := by kernel_rfl

theorem err_same (a : Addr) (w : World) : (binOp .eql 26 (.iface 115 (.pointer (some a))) (.iface 115 (.pointer (some a)))).run Tryd.prog w = .ok (.bool true) w := by
  obtain ⟨i, hi, hc⟩ := Option.map_eq_some_iff.1 err_comparable
  obtain ⟨j, hj, _⟩ := Option.map_eq_some_iff.1 err_size
  exact run_eql_iface_ptr_same w a Tryd.underlying26 Tryd.underlying115 hi hc hj
theorem err_other {S : List Nat} {w : World} {E : Nat → Addr} (h : Errs S w E) {i j : Nat} (hi : i ∈ S) (hj : j ∈ S) (hij : i ≠ j) :
    (binOp .eql 26 (.iface 115 (.pointer (some (E i)))) (.iface 115 (.pointer (some (E j))))).run Tryd.prog w = .ok (.bool false) w := by
  obtain ⟨ti, h1, hc⟩ := Option.map_eq_some_iff.1 err_comparable
  obtain ⟨tj, h2, hs⟩ := Option.map_eq_some_iff.1 err_size
  obtain ⟨c1, t1, b1⟩ := h.blk i hi
  obtain ⟨c2, t2, b2⟩ := h.blk j hj
  exact run_eql_iface_ptr_other w Tryd.underlying26 Tryd.underlying115 h1 hc h2 (by rw [hs]; decide) (h.ne i hi j hj hij) b1 b2

/-- an error held against nil -/
theorem err_isnil (E : Nat → Addr) (o : Option Nat) (w : World) : (binOp .eql 26 (errO E o) .nilIface).run Tryd.prog w = .ok (.bool (decide (o = none))) w := by
  rcases o with _ | i
  · simp [errO, go_sem]
  · simp [errO, errV, go_sem]
theorem err_nonnil (E : Nat → Addr) (o : Option Nat) (w : World) : (binOp .neq 26 (errO E o) .nilIface).run Tryd.prog w = .ok (.bool (!decide (o = none))) w := by
  rcases o with _ | i
  · simp [errO, go_sem]
  · simp [errO, errV, go_sem]
theorem err_guard (E : Nat → Addr) (o : Option Nat) (x : Operand) (v : Value) (w : World) : (eqGuard .eql 26 x (.const v) (errO E o) .nilIface).run Tryd.prog w = .ok () w := by
  rcases o with _ | i
  · cases x <;> rfl
  · rfl
theorem err_guard' (E : Nat → Addr) (o : Option Nat) (x : Operand) (v : Value) (w : World) : (eqGuard .neq 26 x (.const v) (errO E o) .nilIface).run Tryd.prog w = .ok () w := by
  rcases o with _ | i
  · cases x <;> rfl
  · rfl
end Go.Proofs.YthjjneanabnjoaaDoor
