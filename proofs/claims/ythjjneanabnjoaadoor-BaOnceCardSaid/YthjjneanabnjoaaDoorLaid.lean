/-
  api's errors as the rows list them: from the list to their cells; a world for the witness.
-/
import Derived.Test.YthjjneanabnjoaaDoorErr
import Derived.LaidLaws
import Derived.LaidHandle
import Derived.MakeChecks
import Derived.Stop.ErrReads
import Derived.Stop.Joined
import Derived.Deep.DeepHandedRow
import Derived.Deep.DeepWitnessRowRef
namespace Go.Proofs.YthjjneanabnjoaaDoor
open Go.ChangeShapes Go.WideShapes Go.ChangeAt Go.RowKit
set_option linter.unusedVariables false

theorem err_name (u : TypeId) (h : Tryd.prog.typeName? 3 u = some "*errors.errorString") : u = 115 := by
  have e : "*" ++ "errors.errorString" = "*errors.errorString" := by decide
  exact typeName_ptr_named (nm := "errors.errorString") (by rw [e]; kernel_rfl) (by kernel_rfl) (by decide) u (by rw [e]; exact h)
theorem err_cells : Tryd.prog.cellsOf 131 = 1 := by kernel_rfl
theorem str_cells : Tryd.prog.cellsOf 9 = 1 := by kernel_rfl

set_option maxRecDepth 100000 in
/-- the first of the list -/
theorem laid_first {n : String} {text : List UInt8} {r : List (String × DataW Unit)} {W : World} {g : Nat}
    (h : laidMet Tryd.prog ((n, .iface "*errors.errorString" (.ptr (.agg [.lit (.string text)]))) :: r) W)
    (hg : Tryd.prog.globalNamed n = some g) (ht : (Tryd.prog.globals[g]?).map (·.type) = some 26) :
    ∃ (a : Addr) (s : ByteArray), W.cell? ⟨g, 0, none⟩ = some (.iface 115 (.pointer (some a))) ∧ W.cell? a = some (.string s) ∧ s.data.toList = text ∧ ∃ c t, W.heap[a.block]? = some (.cells c t (0, 0)) := by
  obtain ⟨ps, ⟨g0, t0, cs0, f0, p0, q0, hg0, ht0, hv0, hd0, hq, e0⟩, _, hrows⟩ := h
  obtain rfl := Option.some.inj (hg.symm.trans hg0)
  obtain rfl := Option.some.inj (ht.symm.trans ht0)
  subst e0
  obtain ⟨l0⟩ := cs0
  have ok0 : ∀ u v, l0 = [.iface u v] → Value.okWide Tryd.prog W .any 0 u v := fun u v e => by
    subst e
    exact (hrows g 0 (by simp [MemPlace.row])).2 u v (by simpa using World.var?_cell hg0 hv0 0)
  obtain ⟨a0, s0, rfl, hc0, hs0, hz0, hp0⟩ := errorString_of_trod Tryd.underlying26 err_name Tryd.underlying115 Tryd.underlying131 rfl rfl Tryd.underlying9 err_cells str_cells hd0 ok0
  refine ⟨a0, s0, by simpa using World.var?_cell hg0 hv0 0, hc0, hs0, ?_⟩
  subst hp0
  exact (hrows a0.block a0.off (by simp [MemPlace.row])).1

def errName (i : Nat) : String := ["muezzin/api.ErrEnd", "muezzin/api.ErrShape", "muezzin/api.ErrRange", "muezzin/api.ErrMany", "muezzin/api.ErrKind", "muezzin/api.ErrSum", "muezzin/api.ErrNone", "muezzin/api.ErrTwice",
  "muezzin/api.ErrFull", "muezzin/api.ErrState", "muezzin/api.ErrSeq", "muezzin/api.ErrLong", "muezzin/api.ErrWord", "muezzin/api.ErrNumber"].getD i ""
theorem errName_global : ∀ i, i ∈ allErr → Tryd.prog.globalNamed (errName i) = some (errG i) ∧ (Tryd.prog.globals[errG i]?).map (·.type) = some 26 := by
  intro i hi
  simp only [allErr, List.mem_cons, List.not_mem_nil, or_false] at hi
  rcases hi with rfl | rfl | rfl | rfl | rfl | rfl | rfl | rfl | rfl | rfl | rfl | rfl | rfl | rfl <;> exact ⟨by kernel_rfl, by kernel_rfl⟩

/-- what a list of errors, each with its text, gives -/
theorem laid_each {text : Nat → List UInt8} {W : World} : ∀ (L : List Nat), (∀ i, i ∈ L → i ∈ allErr) →
    laidMet Tryd.prog (L.map fun i => (errName i, .iface "*errors.errorString" (.ptr (.agg [.lit (.string (text i))])))) W →
    ∀ i, i ∈ L → ∃ (a : Addr) (s : ByteArray), W.cell? ⟨errG i, 0, none⟩ = some (.iface 115 (.pointer (some a))) ∧ W.cell? a = some (.string s) ∧ s.data.toList = text i ∧ ∃ c t, W.heap[a.block]? = some (.cells c t (0, 0)) := by
  intro L
  induction L with
  | nil => intro _ _ i hi; cases hi
  | cons j L ih =>
    intro hL h i hi
    obtain ⟨hg, ht⟩ := errName_global j (hL j (List.mem_cons_self ..))
    have h1 := laid_first h hg ht
    rcases List.mem_cons.1 hi with rfl | hi
    · exact h1
    · refine ih (fun i hi => hL i (List.mem_cons_of_mem _ hi)) ?_ i hi
      obtain ⟨ps, hv, hnd, hrows⟩ := h
      obtain ⟨g, t, cs, fuel, p, q, _, _, _, _, hq, rfl⟩ := hv
      exact ⟨q, hq, List.Nodup.sublist (List.sublist_append_right _ _) hnd, fun b off hm => hrows b off (List.mem_append_right _ hm)⟩

/-- THE LIST GIVES THE ERRORS -/
theorem errs_of_laid {text : Nat → List UInt8} {W : World} (L : List Nat) (hL : ∀ i, i ∈ L → i ∈ allErr) (hinj : ∀ i, i ∈ L → ∀ j, j ∈ L → text i = text j → i = j)
    (h : laidMet Tryd.prog (L.map fun i => (errName i, .iface "*errors.errorString" (.ptr (.agg [.lit (.string (text i))])))) W) : ∃ E, Errs L W E := by
  have h1 := laid_each L hL h
  have h2 : ∀ i, ∃ a : Addr, i ∈ L → ∃ s : ByteArray, W.cell? ⟨errG i, 0, none⟩ = some (.iface 115 (.pointer (some a))) ∧ W.cell? a = some (.string s) ∧ s.data.toList = text i ∧ ∃ c t, W.heap[a.block]? = some (.cells c t (0, 0)) := by
    intro i
    by_cases hi : i ∈ L
    · obtain ⟨a, ha⟩ := h1 i hi
      exact ⟨a, fun _ => ha⟩
    · exact ⟨default, fun h => absurd h hi⟩
  refine ⟨fun i => (h2 i).choose, fun i hi => ?_, fun i hi => ?_, fun i hi j hj hij e => ?_⟩
  · obtain ⟨s, h3, _⟩ := (h2 i).choose_spec hi
    exact h3
  · obtain ⟨s, _, _, _, h3⟩ := (h2 i).choose_spec hi
    exact h3
  · obtain ⟨s, _, h3, h4, _⟩ := (h2 i).choose_spec hi
    obtain ⟨s', _, h3', h4', _⟩ := (h2 j).choose_spec hj
    apply hij
    apply hinj i hi j hj
    have e' : (h2 i).choose = (h2 j).choose := e
    rw [e', h3'] at h3
    injection h3 with h3
    injection h3 with h3
    rw [← h4, ← h4', h3]

/-- the texts, out of a row's list -/
def textOf (l : List (String × DataW Unit)) (i : Nat) : List UInt8 :=
  match (l.find? fun x => x.1 == errName i) with
  | some (_, .iface _ (.ptr (.agg [.lit (.string t)]))) => t
  | _ => []

noncomputable def low : Nat := (World.holding Tryd.prog default ⟨#[], #[], []⟩).heap.size
/-- a world that meets the condition: each error points to a text of its own -/
noncomputable def laidWorld (l : List (String × DataW Unit)) (os : Os) : World :=
  let w0 := World.holding Tryd.prog os ⟨(allErr.map fun i => Obj.cells #[.string ⟨(textOf l i).toArray⟩] 131).toArray, #[], []⟩
  { w0 with heap := allErr.foldl (fun h i => h.modify (errG i) fun
      | .cells _ t frozen => .cells #[.iface 115 (.pointer (some ⟨low + i, 0, none⟩))] t frozen
      | o => o) w0.heap }
end Go.Proofs.YthjjneanabnjoaaDoor
