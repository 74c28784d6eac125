/-
  Struct arguments of plain integers: from their reading to their cells.
-/
import Derived.Test.YtnndmpanopnncaaBase
import Derived.OpenShut
namespace Go.Proofs.Ytnndmpanopnncaa
open Go.ChangeShapes Go.WideShapes Go.ChangeAt Go.RowKit
set_option linter.unusedVariables false

section
variable {H : Type} {enc : TypeId × Value → H} {w : World} {base : Nat} {sp : Nat → Bool} {held : Bool}

theorem open_limits {b0 : Nat} {v : Value} {d : DataW H} {ps : List MemPlace} (hval : Value.okWide Try.prog w .any b0 25 v) (hd : DataW.Trod enc Try.prog w base (fun _ => true) held 25 v d ps) :
    ∃ a0 a1 a2 : Int, v = .agg #[.int .i64 a0, .int .i64 a1, .int .i64 a2] ∧ (Lit.int .i64 a0).wf = true ∧ (Lit.int .i64 a1).wf = true ∧ (Lit.int .i64 a2).wf = true := by
  unfold Value.okWide at hval
  rw [Try.underlying25] at hval
  obtain ⟨cs, rfl, hsz, _⟩ := hval
  obtain ⟨fuel, hf⟩ := hd
  obtain ⟨l⟩ := cs
  have hf : DataW.trod enc Try.prog w base (fun _ => true) held fuel 25 l = some (d, ps) := hf
  have hsz : l.length = 3 := hsz.trans (by kernel_rfl)
  obtain ⟨xs, k, _, _, _, hlen, hfld⟩ := DataW.trod_struct Try.underlying25 hf
  have hlen : xs.length = 3 := hlen
  match l, hsz with
  | [c0, c1, c2], _ =>
  have g : ∀ i, i < 3 → ∃ y, xs[i]? = some y := fun i hi => ⟨_, List.getElem?_eq_getElem (by omega)⟩
  have f0 : DataW.trod enc Try.prog w base (fun _ => true) held k 3 (([c0, c1, c2].drop 0).take (Try.prog.cellsOf 3)) = xs[0]? := hfld 0 _ rfl
  rw [show Try.prog.cellsOf 3 = 1 by kernel_rfl] at f0
  obtain ⟨y0, e0⟩ := g 0 (by omega)
  rw [e0] at f0
  obtain ⟨z0, q0, _, w0⟩ := DataW.trod_int Try.underlying3 f0
  have q0' : c0 = .int .i64 z0 := by simpa using q0
  have f1 : DataW.trod enc Try.prog w base (fun _ => true) held k 3 (([c0, c1, c2].drop 1).take (Try.prog.cellsOf 3)) = xs[1]? := hfld 1 _ rfl
  rw [show Try.prog.cellsOf 3 = 1 by kernel_rfl] at f1
  obtain ⟨y1, e1⟩ := g 1 (by omega)
  rw [e1] at f1
  obtain ⟨z1, q1, _, w1⟩ := DataW.trod_int Try.underlying3 f1
  have q1' : c1 = .int .i64 z1 := by simpa using q1
  have f2 : DataW.trod enc Try.prog w base (fun _ => true) held k 2 (([c0, c1, c2].drop 2).take (Try.prog.cellsOf 2)) = xs[2]? := hfld 2 _ rfl
  rw [show Try.prog.cellsOf 2 = 1 by kernel_rfl] at f2
  obtain ⟨y2, e2⟩ := g 2 (by omega)
  rw [e2] at f2
  obtain ⟨z2, q2, _, w2⟩ := DataW.trod_int Try.underlying2 f2
  have q2' : c2 = .int .i64 z2 := by simpa using q2
  refine ⟨z0, z1, z2, ?_, w0, w1, w2⟩
  rw [q0', q1', q2']

end
end Go.Proofs.Ytnndmpanopnncaa
