/-
  Struct arguments of plain integers: from their reading to their cells.
-/
import Derived.Test.YtnndmpanopnncaaBase
import Derived.OpenShut
namespace Go.Proofs.Ytnndmpanopnncaa
open Go.ChangeShapes Go.WideShapes Go.ChangeAt Go.RowKit
set_option linter.unusedVariables false

section
variable {H : Type} {enc : TypeId × Value → H} {w : World} {base : Nat} {sp : Nat → Bool} {held : Bool}

theorem open_rate {b0 : Nat} {v : Value} {d : DataW H} {ps : List MemPlace} (hval : Value.okWide Try.prog w .any b0 23 v) (hd : DataW.Trod enc Try.prog w base (fun _ => true) held 23 v d ps) :
    ∃ a0 a1 a2 a3 a4 : Int, v = .agg #[.int .i64 a0, .int .i64 a1, .int .i64 a2, .int .i64 a3, .int .i64 a4] ∧ (Lit.int .i64 a0).wf = true ∧ (Lit.int .i64 a1).wf = true ∧ (Lit.int .i64 a2).wf = true ∧ (Lit.int .i64 a3).wf = true ∧ (Lit.int .i64 a4).wf = true := by
  unfold Value.okWide at hval
  rw [Try.underlying23] at hval
  obtain ⟨cs, rfl, hsz, _⟩ := hval
  obtain ⟨fuel, hf⟩ := hd
  obtain ⟨l⟩ := cs
  have hf : DataW.trod enc Try.prog w base (fun _ => true) held fuel 23 l = some (d, ps) := hf
  have hsz : l.length = 5 := hsz.trans (by kernel_rfl)
  obtain ⟨xs, k, _, _, _, hlen, hfld⟩ := DataW.trod_struct Try.underlying23 hf
  have hlen : xs.length = 5 := hlen
  match l, hsz with
  | [c0, c1, c2, c3, c4], _ =>
  have g : ∀ i, i < 5 → ∃ y, xs[i]? = some y := fun i hi => ⟨_, List.getElem?_eq_getElem (by omega)⟩
  have f0 : DataW.trod enc Try.prog w base (fun _ => true) held k 3 (([c0, c1, c2, c3, c4].drop 0).take (Try.prog.cellsOf 3)) = xs[0]? := hfld 0 _ rfl
  rw [show Try.prog.cellsOf 3 = 1 by kernel_rfl] at f0
  obtain ⟨y0, e0⟩ := g 0 (by omega)
  rw [e0] at f0
  obtain ⟨z0, q0, _, w0⟩ := DataW.trod_int Try.underlying3 f0
  have q0' : c0 = .int .i64 z0 := by simpa using q0
  have f1 : DataW.trod enc Try.prog w base (fun _ => true) held k 3 (([c0, c1, c2, c3, c4].drop 1).take (Try.prog.cellsOf 3)) = xs[1]? := hfld 1 _ rfl
  rw [show Try.prog.cellsOf 3 = 1 by kernel_rfl] at f1
  obtain ⟨y1, e1⟩ := g 1 (by omega)
  rw [e1] at f1
  obtain ⟨z1, q1, _, w1⟩ := DataW.trod_int Try.underlying3 f1
  have q1' : c1 = .int .i64 z1 := by simpa using q1
  have f2 : DataW.trod enc Try.prog w base (fun _ => true) held k 3 (([c0, c1, c2, c3, c4].drop 2).take (Try.prog.cellsOf 3)) = xs[2]? := hfld 2 _ rfl
  rw [show Try.prog.cellsOf 3 = 1 by kernel_rfl] at f2
  obtain ⟨y2, e2⟩ := g 2 (by omega)
  rw [e2] at f2
  obtain ⟨z2, q2, _, w2⟩ := DataW.trod_int Try.underlying3 f2
  have q2' : c2 = .int .i64 z2 := by simpa using q2
  have f3 : DataW.trod enc Try.prog w base (fun _ => true) held k 3 (([c0, c1, c2, c3, c4].drop 3).take (Try.prog.cellsOf 3)) = xs[3]? := hfld 3 _ rfl
  rw [show Try.prog.cellsOf 3 = 1 by kernel_rfl] at f3
  obtain ⟨y3, e3⟩ := g 3 (by omega)
  rw [e3] at f3
  obtain ⟨z3, q3, _, w3⟩ := DataW.trod_int Try.underlying3 f3
  have q3' : c3 = .int .i64 z3 := by simpa using q3
  have f4 : DataW.trod enc Try.prog w base (fun _ => true) held k 3 (([c0, c1, c2, c3, c4].drop 4).take (Try.prog.cellsOf 3)) = xs[4]? := hfld 4 _ rfl
  rw [show Try.prog.cellsOf 3 = 1 by kernel_rfl] at f4
  obtain ⟨y4, e4⟩ := g 4 (by omega)
  rw [e4] at f4
  obtain ⟨z4, q4, _, w4⟩ := DataW.trod_int Try.underlying3 f4
  have q4' : c4 = .int .i64 z4 := by simpa using q4
  refine ⟨z0, z1, z2, z3, z4, ?_, w0, w1, w2, w3, w4⟩
  rw [q0', q1', q2', q3', q4']

end
end Go.Proofs.Ytnndmpanopnncaa
