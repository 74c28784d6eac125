/-
  A slice of muezzinlaw15.Do that came as an argument: from its reading to its cells.
-/
import Derived.Test.YtbelopffdpdojaaDoorBase
import Derived.OpenShut
import Derived.Deep.Slices
namespace Go.Proofs.YtbelopffdpdojaaDoor
open Go.ChangeShapes Go.WideShapes Go.ChangeAt Go.RowKit
set_option linter.unusedVariables false

/-- a thing to do: its fields -/
abbrev DoR := Nat → Int
def docells (x : DoR) : Array Value := #[.int .i64 (x 0), .int .i64 (x 1)]
def DoR.ok (x : DoR) : Prop := ∀ k, k < 2 → -9223372036854775808 ≤ x k ∧ x k ≤ 9223372036854775807
/-- the things that a slice holds -/
def Dos (w : World) (A : Option Addr) (len : Nat) (F : Nat → DoR) : Prop :=
  ∀ i, i < len → ∃ b off, A = some ⟨b, off, none⟩ ∧ b < w.heap.size ∧ (∀ j v, (docells (F i))[j]? = some v → w.cell? ⟨b, off + i * 2 + j, none⟩ = some v) ∧ DoR.ok (F i)
theorem Dos.below {w w' : World} {A : Option Addr} {len : Nat} {F : Nat → DoR} (h : Dos w A len F) {B : Nat} (hb : Below B w w') (hB : w.heap.size ≤ B) : Dos w' A len F := by
  intro i hi
  obtain ⟨b, off, e, h1, h2, h3⟩ := h i hi
  exact ⟨b, off, e, Nat.lt_of_lt_of_le h1 hb.size, fun j v hv => (hb.cell (p := ⟨b, off + i * 2 + j, none⟩) (Nat.lt_of_lt_of_le h1 hB)).trans (h2 j v hv), h3⟩

section
variable {H : Type} {enc : TypeId × Value → H} {w : World} {base : Nat} {sp : Nat → Bool} {held : Bool}

def ofL (l : List Int) : DoR := fun k => l.getD k 0
theorem do_cellsOf : Tryd.prog.cellsOf 38 = 2 := by kernel_rfl
theorem open_do {n : Nat} {cs : List Value} {y : DataW H × List MemPlace} (hl : cs.length = 2) (h : DataW.trod enc Tryd.prog w base sp held n 38 cs = some y) : ∃ x : DoR, cs = (docells x).toList ∧ DoR.ok x := by
  obtain ⟨xs, k, _, _, _, hlen, hfld⟩ := DataW.trod_struct Tryd.underlying38 h
  have hlen : xs.length = 2 := hlen
  match cs, hl with
  | [c0, c1], _ =>
  have g : ∀ i, i < 2 → ∃ y, xs[i]? = some y := fun i hi => ⟨_, List.getElem?_eq_getElem (by omega)⟩
  have one : Tryd.prog.cellsOf 3 = 1 := by kernel_rfl
  have f0 : DataW.trod enc Tryd.prog w base sp held k 3 (([c0, c1].drop 0).take (Tryd.prog.cellsOf 3)) = xs[0]? := hfld 0 _ rfl
  have f1 : DataW.trod enc Tryd.prog w base sp held k 3 (([c0, c1].drop 1).take (Tryd.prog.cellsOf 3)) = xs[1]? := hfld 1 _ rfl
  rw [one] at f0 f1
  obtain ⟨y0, e0⟩ := g 0 (by omega)
  rw [e0] at f0
  obtain ⟨x0, q0, _, w0⟩ := DataW.trod_int Tryd.underlying3 f0
  have q0' : c0 = .int .i64 x0 := by simpa using q0
  obtain ⟨y1, e1⟩ := g 1 (by omega)
  rw [e1] at f1
  obtain ⟨x1, q1, _, w1⟩ := DataW.trod_int Tryd.underlying3 f1
  have q1' : c1 = .int .i64 x1 := by simpa using q1
  subst q0' q1'
  have b0 := bounds_i64 w0
  have b1 := bounds_i64 w1
  refine ⟨ofL [x0, x1], rfl, fun k hk => ?_⟩
  rcases (show k = 0 ∨ k = 1 by omega) with rfl | rfl
  · exact b0
  · exact b1

theorem open_dos {v : Value} {b0 : Nat} {d : DataW H} {ps : List MemPlace} (hval : Value.okWide Tryd.prog w .any b0 36 v) (hd : DataW.Trod enc Tryd.prog w base (fun _ => true) held 36 v d ps) :
    ∃ A len cap F, v = .slice A len cap ∧ Dos w A len F ∧ len ≤ maxLen := by
  obtain ⟨A, len, cap, rfl⟩ := okWide_slice Tryd.underlying36 hval
  obtain ⟨fuel, hf⟩ := hd
  rcases Go.Deep.open_slice Tryd.underlying36 hf with ⟨hcs, _⟩ | ⟨a, l, c, m, n, D, Pl, hcs, _, hl, hm, hmm, _, hall⟩
  · simp [Value.cells] at hcs
    obtain ⟨rfl, rfl, rfl⟩ := hcs
    exact ⟨none, 0, 0, fun _ => ofL [], rfl, fun i hi => by omega, by omega⟩
  · simp [Value.cells] at hcs
    obtain ⟨rfl, rfl, rfl⟩ := hcs
    have each : ∀ i, i < len → ∃ x : DoR, ∃ b off, (some a : Option Addr) = some ⟨b, off, none⟩ ∧ b < w.heap.size ∧ (∀ j v, (docells x)[j]? = some v → w.cell? ⟨b, off + i * 2 + j, none⟩ = some v) ∧ DoR.ok x := by
      intro i hi
      obtain ⟨cs', h1, h2⟩ := hall i (by rw [hmm]; simp; omega)
      rw [do_cellsOf] at h1
      obtain ⟨_, hlen, hcell⟩ := World.cells?_some h1
      obtain ⟨x, rfl, hok⟩ := open_do hlen h2
      obtain ⟨cs0, z1, z2⟩ := hall 0 (by rw [hmm]; simp; omega)
      rw [do_cellsOf] at z1
      obtain ⟨_, zlen, zcell⟩ := World.cells?_some z1
      obtain ⟨b, off, spot⟩ := a
      have hsp : spot = none := by
        have h0 := zcell 0 (by omega)
        rw [List.getElem?_eq_getElem (by omega)] at h0
        have := World.cell?_spot h0
        simpa [Addr.add] using this
      subst hsp
      have h0 := hcell 0 (by omega)
      rw [add_at, add_at] at h0
      refine ⟨x, b, off, rfl, ?_, ?_, hok⟩
      · have h0' : w.cell? ⟨b, off + i * 2 + 0, none⟩ = some (.int .i64 (x 0)) := h0
        exact World.block_lt_of_cell? w _ h0'
      · intro j v hv
        have hj : j < 2 := by
          have := (Array.getElem?_eq_some_iff.1 hv).1
          exact this
        have h3 := hcell j hj
        rw [add_at, add_at] at h3
        rw [h3, Array.getElem?_toList]
        exact hv
    have hF : ∃ F : Nat → DoR, ∀ i, i < len → ∃ b off, (some a : Option Addr) = some ⟨b, off, none⟩ ∧ b < w.heap.size ∧ (∀ j v, (docells (F i))[j]? = some v → w.cell? ⟨b, off + i * 2 + j, none⟩ = some v) ∧ DoR.ok (F i) :=
      ⟨fun i => if h : i < len then Classical.choose (each i h) else ofL [], fun i hi => by
        simp only [dif_pos hi]
        exact Classical.choose_spec (each i hi)⟩
    obtain ⟨F, hF⟩ := hF
    exact ⟨some a, len, cap, F, rfl, hF, by omega⟩
end
end Go.Proofs.YtbelopffdpdojaaDoor
