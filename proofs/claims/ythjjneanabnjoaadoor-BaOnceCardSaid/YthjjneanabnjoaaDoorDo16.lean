/-
  A slice of muezzinlaw16.Do that came as an argument: from its reading to its cells.
-/
import Derived.Test.YthjjneanabnjoaaDoorBase
import Derived.OpenShut
import Derived.Deep.Slices
namespace Go.Proofs.YthjjneanabnjoaaDoor
open Go.ChangeShapes Go.WideShapes Go.ChangeAt Go.RowKit
set_option linter.unusedVariables false
set_option maxRecDepth 100000

/-- a thing to do: its fields -/
abbrev DoR := Nat → Int
def docells (x : DoR) : Array Value := #[.int .i64 (x 0), .int .i64 (x 1), .int .i64 (x 2), .int .i64 (x 3), .int .u64 (x 4)]
def DoR.ok (x : DoR) : Prop := (-9223372036854775808 ≤ x 0 ∧ x 0 ≤ 9223372036854775807) ∧ (-9223372036854775808 ≤ x 1 ∧ x 1 ≤ 9223372036854775807) ∧ (-9223372036854775808 ≤ x 2 ∧ x 2 ≤ 9223372036854775807) ∧ (-9223372036854775808 ≤ x 3 ∧ x 3 ≤ 9223372036854775807) ∧ (0 ≤ x 4 ∧ x 4 < 18446744073709551616)
/-- the things that a slice holds -/
def Dos (w : World) (A : Option Addr) (len : Nat) (F : Nat → DoR) : Prop :=
  ∀ i, i < len → ∃ b off, A = some ⟨b, off, none⟩ ∧ b < w.heap.size ∧ (∀ j v, (docells (F i))[j]? = some v → w.cell? ⟨b, off + i * 5 + j, none⟩ = some v) ∧ DoR.ok (F i)
theorem Dos.below {w w' : World} {A : Option Addr} {len : Nat} {F : Nat → DoR} (h : Dos w A len F) {B : Nat} (hb : Below B w w') (hB : w.heap.size ≤ B) : Dos w' A len F := by
  intro i hi
  obtain ⟨b, off, e, h1, h2, h3⟩ := h i hi
  exact ⟨b, off, e, Nat.lt_of_lt_of_le h1 hb.size, fun j v hv => (hb.cell (p := ⟨b, off + i * 5 + j, none⟩) (Nat.lt_of_lt_of_le h1 hB)).trans (h2 j v hv), h3⟩

section
variable {H : Type} {enc : TypeId × Value → H} {w : World} {base : Nat} {sp : Nat → Bool} {held : Bool}

def ofL (l : List Int) : DoR := fun k => l.getD k 0
theorem do_cellsOf : Tryd.prog.cellsOf 71 = 5 := by kernel_rfl
theorem open_do {n : Nat} {cs : List Value} {y : DataW H × List MemPlace} (hl : cs.length = 5) (h : DataW.trod enc Tryd.prog w base sp held n 71 cs = some y) : ∃ x : DoR, cs = (docells x).toList ∧ DoR.ok x := by
  obtain ⟨xs, k, _, _, _, hlen, hfld⟩ := DataW.trod_struct Tryd.underlying71 h
  have hlen : xs.length = 5 := hlen
  match cs, hl with
  | [c0, c1, c2, c3, c4], _ =>
  have g : ∀ i, i < 5 → ∃ y, xs[i]? = some y := fun i hi => ⟨_, List.getElem?_eq_getElem (by omega)⟩
  have one : Tryd.prog.cellsOf 3 = 1 := by kernel_rfl
  have oneu : Tryd.prog.cellsOf 46 = 1 := by kernel_rfl
  have f0 : DataW.trod enc Tryd.prog w base sp held k 3 (([c0, c1, c2, c3, c4].drop 0).take (Tryd.prog.cellsOf 3)) = xs[0]? := hfld 0 _ rfl
  have f1 : DataW.trod enc Tryd.prog w base sp held k 3 (([c0, c1, c2, c3, c4].drop 1).take (Tryd.prog.cellsOf 3)) = xs[1]? := hfld 1 _ rfl
  have f2 : DataW.trod enc Tryd.prog w base sp held k 3 (([c0, c1, c2, c3, c4].drop 2).take (Tryd.prog.cellsOf 3)) = xs[2]? := hfld 2 _ rfl
  have f3 : DataW.trod enc Tryd.prog w base sp held k 3 (([c0, c1, c2, c3, c4].drop 3).take (Tryd.prog.cellsOf 3)) = xs[3]? := hfld 3 _ rfl
  have f4 : DataW.trod enc Tryd.prog w base sp held k 46 (([c0, c1, c2, c3, c4].drop 4).take (Tryd.prog.cellsOf 46)) = xs[4]? := hfld 4 _ rfl
  rw [one] at f0
  rw [one] at f1
  rw [one] at f2
  rw [one] at f3
  rw [oneu] at f4
  obtain ⟨y0, e0⟩ := g 0 (by omega)
  rw [e0] at f0
  obtain ⟨x0, q0, _, w0⟩ := DataW.trod_int Tryd.underlying3 f0
  have q0' : c0 = .int .i64 x0 := by simpa using q0
  obtain ⟨y1, e1⟩ := g 1 (by omega)
  rw [e1] at f1
  obtain ⟨x1, q1, _, w1⟩ := DataW.trod_int Tryd.underlying3 f1
  have q1' : c1 = .int .i64 x1 := by simpa using q1
  obtain ⟨y2, e2⟩ := g 2 (by omega)
  rw [e2] at f2
  obtain ⟨x2, q2, _, w2⟩ := DataW.trod_int Tryd.underlying3 f2
  have q2' : c2 = .int .i64 x2 := by simpa using q2
  obtain ⟨y3, e3⟩ := g 3 (by omega)
  rw [e3] at f3
  obtain ⟨x3, q3, _, w3⟩ := DataW.trod_int Tryd.underlying3 f3
  have q3' : c3 = .int .i64 x3 := by simpa using q3
  obtain ⟨y4, e4⟩ := g 4 (by omega)
  rw [e4] at f4
  obtain ⟨x4, q4, _, w4⟩ := DataW.trod_int Tryd.underlying46 f4
  have q4' : c4 = .int .u64 x4 := by simpa using q4
  subst q0' q1' q2' q3' q4'
  have b0 := bounds_i64 w0
  have b1 := bounds_i64 w1
  have b2 := bounds_i64 w2
  have b3 := bounds_i64 w3
  have b4 : 0 ≤ x4 ∧ x4 < 18446744073709551616 
    := by
    have h : 0 ≤ x4 ∧ x4 ≤ 18446744073709551615 := by simpa [Lit.wf, IntKind.min, IntKind.max, IntKind.signed, IntKind.bits] using w4
    omega
  exact ⟨ofL [x0, x1, x2, x3, x4], rfl, b0, b1, b2, b3, b4⟩

theorem open_dos {v : Value} {b0 : Nat} {d : DataW H} {ps : List MemPlace} (hval : Value.okWide Tryd.prog w .any b0 67 v) (hd : DataW.Trod enc Tryd.prog w base (fun _ => true) held 67 v d ps) :
    ∃ A len cap F, v = .slice A len cap ∧ Dos w A len F ∧ len ≤ maxLen := by
  obtain ⟨A, len, cap, rfl⟩ := okWide_slice Tryd.underlying67 hval
  obtain ⟨fuel, hf⟩ := hd
  rcases Go.Deep.open_slice Tryd.underlying67 hf with ⟨hcs, _⟩ | ⟨a, l, c, m, n, D, Pl, hcs, _, hl, hm, hmm, _, hall⟩
  · simp [Value.cells] at hcs
    obtain ⟨rfl, rfl, rfl⟩ := hcs
    exact ⟨none, 0, 0, fun _ => ofL [], rfl, fun i hi => by omega, by omega⟩
  · simp [Value.cells] at hcs
    obtain ⟨rfl, rfl, rfl⟩ := hcs
    have each : ∀ i, i < len → ∃ x : DoR, ∃ b off, (some a : Option Addr) = some ⟨b, off, none⟩ ∧ b < w.heap.size ∧ (∀ j v, (docells x)[j]? = some v → w.cell? ⟨b, off + i * 5 + j, none⟩ = some v) ∧ DoR.ok x := by
      intro i hi
      obtain ⟨cs', h1, h2⟩ := hall i (by rw [hmm]; simp; omega)
      rw [do_cellsOf] at h1
      obtain ⟨_, hlen, hcell⟩ := World.cells?_some h1
      obtain ⟨x, rfl, hok⟩ := open_do hlen h2
      obtain ⟨cs0, z1, z2⟩ := hall 0 (by rw [hmm]; simp; omega)
      rw [do_cellsOf] at z1
      obtain ⟨_, zlen, zcell⟩ := World.cells?_some z1
      obtain ⟨b, off, spot⟩ := a
      have hsp : spot = none := by
        have h0 := zcell 0 (by omega)
        rw [List.getElem?_eq_getElem (by omega)] at h0
        have := World.cell?_spot h0
        simpa [Addr.add] using this
      subst hsp
      have h0 := hcell 0 (by omega)
      rw [add_at, add_at] at h0
      refine ⟨x, b, off, rfl, ?_, ?_, hok⟩
      · have h0' : w.cell? ⟨b, off + i * 5 + 0, none⟩ = some (.int .i64 (x 0)) := h0
        exact World.block_lt_of_cell? w _ h0'
      · intro j v hv
        have hj : j < 5 := by
          have := (Array.getElem?_eq_some_iff.1 hv).1
          exact this
        have h3 := hcell j hj
        rw [add_at, add_at] at h3
        rw [h3, Array.getElem?_toList]
        exact hv
    have hF : ∃ F : Nat → DoR, ∀ i, i < len → ∃ b off, (some a : Option Addr) = some ⟨b, off, none⟩ ∧ b < w.heap.size ∧ (∀ j v, (docells (F i))[j]? = some v → w.cell? ⟨b, off + i * 5 + j, none⟩ = some v) ∧ DoR.ok (F i) :=
      ⟨fun i => if h : i < len then Classical.choose (each i h) else ofL [], fun i hi => by
        simp only [dif_pos hi]
        exact Classical.choose_spec (each i hi)⟩
    obtain ⟨F, hF⟩ := hF
    exact ⟨some a, len, cap, F, rfl, hF, by omega⟩
end
end Go.Proofs.YthjjneanabnjoaaDoor
