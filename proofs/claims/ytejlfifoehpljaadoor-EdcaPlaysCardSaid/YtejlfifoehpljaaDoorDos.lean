/-
  A slice of muezzinlaw18.Do that came as an argument: from its reading to its cells.
-/
import Derived.Test.YtejlfifoehpljaaDoorEdcaMore
import Derived.OpenShut
import Derived.Deep.Slices
namespace Go.Proofs.YtejlfifoehpljaaDoor
open Go.ChangeShapes Go.WideShapes Go.ChangeAt Go.RowKit
open Edca
set_option linter.unusedVariables false

structure DoR where
  kind : Int
  ac : Int
  well : Bool
  rd : Nat → Bool
  dr : Nat → Int
def docells (x : DoR) : Array Value := #[.int .i64 x.kind, .int .i64 x.ac, .bool x.well, .bool (x.rd 0), .bool (x.rd 1), .bool (x.rd 2), .bool (x.rd 3), .int .u32 (x.dr 0), .int .u32 (x.dr 1), .int .u32 (x.dr 2), .int .u32 (x.dr 3)]
def DoR.ok (x : DoR) : Prop := (-9223372036854775808 ≤ x.kind ∧ x.kind ≤ 9223372036854775807) ∧ (-9223372036854775808 ≤ x.ac ∧ x.ac ≤ 9223372036854775807) ∧ ∀ k, k < 4 → 0 ≤ x.dr k ∧ x.dr k < 4294967296
/-- the things that a slice holds -/
def Dos (w : World) (A : Option Addr) (len : Nat) (F : Nat → DoR) : Prop :=
  ∀ i, i < len → ∃ b off, A = some ⟨b, off, none⟩ ∧ b < w.heap.size ∧ (∀ j v, (docells (F i))[j]? = some v → w.cell? ⟨b, off + i * 11 + j, none⟩ = some v) ∧ (F i).ok
theorem Dos.below {w w' : World} {A : Option Addr} {len : Nat} {F : Nat → DoR} (h : Dos w A len F) {B : Nat} (hb : Below B w w') (hB : w.heap.size ≤ B) : Dos w' A len F := by
  intro i hi
  obtain ⟨b, off, e, h1, h2, h3⟩ := h i hi
  exact ⟨b, off, e, Nat.lt_of_lt_of_le h1 hb.size, fun j v hv => (hb.cell (p := ⟨b, off + i * 11 + j, none⟩) (Nat.lt_of_lt_of_le h1 hB)).trans (h2 j v hv), h3⟩

section
variable {H : Type} {enc : TypeId × Value → H} {w : World} {base : Nat} {sp : Nat → Bool} {held : Bool}

theorem bools4 {n : Nat} {c0 c1 c2 c3 : Value} {y : DataW H × List MemPlace} (h : DataW.trod enc Tryd.prog w base sp held n 31 [c0, c1, c2, c3] = some y) : ∃ f : Nat → Bool, c0 = .bool (f 0) ∧ c1 = .bool (f 1) ∧ c2 = .bool (f 2) ∧ c3 = .bool (f 3) := by
  obtain ⟨ys, m, _, _, _, hl, hel⟩ := DataW.trod_array Tryd.underlying31 h
  have one : Tryd.prog.cellsOf 4 = 1 := by kernel_rfl
  have g : ∀ i, i < 4 → ∃ y, DataW.trod enc Tryd.prog w base sp held m 4 (([c0, c1, c2, c3].drop (i * 1)).take 1) = some y := fun i hi => by
    have := hel i hi
    rw [one] at this
    exact ⟨_, this.trans (List.getElem?_eq_getElem (by omega))⟩
  obtain ⟨_, g0⟩ := g 0 (by omega)
  obtain ⟨_, g1⟩ := g 1 (by omega)
  obtain ⟨_, g2⟩ := g 2 (by omega)
  obtain ⟨_, g3⟩ := g 3 (by omega)
  obtain ⟨b0, e0, _⟩ := DataW.trod_bool Tryd.underlying4 g0
  obtain ⟨b1, e1, _⟩ := DataW.trod_bool Tryd.underlying4 g1
  obtain ⟨b2, e2, _⟩ := DataW.trod_bool Tryd.underlying4 g2
  obtain ⟨b3, e3, _⟩ := DataW.trod_bool Tryd.underlying4 g3
  exact ⟨b4 b0 b1 b2 b3, show c0 = .bool b0 by simpa using e0, show c1 = .bool b1 by simpa using e1, show c2 = .bool b2 by simpa using e2, show c3 = .bool b3 by simpa using e3⟩

theorem words4 {n : Nat} {c0 c1 c2 c3 : Value} {y : DataW H × List MemPlace} (h : DataW.trod enc Tryd.prog w base sp held n 32 [c0, c1, c2, c3] = some y) :
    ∃ f : Nat → Int, (c0 = .int .u32 (f 0) ∧ c1 = .int .u32 (f 1) ∧ c2 = .int .u32 (f 2) ∧ c3 = .int .u32 (f 3)) ∧ ∀ k, k < 4 → 0 ≤ f k ∧ f k < 4294967296 := by
  obtain ⟨ys, m, _, _, _, hl, hel⟩ := DataW.trod_array Tryd.underlying32 h
  have one : Tryd.prog.cellsOf 22 = 1 := by kernel_rfl
  have g : ∀ i, i < 4 → ∃ y, DataW.trod enc Tryd.prog w base sp held m 22 (([c0, c1, c2, c3].drop (i * 1)).take 1) = some y := fun i hi => by
    have := hel i hi
    rw [one] at this
    exact ⟨_, this.trans (List.getElem?_eq_getElem (by omega))⟩
  obtain ⟨_, g0⟩ := g 0 (by omega)
  obtain ⟨_, g1⟩ := g 1 (by omega)
  obtain ⟨_, g2⟩ := g 2 (by omega)
  obtain ⟨_, g3⟩ := g 3 (by omega)
  obtain ⟨b0, e0, _, w0⟩ := DataW.trod_int Tryd.underlying22 g0
  obtain ⟨b1, e1, _, w1⟩ := DataW.trod_int Tryd.underlying22 g1
  obtain ⟨b2, e2, _, w2⟩ := DataW.trod_int Tryd.underlying22 g2
  obtain ⟨b3, e3, _, w3⟩ := DataW.trod_int Tryd.underlying22 g3
  have q0 := bounds_u32 w0
  have q1 := bounds_u32 w1
  have q2 := bounds_u32 w2
  have q3 := bounds_u32 w3
  refine ⟨i4 b0 b1 b2 b3, ⟨show c0 = .int .u32 b0 by simpa using e0, show c1 = .int .u32 b1 by simpa using e1, show c2 = .int .u32 b2 by simpa using e2, show c3 = .int .u32 b3 by simpa using e3⟩, fun k hk => ?_⟩
  rcases (show k = 0 ∨ k = 1 ∨ k = 2 ∨ k = 3 by omega) with rfl | rfl | rfl | rfl
  · exact ⟨q0.1, by show b0 < _; omega⟩
  · exact ⟨q1.1, by show b1 < _; omega⟩
  · exact ⟨q2.1, by show b2 < _; omega⟩
  · exact ⟨q3.1, by show b3 < _; omega⟩

theorem do_cellsOf : Tryd.prog.cellsOf 48 = 11 := by kernel_rfl
theorem open_do {n : Nat} {cs : List Value} {y : DataW H × List MemPlace} (hl : cs.length = 11) (h : DataW.trod enc Tryd.prog w base sp held n 48 cs = some y) : ∃ x : DoR, cs = (docells x).toList ∧ x.ok := by
  obtain ⟨xs, k, _, _, _, hlen, hfld⟩ := DataW.trod_struct Tryd.underlying48 h
  have hlen : xs.length = 5 := hlen
  match cs, hl with
  | [c0, c1, c2, c3, c4, c5, c6, c7, c8, c9, c10], _ =>
  have g : ∀ i, i < 5 → ∃ y, xs[i]? = some y := fun i hi => ⟨_, List.getElem?_eq_getElem (by omega)⟩
  have one : ∀ t, t = 3 ∨ t = 4 → Tryd.prog.cellsOf t = 1 := by rintro t (rfl | rfl) <;> kernel_rfl
  have four : ∀ t, t = 31 ∨ t = 32 → Tryd.prog.cellsOf t = 4 := by rintro t (rfl | rfl) <;> kernel_rfl
  have f0 : DataW.trod enc Tryd.prog w base sp held k 3 (([c0, c1, c2, c3, c4, c5, c6, c7, c8, c9, c10].drop 0).take (Tryd.prog.cellsOf 3)) = xs[0]? := hfld 0 _ rfl
  have f1 : DataW.trod enc Tryd.prog w base sp held k 3 (([c0, c1, c2, c3, c4, c5, c6, c7, c8, c9, c10].drop 1).take (Tryd.prog.cellsOf 3)) = xs[1]? := hfld 1 _ rfl
  have f2 : DataW.trod enc Tryd.prog w base sp held k 4 (([c0, c1, c2, c3, c4, c5, c6, c7, c8, c9, c10].drop 2).take (Tryd.prog.cellsOf 4)) = xs[2]? := hfld 2 _ rfl
  have f3 : DataW.trod enc Tryd.prog w base sp held k 31 (([c0, c1, c2, c3, c4, c5, c6, c7, c8, c9, c10].drop 3).take (Tryd.prog.cellsOf 31)) = xs[3]? := hfld 3 _ rfl
  have f4 : DataW.trod enc Tryd.prog w base sp held k 32 (([c0, c1, c2, c3, c4, c5, c6, c7, c8, c9, c10].drop 7).take (Tryd.prog.cellsOf 32)) = xs[4]? := hfld 4 _ rfl
  rw [one _ (by decide)] at f0 f1 f2
  rw [four _ (by decide)] at f3 f4
  obtain ⟨y0, e0⟩ := g 0 (by omega)
  rw [e0] at f0
  obtain ⟨y1, e1⟩ := g 1 (by omega)
  rw [e1] at f1
  obtain ⟨y2, e2⟩ := g 2 (by omega)
  rw [e2] at f2
  obtain ⟨y3, e3⟩ := g 3 (by omega)
  rw [e3] at f3
  obtain ⟨y4, e4⟩ := g 4 (by omega)
  rw [e4] at f4
  obtain ⟨kd, q0, _, w0⟩ := DataW.trod_int Tryd.underlying3 f0
  obtain ⟨ac, q1, _, w1⟩ := DataW.trod_int Tryd.underlying3 f1
  obtain ⟨wl, q2, _⟩ := DataW.trod_bool Tryd.underlying4 f2
  obtain ⟨rd, r0, r1, r2, r3⟩ := bools4 f3
  obtain ⟨dr, ⟨s0, s1, s2, s3⟩, hd⟩ := words4 f4
  have q0' : c0 = .int .i64 kd := by simpa using q0
  have q1' : c1 = .int .i64 ac := by simpa using q1
  have q2' : c2 = .bool wl := by simpa using q2
  subst q0' q1' q2' r0 r1 r2 r3 s0 s1 s2 s3
  have b0 := bounds_i64 w0
  have b1 := bounds_i64 w1
  exact ⟨⟨kd, ac, wl, rd, dr⟩, rfl, b0, b1, hd⟩

theorem open_dos {v : Value} {b0 : Nat} {d : DataW H} {ps : List MemPlace} (hval : Value.okWide Tryd.prog w .any b0 41 v) (hd : DataW.Trod enc Tryd.prog w base (fun _ => true) held 41 v d ps) :
    ∃ A len cap F, v = .slice A len cap ∧ Dos w A len F ∧ len ≤ maxLen := by
  obtain ⟨A, len, cap, rfl⟩ := okWide_slice Tryd.underlying41 hval
  obtain ⟨fuel, hf⟩ := hd
  rcases Go.Deep.open_slice Tryd.underlying41 hf with ⟨hcs, _⟩ | ⟨a, l, c, m, n, D, Pl, hcs, _, hl, hm, hmm, _, hall⟩
  · simp [Value.cells] at hcs
    obtain ⟨rfl, rfl, rfl⟩ := hcs
    exact ⟨none, 0, 0, fun _ => ⟨0, 0, false, fun _ => false, fun _ => 0⟩, rfl, fun i hi => by omega, by omega⟩
  · simp [Value.cells] at hcs
    obtain ⟨rfl, rfl, rfl⟩ := hcs
    have each : ∀ i, i < len → ∃ x : DoR, ∃ b off, (some a : Option Addr) = some ⟨b, off, none⟩ ∧ b < w.heap.size ∧ (∀ j v, (docells x)[j]? = some v → w.cell? ⟨b, off + i * 11 + j, none⟩ = some v) ∧ x.ok := by
      intro i hi
      obtain ⟨cs', h1, h2⟩ := hall i (by rw [hmm]; simp; omega)
      rw [do_cellsOf] at h1
      obtain ⟨_, hlen, hcell⟩ := World.cells?_some h1
      obtain ⟨x, rfl, hok⟩ := open_do hlen h2
      obtain ⟨cs0, z1, z2⟩ := hall 0 (by rw [hmm]; simp; omega)
      rw [do_cellsOf] at z1
      obtain ⟨_, zlen, zcell⟩ := World.cells?_some z1
      obtain ⟨b, off, spot⟩ := a
      have hsp : spot = none := by
        have h0 := zcell 0 (by omega)
        rw [List.getElem?_eq_getElem (by omega)] at h0
        have := World.cell?_spot h0
        simpa [Addr.add] using this
      subst hsp
      have h0 := hcell 0 (by omega)
      rw [add_at, add_at] at h0
      refine ⟨x, b, off, rfl, ?_, ?_, hok⟩
      · have h0' : w.cell? ⟨b, off + i * 11 + 0, none⟩ = some (.int .i64 x.kind) := h0
        exact World.block_lt_of_cell? w _ h0'
      · intro j v hv
        have hj : j < 11 := by
          have := (Array.getElem?_eq_some_iff.1 hv).1
          exact this
        have h3 := hcell j hj
        rw [add_at, add_at] at h3
        rw [h3, Array.getElem?_toList]
        exact hv
    have hF : ∃ F : Nat → DoR, ∀ i, i < len → ∃ b off, (some a : Option Addr) = some ⟨b, off, none⟩ ∧ b < w.heap.size ∧ (∀ j v, (docells (F i))[j]? = some v → w.cell? ⟨b, off + i * 11 + j, none⟩ = some v) ∧ (F i).ok :=
      ⟨fun i => if h : i < len then Classical.choose (each i h) else ⟨0, 0, false, fun _ => false, fun _ => 0⟩, fun i hi => by
        simp only [dif_pos hi]
        exact Classical.choose_spec (each i hi)⟩
    obtain ⟨F, hF⟩ := hF
    exact ⟨some a, len, cap, F, rfl, hF, by omega⟩
end
end Go.Proofs.YtejlfifoehpljaaDoor
