/-
  A gram.Rules that came as an argument: from its reading to its cells.
-/
import Derived.Test.YtoagmehgiaamlaaDoorGramBase
import Derived.OpenShut
namespace Go.Proofs.YtoagmehgiaamlaaDoor
open Go.ChangeShapes Go.WideShapes Go.ChangeAt Go.RowKit
set_option linter.unusedVariables false
set_option maxRecDepth 100000

section
variable {H : Type} {enc : TypeId × Value → H} {w : World} {base : Nat} {sp : Nat → Bool} {held : Bool}

theorem cell_u8 {n : Nat} {c : Value} {y : DataW H × List MemPlace} (h : DataW.trod enc Tryd.prog w base sp held n 5 [c] = some y) : ∃ x : UInt8, c = .int .u8 (x.toNat : Int) := by
  obtain ⟨z, e, _, hw⟩ := DataW.trod_int Tryd.underlying5 h
  have hb := bounds_u8 hw
  refine ⟨UInt8.ofNat z.toNat, ?_⟩
  have : c = .int .u8 z := by simpa using e
  rw [this]
  congr 1
  rw [UInt8.toNat_ofNat']
  omega

theorem addr_cellsOf : Tryd.prog.cellsOf 26 = 6 := by kernel_rfl

theorem addr_cells {n : Nat} {c0 c1 c2 c3 c4 c5 : Value} {y : DataW H × List MemPlace} (h : DataW.trod enc Tryd.prog w base sp held n 26 [c0, c1, c2, c3, c4, c5] = some y) :
    ∃ x0 x1 x2 x3 x4 x5 : UInt8, c0 = .int .u8 (x0.toNat : Int) ∧ c1 = .int .u8 (x1.toNat : Int) ∧ c2 = .int .u8 (x2.toNat : Int) ∧ c3 = .int .u8 (x3.toNat : Int) ∧ c4 = .int .u8 (x4.toNat : Int) ∧ c5 = .int .u8 (x5.toNat : Int) := by
  obtain ⟨ys, m, _, _, _, hl, hel⟩ := DataW.trod_array Tryd.underlying26 h
  have g : ∀ i, i < 6 → ∃ y, DataW.trod enc Tryd.prog w base sp held m 5 (([c0, c1, c2, c3, c4, c5].drop (i * 1)).take 1) = some y := fun i hi => by
    have := hel i hi
    rw [u8_cells] at this
    exact ⟨_, this.trans (List.getElem?_eq_getElem (by omega))⟩
  obtain ⟨_, g0⟩ := g 0 (by omega)
  obtain ⟨_, g1⟩ := g 1 (by omega)
  obtain ⟨_, g2⟩ := g 2 (by omega)
  obtain ⟨_, g3⟩ := g 3 (by omega)
  obtain ⟨_, g4⟩ := g 4 (by omega)
  obtain ⟨_, g5⟩ := g 5 (by omega)
  obtain ⟨x0, e0⟩ := cell_u8 g0
  obtain ⟨x1, e1⟩ := cell_u8 g1
  obtain ⟨x2, e2⟩ := cell_u8 g2
  obtain ⟨x3, e3⟩ := cell_u8 g3
  obtain ⟨x4, e4⟩ := cell_u8 g4
  obtain ⟨x5, e5⟩ := cell_u8 g5
  exact ⟨x0, x1, x2, x3, x4, x5, e0, e1, e2, e3, e4, e5⟩


theorem rate_cellsOf : Tryd.prog.cellsOf 28 = 5 := by kernel_rfl
theorem rate_cells {n : Nat} {c0 c1 c2 c3 c4 : Value} {y : DataW H × List MemPlace} (h : DataW.trod enc Tryd.prog w base sp held n 28 [c0, c1, c2, c3, c4] = some y) :
    ∃ a0 a1 a2 a3 a4 : Int, (c0 = .int .i64 a0 ∧ c1 = .int .i64 a1 ∧ c2 = .int .i64 a2 ∧ c3 = .int .i64 a3 ∧ c4 = .int .i64 a4) ∧ (Lit.int .i64 a0).wf = true ∧ (Lit.int .i64 a1).wf = true ∧ (Lit.int .i64 a2).wf = true ∧ (Lit.int .i64 a3).wf = true ∧ (Lit.int .i64 a4).wf = true := by
  obtain ⟨xs, k, _, _, _, hlen, hfld⟩ := DataW.trod_struct Tryd.underlying28 h
  have hlen : xs.length = 5 := hlen
  have g : ∀ i, i < 5 → ∃ y, xs[i]? = some y := fun i hi => ⟨_, List.getElem?_eq_getElem (by omega)⟩
  have f0 : DataW.trod enc Tryd.prog w base sp held k 3 (([c0, c1, c2, c3, c4].drop 0).take (Tryd.prog.cellsOf 3)) = xs[0]? := hfld 0 _ rfl
  rw [show Tryd.prog.cellsOf 3 = 1 by kernel_rfl] at f0
  obtain ⟨y0, e0⟩ := g 0 (by omega)
  rw [e0] at f0
  obtain ⟨z0, q0, _, w0⟩ := DataW.trod_int Tryd.underlying3 f0
  have q0' : c0 = .int .i64 z0 := by simpa using q0
  have f1 : DataW.trod enc Tryd.prog w base sp held k 3 (([c0, c1, c2, c3, c4].drop 1).take (Tryd.prog.cellsOf 3)) = xs[1]? := hfld 1 _ rfl
  rw [show Tryd.prog.cellsOf 3 = 1 by kernel_rfl] at f1
  obtain ⟨y1, e1⟩ := g 1 (by omega)
  rw [e1] at f1
  obtain ⟨z1, q1, _, w1⟩ := DataW.trod_int Tryd.underlying3 f1
  have q1' : c1 = .int .i64 z1 := by simpa using q1
  have f2 : DataW.trod enc Tryd.prog w base sp held k 3 (([c0, c1, c2, c3, c4].drop 2).take (Tryd.prog.cellsOf 3)) = xs[2]? := hfld 2 _ rfl
  rw [show Tryd.prog.cellsOf 3 = 1 by kernel_rfl] at f2
  obtain ⟨y2, e2⟩ := g 2 (by omega)
  rw [e2] at f2
  obtain ⟨z2, q2, _, w2⟩ := DataW.trod_int Tryd.underlying3 f2
  have q2' : c2 = .int .i64 z2 := by simpa using q2
  have f3 : DataW.trod enc Tryd.prog w base sp held k 3 (([c0, c1, c2, c3, c4].drop 3).take (Tryd.prog.cellsOf 3)) = xs[3]? := hfld 3 _ rfl
  rw [show Tryd.prog.cellsOf 3 = 1 by kernel_rfl] at f3
  obtain ⟨y3, e3⟩ := g 3 (by omega)
  rw [e3] at f3
  obtain ⟨z3, q3, _, w3⟩ := DataW.trod_int Tryd.underlying3 f3
  have q3' : c3 = .int .i64 z3 := by simpa using q3
  have f4 : DataW.trod enc Tryd.prog w base sp held k 3 (([c0, c1, c2, c3, c4].drop 4).take (Tryd.prog.cellsOf 3)) = xs[4]? := hfld 4 _ rfl
  rw [show Tryd.prog.cellsOf 3 = 1 by kernel_rfl] at f4
  obtain ⟨y4, e4⟩ := g 4 (by omega)
  rw [e4] at f4
  obtain ⟨z4, q4, _, w4⟩ := DataW.trod_int Tryd.underlying3 f4
  have q4' : c4 = .int .i64 z4 := by simpa using q4
  exact ⟨z0, z1, z2, z3, z4, ⟨q0', q1', q2', q3', q4'⟩, w0, w1, w2, w3, w4⟩

theorem open_rules {b0 : Nat} {v : Value} {d : DataW H} {ps : List MemPlace} (hval : Value.okWide Tryd.prog w .any b0 30 v) (hd : DataW.Trod enc Tryd.prog w base (fun _ => true) held 30 v d ps) :
    ∃ m : RulesP, v = ruv m ∧ (Lit.int .i64 m.r.s).wf = true ∧ (Lit.int .i64 m.start).wf = true ∧ (Lit.int .i64 m.size).wf = true := by
  unfold Value.okWide at hval
  rw [Tryd.underlying30] at hval
  obtain ⟨cs, rfl, hsz, _⟩ := hval
  obtain ⟨fuel, hf⟩ := hd
  obtain ⟨l⟩ := cs
  have hf : DataW.trod enc Tryd.prog w base (fun _ => true) held fuel 30 l = some (d, ps) := hf
  have hsz : l.length = 22 := hsz.trans (by kernel_rfl)
  obtain ⟨xs, k, _, _, _, hlen, hfld⟩ := DataW.trod_struct Tryd.underlying30 hf
  have hlen : xs.length = 8 := hlen
  match l, hsz with
  | [c0, c1, c2, c3, c4, c5, c6, c7, c8, c9, c10, c11, c12, c13, c14, c15, c16, c17, c18, c19, c20, c21], _ =>
  have g : ∀ i, i < 8 → ∃ y, xs[i]? = some y := fun i hi => ⟨_, List.getElem?_eq_getElem (by omega)⟩
  have f0 : DataW.trod enc Tryd.prog w base (fun _ => true) held k 26 (([c0, c1, c2, c3, c4, c5, c6, c7, c8, c9, c10, c11, c12, c13, c14, c15, c16, c17, c18, c19, c20, c21].drop 0).take (Tryd.prog.cellsOf 26)) = xs[0]? := hfld 0 _ rfl
  rw [show Tryd.prog.cellsOf 26 = 6 by kernel_rfl] at f0
  obtain ⟨y0, e0⟩ := g 0 (by omega)
  rw [e0] at f0
  have f1 : DataW.trod enc Tryd.prog w base (fun _ => true) held k 26 (([c0, c1, c2, c3, c4, c5, c6, c7, c8, c9, c10, c11, c12, c13, c14, c15, c16, c17, c18, c19, c20, c21].drop 6).take (Tryd.prog.cellsOf 26)) = xs[1]? := hfld 1 _ rfl
  rw [show Tryd.prog.cellsOf 26 = 6 by kernel_rfl] at f1
  obtain ⟨y1, e1⟩ := g 1 (by omega)
  rw [e1] at f1
  have f2 : DataW.trod enc Tryd.prog w base (fun _ => true) held k 28 (([c0, c1, c2, c3, c4, c5, c6, c7, c8, c9, c10, c11, c12, c13, c14, c15, c16, c17, c18, c19, c20, c21].drop 12).take (Tryd.prog.cellsOf 28)) = xs[2]? := hfld 2 _ rfl
  rw [show Tryd.prog.cellsOf 28 = 5 by kernel_rfl] at f2
  obtain ⟨y2, e2⟩ := g 2 (by omega)
  rw [e2] at f2
  have f3 : DataW.trod enc Tryd.prog w base (fun _ => true) held k 3 (([c0, c1, c2, c3, c4, c5, c6, c7, c8, c9, c10, c11, c12, c13, c14, c15, c16, c17, c18, c19, c20, c21].drop 17).take (Tryd.prog.cellsOf 3)) = xs[3]? := hfld 3 _ rfl
  rw [show Tryd.prog.cellsOf 3 = 1 by kernel_rfl] at f3
  obtain ⟨y3, e3⟩ := g 3 (by omega)
  rw [e3] at f3
  have f4 : DataW.trod enc Tryd.prog w base (fun _ => true) held k 3 (([c0, c1, c2, c3, c4, c5, c6, c7, c8, c9, c10, c11, c12, c13, c14, c15, c16, c17, c18, c19, c20, c21].drop 18).take (Tryd.prog.cellsOf 3)) = xs[4]? := hfld 4 _ rfl
  rw [show Tryd.prog.cellsOf 3 = 1 by kernel_rfl] at f4
  obtain ⟨y4, e4⟩ := g 4 (by omega)
  rw [e4] at f4
  have f5 : DataW.trod enc Tryd.prog w base (fun _ => true) held k 3 (([c0, c1, c2, c3, c4, c5, c6, c7, c8, c9, c10, c11, c12, c13, c14, c15, c16, c17, c18, c19, c20, c21].drop 19).take (Tryd.prog.cellsOf 3)) = xs[5]? := hfld 5 _ rfl
  rw [show Tryd.prog.cellsOf 3 = 1 by kernel_rfl] at f5
  obtain ⟨y5, e5⟩ := g 5 (by omega)
  rw [e5] at f5
  have f6 : DataW.trod enc Tryd.prog w base (fun _ => true) held k 2 (([c0, c1, c2, c3, c4, c5, c6, c7, c8, c9, c10, c11, c12, c13, c14, c15, c16, c17, c18, c19, c20, c21].drop 20).take (Tryd.prog.cellsOf 2)) = xs[6]? := hfld 6 _ rfl
  rw [show Tryd.prog.cellsOf 2 = 1 by kernel_rfl] at f6
  obtain ⟨y6, e6⟩ := g 6 (by omega)
  rw [e6] at f6
  have f7 : DataW.trod enc Tryd.prog w base (fun _ => true) held k 4 (([c0, c1, c2, c3, c4, c5, c6, c7, c8, c9, c10, c11, c12, c13, c14, c15, c16, c17, c18, c19, c20, c21].drop 21).take (Tryd.prog.cellsOf 4)) = xs[7]? := hfld 7 _ rfl
  rw [show Tryd.prog.cellsOf 4 = 1 by kernel_rfl] at f7
  obtain ⟨y7, e7⟩ := g 7 (by omega)
  rw [e7] at f7
  obtain ⟨x0, x1, x2, x3, x4, x5, rfl, rfl, rfl, rfl, rfl, rfl⟩ := addr_cells f0
  obtain ⟨x6, x7, x8, x9, x10, x11, rfl, rfl, rfl, rfl, rfl, rfl⟩ := addr_cells f1
  obtain ⟨r0, r1, r2, r3, r4, ⟨rfl, rfl, rfl, rfl, rfl⟩, _, _, wr2, _, _⟩ := rate_cells f2
  obtain ⟨z3, q3, _, w3⟩ := DataW.trod_int Tryd.underlying3 f3
  have q3' : c17 = .int .i64 z3 := by simpa using q3
  obtain ⟨z4, q4, _, w4⟩ := DataW.trod_int Tryd.underlying3 f4
  have q4' : c18 = .int .i64 z4 := by simpa using q4
  obtain ⟨z5, q5, _, w5⟩ := DataW.trod_int Tryd.underlying3 f5
  have q5' : c19 = .int .i64 z5 := by simpa using q5
  obtain ⟨z6, q6, _, w6⟩ := DataW.trod_int Tryd.underlying2 f6
  have q6' : c20 = .int .i64 z6 := by simpa using q6
  obtain ⟨se, q7, _⟩ := DataW.trod_bool Tryd.underlying4 f7
  have q7' : c21 = .bool se := by simpa using q7
  refine ⟨⟨fun i => [x0, x1, x2, x3, x4, x5].getD i 0, fun i => [x6, x7, x8, x9, x10, x11].getD i 0, ⟨r0, r1, r2, r3, r4⟩, z3, z4, z5, z6, se⟩, ?_, wr2, w3, w4⟩
  subst q3' q4' q5' q6' q7'
  rfl
end
end Go.Proofs.YtoagmehgiaamlaaDoor
