/-
  An api.QoS that came as an argument: from its reading to its cells.
-/
import Derived.Test.YtidgomffmeplaaaDoorQosBase
import Derived.OpenShut
namespace Go.Proofs.YtidgomffmeplaaaDoor
open Go.ChangeShapes Go.WideShapes Go.ChangeAt Go.RowKit
set_option linter.unusedVariables false

section
variable {H : Type} {enc : TypeId × Value → H} {w : World} {base : Nat} {sp : Nat → Bool} {held : Bool}

theorem cell_u8 {n : Nat} {c : Value} {y : DataW H × List MemPlace} (h : DataW.trod enc Tryd.prog w base sp held n 5 [c] = some y) : ∃ x : UInt8, c = .int .u8 (x.toNat : Int) := by
  obtain ⟨z, e, _, hw⟩ := DataW.trod_int Tryd.underlying5 h
  have hb := bounds_u8 hw
  refine ⟨UInt8.ofNat z.toNat, ?_⟩
  have : c = .int .u8 z := by simpa using e
  rw [this]
  congr 1
  rw [UInt8.toNat_ofNat']
  omega

theorem u8_cells : Tryd.prog.cellsOf 5 = 1 := by kernel_rfl
theorem addr_cellsOf : Tryd.prog.cellsOf 30 = 6 := by kernel_rfl

theorem addr_cells {n : Nat} {c0 c1 c2 c3 c4 c5 : Value} {y : DataW H × List MemPlace} (h : DataW.trod enc Tryd.prog w base sp held n 30 [c0, c1, c2, c3, c4, c5] = some y) :
    ∃ x0 x1 x2 x3 x4 x5 : UInt8, c0 = .int .u8 (x0.toNat : Int) ∧ c1 = .int .u8 (x1.toNat : Int) ∧ c2 = .int .u8 (x2.toNat : Int) ∧ c3 = .int .u8 (x3.toNat : Int) ∧ c4 = .int .u8 (x4.toNat : Int) ∧ c5 = .int .u8 (x5.toNat : Int) := by
  obtain ⟨ys, m, _, _, _, hl, hel⟩ := DataW.trod_array Tryd.underlying30 h
  have g : ∀ i, i < 6 → ∃ y, DataW.trod enc Tryd.prog w base sp held m 5 (([c0, c1, c2, c3, c4, c5].drop (i * 1)).take 1) = some y := fun i hi => by
    have := hel i hi
    rw [u8_cells] at this
    exact ⟨_, this.trans (List.getElem?_eq_getElem (by omega))⟩
  obtain ⟨_, g0⟩ := g 0 (by omega)
  obtain ⟨_, g1⟩ := g 1 (by omega)
  obtain ⟨_, g2⟩ := g 2 (by omega)
  obtain ⟨_, g3⟩ := g 3 (by omega)
  obtain ⟨_, g4⟩ := g 4 (by omega)
  obtain ⟨_, g5⟩ := g 5 (by omega)
  obtain ⟨x0, e0⟩ := cell_u8 g0
  obtain ⟨x1, e1⟩ := cell_u8 g1
  obtain ⟨x2, e2⟩ := cell_u8 g2
  obtain ⟨x3, e3⟩ := cell_u8 g3
  obtain ⟨x4, e4⟩ := cell_u8 g4
  obtain ⟨x5, e5⟩ := cell_u8 g5
  exact ⟨x0, x1, x2, x3, x4, x5, e0, e1, e2, e3, e4, e5⟩

theorem open_qos {b0 : Nat} {v : Value} {d : DataW H} {ps : List MemPlace} (hval : Value.okWide Tryd.prog w .any b0 32 v) (hd : DataW.Trod enc Tryd.prog w base (fun _ => true) held 32 v d ps) :
    ∃ (a : Nat → UInt8) (tid seq : Int) (r m e : Bool) (A : Option Addr) (n C : Nat) (body : List UInt8), v = qv a tid seq r m e A n C ∧ Row w 1 A n C (body.map u8v) ∧ (Lit.int .i64 tid).wf = true ∧ (Lit.int .i64 seq).wf = true := by
  unfold Value.okWide at hval
  rw [Tryd.underlying32] at hval
  obtain ⟨cs, rfl, hsz, _⟩ := hval
  obtain ⟨fuel, hf⟩ := hd
  obtain ⟨l⟩ := cs
  have hf : DataW.trod enc Tryd.prog w base (fun _ => true) held fuel 32 l = some (d, ps) := hf
  have hsz : l.length = 24 := hsz.trans (by kernel_rfl)
  obtain ⟨xs, k, _, _, _, hlen, hfld⟩ := DataW.trod_struct Tryd.underlying32 hf
  have hlen : xs.length = 9 := hlen
  match l, hsz with
  | [c0, c1, c2, c3, c4, c5, c6, c7, c8, c9, c10, c11, c12, c13, c14, c15, c16, c17, c18, c19, c20, c21, c22, c23], _ =>
  have g : ∀ i, i < 9 → ∃ y, xs[i]? = some y := fun i hi => ⟨_, List.getElem?_eq_getElem (by omega)⟩
  have one : ∀ t, t = 3 ∨ t = 4 ∨ t = 24 → Tryd.prog.cellsOf t = 1 := by rintro t (rfl | rfl | rfl) <;> kernel_rfl
  have f0 : DataW.trod enc Tryd.prog w base (fun _ => true) held k 30 (([c0, c1, c2, c3, c4, c5, c6, c7, c8, c9, c10, c11, c12, c13, c14, c15, c16, c17, c18, c19, c20, c21, c22, c23].drop 0).take (Tryd.prog.cellsOf 30)) = xs[0]? := hfld 0 _ rfl
  have f1 : DataW.trod enc Tryd.prog w base (fun _ => true) held k 30 (([c0, c1, c2, c3, c4, c5, c6, c7, c8, c9, c10, c11, c12, c13, c14, c15, c16, c17, c18, c19, c20, c21, c22, c23].drop 6).take (Tryd.prog.cellsOf 30)) = xs[1]? := hfld 1 _ rfl
  have f2 : DataW.trod enc Tryd.prog w base (fun _ => true) held k 30 (([c0, c1, c2, c3, c4, c5, c6, c7, c8, c9, c10, c11, c12, c13, c14, c15, c16, c17, c18, c19, c20, c21, c22, c23].drop 12).take (Tryd.prog.cellsOf 30)) = xs[2]? := hfld 2 _ rfl
  have f3 : DataW.trod enc Tryd.prog w base (fun _ => true) held k 3 (([c0, c1, c2, c3, c4, c5, c6, c7, c8, c9, c10, c11, c12, c13, c14, c15, c16, c17, c18, c19, c20, c21, c22, c23].drop 18).take (Tryd.prog.cellsOf 3)) = xs[3]? := hfld 3 _ rfl
  have f4 : DataW.trod enc Tryd.prog w base (fun _ => true) held k 3 (([c0, c1, c2, c3, c4, c5, c6, c7, c8, c9, c10, c11, c12, c13, c14, c15, c16, c17, c18, c19, c20, c21, c22, c23].drop 19).take (Tryd.prog.cellsOf 3)) = xs[4]? := hfld 4 _ rfl
  have f5 : DataW.trod enc Tryd.prog w base (fun _ => true) held k 4 (([c0, c1, c2, c3, c4, c5, c6, c7, c8, c9, c10, c11, c12, c13, c14, c15, c16, c17, c18, c19, c20, c21, c22, c23].drop 20).take (Tryd.prog.cellsOf 4)) = xs[5]? := hfld 5 _ rfl
  have f6 : DataW.trod enc Tryd.prog w base (fun _ => true) held k 4 (([c0, c1, c2, c3, c4, c5, c6, c7, c8, c9, c10, c11, c12, c13, c14, c15, c16, c17, c18, c19, c20, c21, c22, c23].drop 21).take (Tryd.prog.cellsOf 4)) = xs[6]? := hfld 6 _ rfl
  have f7 : DataW.trod enc Tryd.prog w base (fun _ => true) held k 4 (([c0, c1, c2, c3, c4, c5, c6, c7, c8, c9, c10, c11, c12, c13, c14, c15, c16, c17, c18, c19, c20, c21, c22, c23].drop 22).take (Tryd.prog.cellsOf 4)) = xs[7]? := hfld 7 _ rfl
  have f8 : DataW.trod enc Tryd.prog w base (fun _ => true) held k 24 (([c0, c1, c2, c3, c4, c5, c6, c7, c8, c9, c10, c11, c12, c13, c14, c15, c16, c17, c18, c19, c20, c21, c22, c23].drop 23).take (Tryd.prog.cellsOf 24)) = xs[8]? := hfld 8 _ rfl
  rw [addr_cellsOf] at f0 f1 f2
  rw [one _ (by decide)] at f3 f4 f5 f6 f7 f8
  obtain ⟨y0, e0⟩ := g 0 (by omega)
  obtain ⟨y1, e1⟩ := g 1 (by omega)
  obtain ⟨y2, e2⟩ := g 2 (by omega)
  obtain ⟨y3, e3⟩ := g 3 (by omega)
  obtain ⟨y4, e4⟩ := g 4 (by omega)
  obtain ⟨y5, e5⟩ := g 5 (by omega)
  obtain ⟨y6, e6⟩ := g 6 (by omega)
  obtain ⟨y7, e7⟩ := g 7 (by omega)
  obtain ⟨y8, e8⟩ := g 8 (by omega)
  rw [e0] at f0
  rw [e1] at f1
  rw [e2] at f2
  rw [e3] at f3
  rw [e4] at f4
  rw [e5] at f5
  rw [e6] at f6
  rw [e7] at f7
  rw [e8] at f8
  obtain ⟨x0, x1, x2, x3, x4, x5, rfl, rfl, rfl, rfl, rfl, rfl⟩ := addr_cells f0
  obtain ⟨x6, x7, x8, x9, x10, x11, rfl, rfl, rfl, rfl, rfl, rfl⟩ := addr_cells f1
  obtain ⟨x12, x13, x14, x15, x16, x17, rfl, rfl, rfl, rfl, rfl, rfl⟩ := addr_cells f2
  obtain ⟨tid, q3, _, w3⟩ := DataW.trod_int Tryd.underlying3 f3
  obtain ⟨seq, q4, _, w4⟩ := DataW.trod_int Tryd.underlying3 f4
  obtain ⟨r, q5, _⟩ := DataW.trod_bool Tryd.underlying4 f5
  obtain ⟨m, q6, _⟩ := DataW.trod_bool Tryd.underlying4 f6
  obtain ⟨e, q7, _⟩ := DataW.trod_bool Tryd.underlying4 f7
  have hbody : ∃ (A : Option Addr) (n C : Nat) (body : List UInt8), c23 = .slice A n C ∧ Row w 1 A n C (body.map u8v) := by
    rcases open_ints Tryd.underlying24 Tryd.underlying5 (by kernel_rfl) f8 with ⟨hcs, _⟩ | ⟨x, l, c, zs, hcs, _, hl, hm, hz, _, hcell, hwz⟩
    · exact ⟨none, 0, 0, [], by simpa using hcs, row_nil _ _⟩
    · have := row_of_ints hl hm (by simpa using hz) hcell
      rw [bytes_of (fun n hn => hwz n (List.mem_of_mem_take hn))] at this
      exact ⟨_, _, _, _, by simpa using hcs, this⟩
  obtain ⟨A, n, C, body, q8, hrow⟩ := hbody
  refine ⟨fun i => [x0, x1, x2, x3, x4, x5, x6, x7, x8, x9, x10, x11, x12, x13, x14, x15, x16, x17].getD i 0, tid, seq, r, m, e, A, n, C, body, ?_, hrow, w3, w4⟩
  have q3' : c18 = .int .i64 tid := by simpa using q3
  have q4' : c19 = .int .i64 seq := by simpa using q4
  have q5' : c20 = .bool r := by simpa using q5
  have q6' : c21 = .bool m := by simpa using q6
  have q7' : c22 = .bool e := by simpa using q7
  subst q3' q4' q5' q6' q7' q8
  rfl
end
end Go.Proofs.YtidgomffmeplaaaDoor
