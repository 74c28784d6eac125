/-
  What is read of any bytes; the document's frames as bytes.
-/
import Derived.Test.YtoagmehgiaamlaaDoorRefReadQos
import Derived.Test.YtoagmehgiaamlaaDoorRefQosBytes
namespace Go.Proofs.YtoagmehgiaamlaaDoor
open Go.ChangeShapes Go.WideShapes Go.ChangeAt Go.RowKit
set_option linter.unusedVariables false

theorem rqosBytes_any (a : Nat → UInt8) (tid seq : Int) (r m e : Bool) (A : Option Addr) (n C : Nat) (body : List UInt8) (w : World) (hb : Row w 1 A n C (body.map u8v)) :
    Calls Tryd.prog 10 #[qv a tid seq r m e A n C] w fun en w' => ∃ A2 n2 C2, en = .returned (.tuple #[.slice A2 n2 C2, .int .i64 (errCode (qerr tid seq n))]) ∧ OwnU8 w' w.heap.size A2 n2 C2 (qres a tid seq r m e n body) ∧ Below w.heap.size w w' := by
  by_cases h : qok tid seq n
  · have hB : qokB tid seq n = true := by simp [qokB, h]
    refine (rqosBytes_yes a tid seq r m e A n C body w hb h).mono ?_
    rintro en w' ⟨A2, n2, C2, rfl, ho, hbw⟩
    exact ⟨A2, n2, C2, by simp [qerr, hB, errCode], by simpa [qres, hB] using ho, hbw⟩
  · have hB : qokB tid seq n = false := by simp [qokB, h]
    refine (rqosBytes_no a tid seq r m e A n C w (Nat.le_trans hb.2.1 hb.2.2.1) h).mono ?_
    rintro en w' ⟨rfl, hbw⟩
    exact ⟨none, 0, 0, by simp [qerr, hB, errCode], by simpa [qres, hB] using ownU8_nil _ _, hbw⟩
/-- what is read, of any bytes -/
structure URead where
  a : Nat → UInt8
  tid : Int
  seq : Int
  r : Bool
  m : Bool
  e : Bool
  body : List UInt8
def uread (xs : List UInt8) : URead := match rdErr xs with
  | none => ⟨rdA xs, rdTid (xs.getD 24 0), rdSeq (xs.getD 22 0) (xs.getD 23 0), bitAt (xs.getD 1 0) 3, bitAt (xs.getD 1 0) 5, bitAt (xs.getD 24 0) 4, xs.drop 26⟩
  | some _ => ⟨fun _ => 0, 0, 0, false, false, false, []⟩
def uv (u : URead) (A : Option Addr) (n C : Nat) : Value := .agg (qcells u.a u.tid u.seq u.r u.m u.e A n C)
theorem readU (A : Option Addr) (n C : Nat) (xs : List UInt8) (w : World) {E : Nat → Addr} (hE : Errs [0, 1, 2, 4] w E) (hb : Row w 1 A n C (xs.map u8v)) :
    Calls Tryd.prog 26 #[.slice A n C] w fun en w' => ∃ A2 n2 C2, en = .returned (.tuple #[uv (uread xs) A2 n2 C2, errO E (rdErr xs)]) ∧ OwnU8 w' w.heap.size A2 n2 C2 (uread xs).body ∧ Below w.heap.size w w' := by
  cases h : rdErr xs with
  | none =>
    refine (qosRead_yes A n C xs w hb h).mono ?_
    rintro en w' ⟨A2, n2, C2, rfl, ho, hbw⟩
    have hu : uread xs = ⟨rdA xs, rdTid (xs.getD 24 0), rdSeq (xs.getD 22 0) (xs.getD 23 0), bitAt (xs.getD 1 0) 3, bitAt (xs.getD 1 0) 5, bitAt (xs.getD 24 0) 4, xs.drop 26⟩ := by unfold uread; rw [h]
    rw [hu]
    exact ⟨A2, n2, C2, rfl, ho, hbw⟩
  | some i =>
    refine (qosRead_no A n C xs w hE hb i h).mono ?_
    rintro en w' ⟨rfl, hbw⟩
    have hu : uread xs = ⟨fun _ => 0, 0, 0, false, false, false, []⟩ := by unfold uread; rw [h]
    rw [hu]
    exact ⟨none, 0, 0, rfl, ownU8_nil _ _, hbw⟩
theorem rreadU (A : Option Addr) (n C : Nat) (xs : List UInt8) (w : World) (hb : Row w 1 A n C (xs.map u8v)) :
    Calls Tryd.prog 34 #[.slice A n C] w fun en w' => ∃ A2 n2 C2, en = .returned (.tuple #[uv (uread xs) A2 n2 C2, .int .i64 (errCode (rdErr xs))]) ∧ OwnU8 w' w.heap.size A2 n2 C2 (uread xs).body ∧ Below w.heap.size w w' := by
  refine (refReadQos_any A n C xs w hb).mono ?_
  rintro en w' ⟨h1, h2, hbw⟩
  cases h : rdErr xs with
  | none =>
    obtain ⟨A2, n2, C2, rfl, ho⟩ := h2 h
    have hu : uread xs = ⟨rdA xs, rdTid (xs.getD 24 0), rdSeq (xs.getD 22 0) (xs.getD 23 0), bitAt (xs.getD 1 0) 3, bitAt (xs.getD 1 0) 5, bitAt (xs.getD 24 0) 4, xs.drop 26⟩ := by unfold uread; rw [h]
    rw [hu]
    exact ⟨A2, n2, C2, rfl, ho, hbw⟩
  | some i =>
    obtain rfl := h1 i h
    have hu : uread xs = ⟨fun _ => 0, 0, 0, false, false, false, []⟩ := by unfold uread; rw [h]
    rw [hu]
    exact ⟨none, 0, 0, rfl, ownU8_nil _ _, hbw⟩
end Go.Proofs.YtoagmehgiaamlaaDoor
