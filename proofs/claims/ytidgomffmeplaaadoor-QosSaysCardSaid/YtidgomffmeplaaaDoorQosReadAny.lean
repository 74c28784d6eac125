/-
  qos.Read of any bytes, in one law; what it says of a frame's own bytes.
-/
import Derived.Test.YtidgomffmeplaaaDoorQosRead
import Derived.Test.YtidgomffmeplaaaDoorQosBytes
namespace Go.Proofs.YtidgomffmeplaaaDoor
open Go.ChangeShapes Go.WideShapes Go.ChangeAt Go.RowKit
set_option linter.unusedVariables false

/-- what is read of bytes that are a frame -/
def QRead (xs : List UInt8) (a : Nat → UInt8) (tid seq : Int) (r m e : Bool) (body : List UInt8) : Prop :=
  rdErr xs = none → a = rdA xs ∧ tid = rdTid (xs.getD 24 0) ∧ seq = rdSeq (xs.getD 22 0) (xs.getD 23 0) ∧ r = bitAt (xs.getD 1 0) 3 ∧ m = bitAt (xs.getD 1 0) 5 ∧ e = bitAt (xs.getD 24 0) 4 ∧ body = xs.drop 26

theorem qosRead_any (A : Option Addr) (n C : Nat) (xs : List UInt8) (w : World) {E : Nat → Addr} (hE : Errs [0, 1, 2, 4] w E) (hb : Row w 1 A n C (xs.map u8v)) :
    Calls Tryd.prog 14 #[.slice A n C] w fun en w' => ∃ a tid seq r m e A2 n2 C2 body, en = .returned (.tuple #[qv a tid seq r m e A2 n2 C2, errO E (rdErr xs)]) ∧
      OwnU8 w' w.heap.size A2 n2 C2 body ∧ QRead xs a tid seq r m e body ∧ Below w.heap.size w w' := by
  cases h : rdErr xs with
  | none =>
    refine (qosRead_yes A n C xs w hb h).mono ?_
    rintro en w' ⟨A2, n2, C2, rfl, ho, hbw⟩
    exact ⟨_, _, _, _, _, _, A2, n2, C2, _, rfl, ho, fun _ => ⟨rfl, rfl, rfl, rfl, rfl, rfl, rfl⟩, hbw⟩
  | some i =>
    refine (qosRead_no A n C xs w hE hb i h).mono ?_
    rintro en w' ⟨rfl, hbw⟩
    refine ⟨fun _ => 0, 0, 0, false, false, false, none, 0, 0, [], rfl, ownU8_nil _ _, fun hn => ?_, hbw⟩
    rw [h] at hn; cases hn

theorem rdErr_in {xs : List UInt8} (i : Nat) (h : rdErr xs = some i) : i ∈ [0, 1, 2, 4] := by
  unfold rdErr at h
  split at h
  · injection h with h; subst h; decide
  · split at h
    · injection h with h; subst h; decide
    · split at h
      · injection h with h; subst h; decide
      · split at h
        · injection h with h; subst h; decide
        · cases h
theorem rdErr_all {xs : List UInt8} (i : Nat) (h : rdErr xs = some i) : i ∈ allErr := by
  have := rdErr_in i h
  simp only [List.mem_cons, List.not_mem_nil, or_false] at this
  rcases this with rfl | rfl | rfl | rfl <;> decide

theorem qhead_end (tid : Int) (e : Bool) (h0 : 0 ≤ tid) (h1 : tid < 8) : (UInt8.ofNat (qtid tid e)).toNat = tid.toNat + (if e then 16 else 0) := by
  have := qtid_lt h0 h1 e
  rw [UInt8.toNat_ofNat']; unfold qtid at *; omega

/-- the error of a frame's bytes whose first two may be turned, and whose rest may be anything -/
theorem rdErr_turned (a : Nat → UInt8) (tid seq : Int) (r m e : Bool) (rest : List UInt8) (h0 : 0 ≤ tid) (h1 : tid < 8) (x y : UInt8) :
    rdErr (x :: y :: ((qhead a tid seq r m e).drop 2 ++ rest)) =
      if x ≠ 0x88 then some 4 else if (y == 2 || y == 10 || y == 34 || y == 42) = false then some 1 else if 1500 < rest.length then some 2 else none := by
  have hl : (x :: y :: ((qhead a tid seq r m e).drop 2 ++ rest)).length = 26 + rest.length := by
    simp [qhead, addrs]; omega
  have ht := qhead_end tid e h0 h1
  have hs : shapeOk y 0 0 (UInt8.ofNat (seq.toNat * 16 % 256)) (UInt8.ofNat (qtid tid e)) 0 = (y == 2 || y == 10 || y == 34 || y == 42) := by
    unfold shapeOk
    rw [ht, UInt8.toNat_ofNat']
    have g : (seq.toNat * 16 % 256) % 2 ^ 8 % 16 = 0 := by omega
    rw [g]
    cases e
    · have : tid.toNat < 8 := by omega
      simp [this]
    · have : ¬ tid.toNat + 16 < 8 := by omega
      have h2 : tid.toNat + 16 < 24 := by omega
      have h3 : 16 ≤ tid.toNat + 16 := by omega
      simp [this, h2, h3]
  unfold rdErr
  rw [if_neg (by rw [hl]; omega), hl]
  have e0 : (x :: y :: ((qhead a tid seq r m e).drop 2 ++ rest)).getD 0 0 = x := rfl
  have e1 : (x :: y :: ((qhead a tid seq r m e).drop 2 ++ rest)).getD 1 0 = y := rfl
  have e2 : (x :: y :: ((qhead a tid seq r m e).drop 2 ++ rest)).getD 2 0 = 0 := rfl
  have e3 : (x :: y :: ((qhead a tid seq r m e).drop 2 ++ rest)).getD 3 0 = 0 := rfl
  have e22 : (x :: y :: ((qhead a tid seq r m e).drop 2 ++ rest)).getD 22 0 = UInt8.ofNat (seq.toNat * 16 % 256) := rfl
  have e24 : (x :: y :: ((qhead a tid seq r m e).drop 2 ++ rest)).getD 24 0 = UInt8.ofNat (qtid tid e) := rfl
  have e25 : (x :: y :: ((qhead a tid seq r m e).drop 2 ++ rest)).getD 25 0 = 0 := rfl
  rw [e0, e1, e2, e3, e22, e24, e25, hs]
  by_cases hr : 1500 < rest.length
  · rw [if_pos (show 1526 < 26 + rest.length by omega), if_pos hr]
  · rw [if_neg (show ¬ 1526 < 26 + rest.length by omega), if_neg hr]

theorem qflags_form (r m : Bool) : (UInt8.ofNat (qflags r m) == 2 || UInt8.ofNat (qflags r m) == 10 || UInt8.ofNat (qflags r m) == 34 || UInt8.ofNat (qflags r m) == 42) = true := by
  cases r <;> cases m <;> decide
/-- the error of a frame's own bytes with more behind them -/
theorem rdErr_own (a : Nat → UInt8) (tid seq : Int) (r m e : Bool) (rest : List UInt8) (h0 : 0 ≤ tid) (h1 : tid < 8) :
    rdErr (qhead a tid seq r m e ++ rest) = if 1500 < rest.length then some 2 else none := by
  have := rdErr_turned a tid seq r m e rest h0 h1 0x88 (UInt8.ofNat (qflags r m))
  rw [if_neg (by simp), if_neg (by rw [qflags_form]; simp)] at this
  exact this
theorem rdErr_short {xs : List UInt8} (h : xs.length < 26) : rdErr xs = some 0 := by unfold rdErr; rw [if_pos h]
theorem u8_of_wf {z : Int} (h : (Lit.int .u8 z).wf = true) : ∃ x : UInt8, z = (x.toNat : Int) := by
  have hb := bounds_u8 h
  refine ⟨UInt8.ofNat z.toNat, ?_⟩
  rw [UInt8.toNat_ofNat']
  omega
theorem Row.pre {w : World} {A : Option Addr} {len cap : Nat} {vs : List Value} (h : Row w 1 A len cap vs) {k : Nat} (hk : k ≤ len) : Row w 1 A k cap (vs.take k) := by
  obtain ⟨h1, h2, h3, h4, h5⟩ := h
  refine ⟨by simp; omega, by omega, h3, h4, fun hl => ?_⟩
  obtain ⟨b, off, e, hb, hc⟩ := h5 (by omega)
  refine ⟨b, off, e, hb, fun i u hu => hc i u ?_⟩
  rw [List.getElem?_take] at hu
  split at hu
  · exact hu
  · cases hu
end Go.Proofs.YtidgomffmeplaaaDoor
