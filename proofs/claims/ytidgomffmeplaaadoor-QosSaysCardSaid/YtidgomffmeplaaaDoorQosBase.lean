/-
  A data frame as a value, and its bytes in plain terms.
-/
import Derived.Test.YtidgomffmeplaaaDoorMem
import Derived.Test.YtidgomffmeplaaaDoorErr
namespace Go.Proofs.YtidgomffmeplaaaDoor
open Go.ChangeShapes Go.WideShapes Go.ChangeAt Go.RowKit
set_option linter.unusedVariables false

/-- a frame's cells: 18 bytes of addresses (To, BSS, From), TID, Seq, Retry, More, EOSP, Body -/
def qcells (a : Nat → UInt8) (tid seq : Int) (r m e : Bool) (A : Option Addr) (n C : Nat) : Array Value := #[.int .u8 ((a 0).toNat : Int), .int .u8 ((a 1).toNat : Int), .int .u8 ((a 2).toNat : Int), .int .u8 ((a 3).toNat : Int), .int .u8 ((a 4).toNat : Int), .int .u8 ((a 5).toNat : Int), .int .u8 ((a 6).toNat : Int), .int .u8 ((a 7).toNat : Int), .int .u8 ((a 8).toNat : Int), .int .u8 ((a 9).toNat : Int), .int .u8 ((a 10).toNat : Int), .int .u8 ((a 11).toNat : Int), .int .u8 ((a 12).toNat : Int), .int .u8 ((a 13).toNat : Int), .int .u8 ((a 14).toNat : Int), .int .u8 ((a 15).toNat : Int), .int .u8 ((a 16).toNat : Int), .int .u8 ((a 17).toNat : Int), .int .i64 tid, .int .i64 seq, .bool r, .bool m, .bool e, .slice A n C]
def qv (a : Nat → UInt8) (tid seq : Int) (r m e : Bool) (A : Option Addr) (n C : Nat) : Value := .agg (qcells a tid seq r m e A n C)
theorem qos_size : (Tryd.prog.info? 32).map (·.size) = some 24 := by kernel_rfl
theorem qcells_size (a : Nat → UInt8) (tid seq : Int) (r m e : Bool) (A : Option Addr) (n C : Nat) : (qcells a tid seq r m e A n C).size = 24 := rfl
theorem qcells_one (a : Nat → UInt8) (tid seq : Int) (r m e : Bool) (A : Option Addr) (n C : Nat) : (qcells a tid seq r m e A n C).all (·.oneCell') = true := by simp [qcells, Value.oneCell']
def acells (a : Nat → UInt8) : Array Value := #[.int .u8 ((a 0).toNat : Int), .int .u8 ((a 1).toNat : Int), .int .u8 ((a 2).toNat : Int), .int .u8 ((a 3).toNat : Int), .int .u8 ((a 4).toNat : Int), .int .u8 ((a 5).toNat : Int), .int .u8 ((a 6).toNat : Int), .int .u8 ((a 7).toNat : Int), .int .u8 ((a 8).toNat : Int), .int .u8 ((a 9).toNat : Int), .int .u8 ((a 10).toNat : Int), .int .u8 ((a 11).toNat : Int), .int .u8 ((a 12).toNat : Int), .int .u8 ((a 13).toNat : Int), .int .u8 ((a 14).toNat : Int), .int .u8 ((a 15).toNat : Int), .int .u8 ((a 16).toNat : Int), .int .u8 ((a 17).toNat : Int)]
def addrs (a : Nat → UInt8) : List UInt8 := [a 0, a 1, a 2, a 3, a 4, a 5, a 6, a 7, a 8, a 9, a 10, a 11, a 12, a 13, a 14, a 15, a 16, a 17]
theorem addrs_length (a : Nat → UInt8) : (addrs a).length = 18 := rfl
/-- may a frame be? -/
def qok (tid seq : Int) (n : Nat) : Prop := 0 ≤ tid ∧ tid < 8 ∧ 0 ≤ seq ∧ seq < 4096 ∧ n ≤ 1500
def qflags (r m : Bool) : Nat := 2 + (if r then 8 else 0) + (if m then 32 else 0)
def qtid (tid : Int) (e : Bool) : Nat := tid.toNat + (if e then 16 else 0)
def qhead (a : Nat → UInt8) (tid seq : Int) (r m e : Bool) : List UInt8 :=
  [0x88, UInt8.ofNat (qflags r m), 0, 0] ++ addrs a ++ [UInt8.ofNat (seq.toNat * 16 % 256), UInt8.ofNat (seq.toNat / 16), UInt8.ofNat (qtid tid e), 0]
def qbytes (a : Nat → UInt8) (tid seq : Int) (r m e : Bool) (body : List UInt8) : List UInt8 := qhead a tid seq r m e ++ body
theorem qhead_length (a : Nat → UInt8) (tid seq : Int) (r m e : Bool) : (qhead a tid seq r m e).length = 26 := rfl
theorem qbytes_length (a : Nat → UInt8) (tid seq : Int) (r m e : Bool) (body : List UInt8) : (qbytes a tid seq r m e body).length = 26 + body.length := by
  unfold qbytes; rw [List.length_append, qhead_length]

/-- the world of qos.Bytes ahead of its loop -/
def qW (w : World) (a : Nat → UInt8) (tid seq : Int) (r m e : Bool) (A : Option Addr) (n C nq : Nat) : World :=
  (((w.alloc (.cells (qcells a tid seq r m e A n C) 32)).drewN nq).alloc (.cells #[.int .u8 136, .int .u8 (qflags r m : Nat), .int .u8 0, .int .u8 0] 5)).alloc (.cells (acells a) 30)
theorem qflags_lt (r m : Bool) : qflags r m < 256 := by cases r <;> cases m <;> decide
theorem qW_facts (w : World) (a : Nat → UInt8) (tid seq : Int) (r m e : Bool) (A : Option Addr) (n C nq : Nat) :
    OwnU8 (qW w a tid seq r m e A n C nq) w.heap.size (some ⟨w.heap.size + 1, 0, none⟩) 4 4 [0x88, UInt8.ofNat (qflags r m), 0, 0] ∧
    Blk (qW w a tid seq r m e A n C nq) (w.heap.size + 2) (acells a) 30 ∧ Blk (qW w a tid seq r m e A n C nq) w.heap.size (qcells a tid seq r m e A n C) 32 ∧ Below w.heap.size w (qW w a tid seq r m e A n C nq) := by
  have hs : ((w.alloc (.cells (qcells a tid seq r m e A n C) 32)).drewN nq).heap.size = w.heap.size + 1 := by simp [World.drewN]
  refine ⟨OwnU8.alloc ?_ _, ?_, (((Blk.new w _ _).drewN nq).alloc _).alloc _, ((((Below.refl _ _).alloc (Nat.le_refl _) _).trans (below_drewN nq)).alloc (by omega) _).alloc (by simp [World.drewN]; omega) _⟩
  · have hb := Blk.new ((w.alloc (.cells (qcells a tid seq r m e A n C) 32)).drewN nq) #[.int .u8 136, .int .u8 (qflags r m : Nat), .int .u8 0, .int .u8 0] 5
    rw [hs] at hb
    refine ⟨rfl, .inr ⟨w.heap.size + 1, 4, _, rfl, by omega, hb, Nat.le_refl _, by simp [maxLen], rfl, ?_⟩⟩
    simp [u8v]
    have := qflags_lt r m
    omega
  · have hb := Blk.new (((w.alloc (.cells (qcells a tid seq r m e A n C) 32)).drewN nq).alloc (.cells #[.int .u8 136, .int .u8 (qflags r m : Nat), .int .u8 0, .int .u8 0] 5)) (acells a) 30
    rw [World.size_alloc, hs] at hb
    exact hb
theorem qtid_no {tid : Int} (h0 : 0 ≤ tid) : tid = ((qtid tid false : Nat) : Int) := by simp [qtid]; omega
theorem or16 : ∀ n : Fin 8, bits .or .u8 ((n.val : Nat) : Int) 16 = ((n.val + 16 : Nat) : Int) := by decide +kernel
theorem qtid_yes {tid : Int} (h0 : 0 ≤ tid) (h1 : tid < 8) : bits .or .u8 tid 16 = ((qtid tid true : Nat) : Int) := by
  obtain ⟨n, rfl⟩ := Int.eq_ofNat_of_zero_le h0
  have := or16 ⟨n, by omega⟩
  simpa [qtid] using this
theorem qtid_lt {tid : Int} (h0 : 0 ≤ tid) (h1 : tid < 8) (e : Bool) : qtid tid e < 256 := by unfold qtid; split <;> omega
def qtail (tid seq : Int) (e : Bool) : List UInt8 := [UInt8.ofNat (seq.toNat * 16 % 256), UInt8.ofNat (seq.toNat / 16), UInt8.ofNat (qtid tid e), 0]
theorem row_tail (w : World) (tid seq : Int) (e : Bool) (t : TypeId) (h0 : 0 ≤ tid) (h1 : tid < 8) (h2 : 0 ≤ seq) (h3 : seq < 4096) :
    Row (w.alloc (.cells #[.int .u8 (seq * 16 % 256), .int .u8 (seq * 16 / 256), .int .u8 (qtid tid e : Nat), .int .u8 0] t)) 1 (some ⟨w.heap.size, 0, none⟩) 4 4 ((qtail tid seq e).map u8v) := by
  have e0 : u8v (UInt8.ofNat (seq.toNat * 16 % 256)) = .int .u8 (seq * 16 % 256) := by
    unfold u8v; rw [UInt8.toNat_ofNat']; congr 1; omega
  have e1 : u8v (UInt8.ofNat (seq.toNat / 16)) = .int .u8 (seq * 16 / 256) := by
    unfold u8v; rw [UInt8.toNat_ofNat']; congr 1; omega
  have e2 : u8v (UInt8.ofNat (qtid tid e)) = .int .u8 (qtid tid e : Nat) := by
    unfold u8v; rw [UInt8.toNat_ofNat']; have := qtid_lt h0 h1 e; congr 1; omega
  have := row_new w #[.int .u8 (seq * 16 % 256), .int .u8 (seq * 16 / 256), .int .u8 (qtid tid e : Nat), .int .u8 0] t
  rcases this with h | h
  · simp only [qtail, List.map_cons, List.map_nil, e0, e1, e2]
    exact h
  · simp [maxLen] at h
theorem qbytes_eq (a : Nat → UInt8) (tid seq : Int) (r m e : Bool) (body : List UInt8) :
    ([0x88, UInt8.ofNat (qflags r m), 0, 0] ++ (addrs a).take (6 * 3)) ++ qtail tid seq e ++ body = qbytes a tid seq r m e body := rfl
instance qokDec (tid seq : Int) (n : Nat) : Decidable (qok tid seq n) := by unfold qok; infer_instance
/-- may a frame be? as a Bool that the walk does not take apart -/
def qokB (tid seq : Int) (n : Nat) : Bool := decide (qok tid seq n)
def qerr (tid seq : Int) (n : Nat) : Option Nat := bif qokB tid seq n then none else some 2
def qres (a : Nat → UInt8) (tid seq : Int) (r m e : Bool) (n : Nat) (body : List UInt8) : List UInt8 := bif qokB tid seq n then qbytes a tid seq r m e body else []

theorem qokB_eq {tid seq : Int} {n : Nat} (p : Prop) [Decidable p] (h : qok tid seq n ↔ p) : qokB tid seq n = decide p := by
  unfold qokB; rw [decide_eq_decide]; exact h
theorem qerr_none {tid seq : Int} {n : Nat} : decide (qerr tid seq n = none) = qokB tid seq n := by
  unfold qerr; cases qokB tid seq n <;> rfl
end Go.Proofs.YtidgomffmeplaaaDoor
