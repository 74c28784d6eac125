/-
  Lists of rates of the call's own.
-/
import Derived.Test.YtoagmehgiaamlaaDoorRatePlain
import Derived.Test.YtoagmehgiaamlaaDoorMc
namespace Go.Proofs.YtoagmehgiaamlaaDoor
open Go.ChangeShapes Go.WideShapes Go.ChangeAt Go.RowKit
set_option linter.unusedVariables false

def rtF (r : RT) : List Value := [.int .i64 r.m, .int .i64 r.c, .int .i64 r.s, .int .i64 r.w, .int .i64 r.g]
def rtL (L : List RT) : List Value := L.flatMap rtF
theorem rtL_len (L : List RT) : (rtL L).length = L.length * 5 := flat_len rtF 5 (fun _ => rfl) L
theorem rtL_snoc (L : List RT) (r : RT) : rtL L ++ [.int .i64 r.m, .int .i64 r.c, .int .i64 r.s, .int .i64 r.w, .int .i64 r.g] = rtL (L ++ [r]) := by simp [rtL, rtF]
theorem rtL_get {L : List RT} {k j : Nat} {r : RT} {u : Value} (hj : j < 5) (h : L[k]? = some r) (hu : (rtF r)[j]? = some u) : (rtL L)[k * 5 + j]? = some u := flat_get rtF 5 (fun _ => rfl) L k j hj h hu
theorem info_rate : (Tryd.prog.info? 28).map (fun i => (i.zero, i.size, i.bytes)) = some (some (.agg #[.int .i64 0, .int .i64 0, .int .i64 0, .int .i64 0, .int .i64 0]), 5, 40) := by kernel_rfl
/-- a list of rates of the call's own -/
def OwnR (w : World) (base : Nat) (v : Value) (L : List RT) : Prop := ∃ A n C, v = .slice A n C ∧ n = L.length ∧ w.ownsRow base 28 5 (.slice A n C) n (rtL L)
theorem row_rate (w : World) (r : RT) (t : TypeId) : Row (w.alloc (.cells #[.int .i64 r.m, .int .i64 r.c, .int .i64 r.s, .int .i64 r.w, .int .i64 r.g] t)) 5 (some ⟨w.heap.size, 0, none⟩) 1 1 [.int .i64 r.m, .int .i64 r.c, .int .i64 r.s, .int .i64 r.w, .int .i64 r.g] := by
  refine ⟨rfl, Nat.le_refl _, by simp [maxLen], fun h => by simp at h, fun _ => ⟨w.heap.size, 0, rfl, by simp, fun i u hu => ?_⟩⟩
  rw [Nat.zero_add, (Blk.new w #[.int .i64 r.m, .int .i64 r.c, .int .i64 r.s, .int .i64 r.w, .int .i64 r.g] t).cell i]
  simpa using hu
theorem tops_nat (m : Int) : ∃ N1 N2 N3 : Nat, (topsP m).1 = (N1 : Int) - 1 ∧ (topsP m).2.1 = (N2 : Int) ∧ (topsP m).2.2 = (N3 : Int) - 1 ∧ N1 ≤ 12 ∧ N2 ≤ 8 ∧ N3 ≤ 3 ∧ allP m = rowM m (widthsP m) N3 N2 N1 := by
  have hb : -1 ≤ (topsP m).1 ∧ (topsP m).1 ≤ 11 ∧ 0 ≤ (topsP m).2.1 ∧ (topsP m).2.1 ≤ 8 ∧ -1 ≤ (topsP m).2.2 ∧ (topsP m).2.2 ≤ 2 := by
    unfold topsP; (repeat' split) <;> simp
  refine ⟨((topsP m).1 + 1).toNat, (topsP m).2.1.toNat, ((topsP m).2.2 + 1).toNat, by omega, by omega, by omega, by omega, by omega, by omega, rfl⟩
theorem widths_len (m : Int) : (widthsP m).length ≤ 4 := by unfold widthsP; (repeat' split) <;> simp
theorem mul_le4 {a b A B : Nat} (h1 : a ≤ A) (h2 : b ≤ B) : a * b ≤ A * B := Nat.mul_le_mul h1 h2

end Go.Proofs.YtoagmehgiaamlaaDoor
