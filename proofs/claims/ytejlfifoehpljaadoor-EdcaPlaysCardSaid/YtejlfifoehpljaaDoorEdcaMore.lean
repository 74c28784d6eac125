/-
  Edca: categories that are none; End and Clone; the document's End.
-/
import Derived.Test.YtejlfifoehpljaaDoorEdcaEnd
import Derived.Test.YtejlfifoehpljaaDoorEdcaLeft
import Derived.Test.YtejlfifoehpljaaDoorRefEdca
namespace Go.Proofs.YtejlfifoehpljaaDoor
open Go.ChangeShapes Go.WideShapes Go.ChangeAt Go.RowKit
open Edca
set_option linter.unusedVariables false

theorem unfair {k : Int} (h : k < 0 ∨ 4 ≤ k) : (decide (0 ≤ k) && decide (k < 4)) = false := by
  rcases h with h | h
  · rw [show decide (0 ≤ k) = false from decide_eq_false (by omega)]; rfl
  · rw [show decide (k < 4) = false from decide_eq_false (by omega), Bool.and_false]

theorem window_bad (B : Nat) (k : Int) (h : k < 0 ∨ 4 ≤ k) (w : World) : Calls Tryd.prog 8 #[.pointer (some ⟨B, 0, none⟩), .int .i64 k] w fun e w' => e = .returned (.int .i64 0) ∧ w = w' := by
  have HU := Lib.hid (unfair h)
  clear h
  go_enter Tryd.func8, Tryd.ntmps8
  go_wp2_with fail
  refine (fair_any k _).mono ?_
  rintro e w1 ⟨rfl, rfl⟩
  rw [HU.out]
  go_wp2_with fail
  go_ret
  exact ⟨rfl, rfl⟩
theorem left_bad (B : Nat) (k : Int) (h : k < 0 ∨ 4 ≤ k) (w : World) : Calls Tryd.prog 14 #[.pointer (some ⟨B, 0, none⟩), .int .i64 k] w fun e w' => e = .returned (.tuple #[.int .i64 0, .bool false]) ∧ w = w' := by
  have HU := Lib.hid (unfair h)
  clear h
  go_enter Tryd.func14, Tryd.ntmps14
  go_wp2_with fail
  refine (fair_any k _).mono ?_
  rintro e w1 ⟨rfl, rfl⟩
  rw [HU.out]
  go_wp2_with fail
  go_ret2
  exact ⟨rfl, rfl⟩
theorem end_bad (B : Nat) (k : Int) (h : k < 0 ∨ 4 ≤ k) (v : Bool) (w : World) {E : Nat → Addr} (hE : Errs allErr w E) : Calls Tryd.prog 9 #[.pointer (some ⟨B, 0, none⟩), .int .i64 k, .bool v] w fun e w' => e = .returned (errV E 2) ∧ w = w' := by
  have hc := hE.at_ 2 0 (by decide) rfl
  have HU := Lib.hid (unfair h)
  clear h
  go_enter Tryd.func9, Tryd.ntmps9
  go_wp2_with fail
  refine (fair_any k _).mono ?_
  rintro e w1 ⟨rfl, rfl⟩
  rw [HU.out]
  go_wp2_with fail
  go_ret
  exact ⟨rfl, rfl⟩
theorem rwindow_bad (B : Nat) (k : Int) (h : k < 0 ∨ 4 ≤ k) (w : World) : Calls Tryd.prog 15 #[.pointer (some ⟨B, 0, none⟩), .int .i64 k] w fun e w' => e = .returned (.int .i64 0) ∧ w = w' := by
  rcases h with h | h
  · go_enter Tryd.func15, Tryd.ntmps15
    go_wp2_with fail
    go_ret
    exact ⟨rfl, rfl⟩
  · have h0 : ¬ k < 0 := by omega
    go_enter Tryd.func15, Tryd.ntmps15
    go_wp2_with fail
    go_ret
    exact ⟨rfl, rfl⟩
theorem rend_bad (B : Nat) (k : Int) (h : k < 0 ∨ 4 ≤ k) (v : Bool) (w : World) : Calls Tryd.prog 13 #[.pointer (some ⟨B, 0, none⟩), .int .i64 k, .bool v] w fun e w' => e = .returned (.int .i64 103) ∧ w = w' := by
  rcases h with h | h
  · go_enter Tryd.func13, Tryd.ntmps13
    go_wp2_with fail
    go_ret
    exact ⟨rfl, rfl⟩
  · have h0 : ¬ k < 0 := by omega
    go_enter Tryd.func13, Tryd.ntmps13
    go_wp2_with fail
    go_ret
    exact ⟨rfl, rfl⟩
theorem rend_ill (B k : Nat) (hk : k < 4) (d c : Nat → Int) (g : Int) (hg : max (d k) (fs k) = fs k + g) (h0 : 0 ≤ g) (h1 : g ≤ 1020) (w : World) (hB : Blk w B (rcells d c) 46) :
    Calls Tryd.prog 13 #[.pointer (some ⟨B, 0, none⟩), .int .i64 k, .bool false] w fun e w' => e = .returned (.int .i64 0) ∧ Blk w' B (rcells (upd d k (min (2 * (fs k + g) + 1) (ms k))) c) 46 ∧ w.grownBy w' (some B) := by
  have e1 : (k : Int) < 4 := by omega
  have e0 : (0 : Int) ≤ (k : Int) := by omega
  go_enter Tryd.func13, Tryd.ntmps13
  go_wp2_with fail
  refine (rwider_any B k hk d c g hg h0 h1 _ hB).mono ?_
  rintro e w2 ⟨rfl, hk2, hg2⟩
  go_wp2_with fail
  go_ret
  exact ⟨rfl, hk2, hg2⟩
theorem rend_well (B k : Nat) (hk : k < 4) (d c : Nat → Int) (w : World) (hB : Blk w B (rcells d c) 46) :
    Calls Tryd.prog 13 #[.pointer (some ⟨B, 0, none⟩), .int .i64 k, .bool true] w fun e w' => e = .returned (.int .i64 0) ∧ Blk w' B (rcells (upd d k 0) c) 46 ∧ w.grownBy w' (some B) := by
  have e1 : (k : Int) < 4 := by omega
  have e0 : (0 : Int) ≤ (k : Int) := by omega
  have c2 : w.cell? ⟨B, k, none⟩ = some (.int .i64 (d k)) := (hB.cell _).trans (r_d _ _ k hk)
  have f2 := hB.frozen k
  go_enter Tryd.func13, Tryd.ntmps13
  go_wp2_with fail
  go_ret
  refine ⟨rfl, ?_, but_set _ _ _ _⟩
  have := hB.set_ k (.int .i64 0)
  rw [r_setd _ _ k hk] at this
  exact this

theorem ecells_one (h : Nat → Bool) (l g : Nat → Int) : (ecells h l g).all (·.oneCell') = true := by simp [ecells, Value.oneCell']
theorem eclone_any (B : Nat) (h : Nat → Bool) (l g : Nat → Int) (w : World) (hB : Blk w B (ecells h l g) 30) :
    Calls Tryd.prog 11 #[.pointer (some ⟨B, 0, none⟩)] w fun e w' => e = .returned (.pointer (some ⟨w.heap.size, 0, none⟩)) ∧ Blk w' w.heap.size (ecells h l g) 30 ∧ Below w.heap.size w w' := by
  go_enter Tryd.func11, Tryd.ntmps11
  go_wp2_with (first
    | (refine wpList_load_blk _ (by rfl) 30 _ rfl B rfl 30 _ _ hB Tryd.underlying30 rfl (by kernel_rfl) ?_)
    | (refine wpList_store_blk _ (by rfl) 30 _ _ rfl w.heap.size _ rfl rfl 30 _ (Blk.new _ _ _) (by kernel_rfl) rfl (ecells_one _ _ _) ?_; intro w1 hk1 hg1))
  go_ret
  exact ⟨rfl, hk1, Below.grown ((Below.refl _ _).alloc (Nat.le_refl _) _) hg1 (by simp) (by simp)⟩
end Go.Proofs.YtejlfifoehpljaaDoor
