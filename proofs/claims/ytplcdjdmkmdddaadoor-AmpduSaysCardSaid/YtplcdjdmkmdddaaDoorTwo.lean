/-
  muezzinref1's num, two.
-/
import Derived.Test.YtplcdjdmkmdddaaDoorJoin
import Derived.Test.YtplcdjdmkmdddaaDoorMem
namespace Go.Proofs.YtplcdjdmkmdddaaDoor
open Go.ChangeShapes Go.WideShapes Go.ChangeAt Go.RowKit
set_option linter.unusedVariables false

theorem num_any (b off len cap : Nat) (x y : UInt8) (w : World) (hl : 2 ≤ len) (h0 : w.cell? ⟨b, off, none⟩ = some (.int .u8 (x.toNat : Int))) (h1 : w.cell? ⟨b, off + 1, none⟩ = some (.int .u8 (y.toNat : Int))) :
    Calls Tryd.prog 33 #[.slice (some ⟨b, off, none⟩) len cap] w fun e w' => e = .returned (.int .i64 ((x.toNat + 256 * y.toNat : Nat) : Int)) ∧ ∃ n, w' = w.drewN n := by
  have l0 : (0 : Int) < (len : Int) := by omega
  have l1 : (1 : Int) < (len : Int) := by omega
  have hx := UInt8.toNat_lt x
  have hy := UInt8.toNat_lt y
  have TJ := Lib.hid (go_join x y)
  go_enter Tryd.func33, Tryd.ntmps33
  go_wp2_with fail
  go_quiet (fail)
  go_wp2_with fail
  go_ret
  exact ⟨congrArg (fun z => Ending.returned (Value.int .i64 z)) TJ.out, _, rfl⟩

theorem row_pair (w : World) (v : Nat) (hv : v < 65536) (t : TypeId) : Row (w.alloc (.cells #[.int .u8 ((v : Int) % 256), .int .u8 ((v : Int) / 256)] t)) 1 (some ⟨w.heap.size, 0, none⟩) 2 2 ([UInt8.ofNat (v % 256), UInt8.ofNat (v / 256)].map u8v) := by
  have e1 : (v : Int) % 256 = ((UInt8.ofNat (v % 256)).toNat : Int) := by rw [UInt8.toNat_ofNat']; omega
  have e2 : (v : Int) / 256 = ((UInt8.ofNat (v / 256)).toNat : Int) := by rw [UInt8.toNat_ofNat']; omega
  rw [e1, e2]
  rcases row_new w #[.int .u8 ((UInt8.ofNat (v % 256)).toNat : Int), .int .u8 ((UInt8.ofNat (v / 256)).toNat : Int)] t with h | h
  · exact h
  · simp [maxLen] at h

theorem two_any (base : Nat) (A : Option Addr) (n C : Nat) (xs : List UInt8) (v : Nat) (hv : v < 65536) (w : World) (hown : OwnU8 w base A n C xs) (hn : n ≤ 1048576) (hb : base ≤ w.heap.size) :
    Calls Tryd.prog 29 #[.slice A n C, .int .i64 v] w fun e w' => ∃ A2 C2, e = .returned (.slice A2 (n + 2) C2) ∧ OwnU8 w' base A2 (n + 2) C2 (xs ++ [UInt8.ofNat (v % 256), UInt8.ofNat (v / 256)]) ∧ Below base w w' := by
  go_enter Tryd.func29, Tryd.ntmps29
  go_wp2_with (at_builtin; refine append_u8 _ rfl (.tmp 5) (.tmp 11) rfl base A n C _ rfl (hown.alloc _) _ 2 2 [UInt8.ofNat (v % 256), UInt8.ofNat (v / 256)] rfl (row_pair _ _ hv _) (by omega) (by simp; omega) ?_; intro A2 C2 w2 hown2 hg2 hat2)
  go_ret
  exact ⟨A2, C2, rfl, hown2, below_grown ((Below.refl _ _).alloc hb _) (hown.alloc _) (Nat.le_refl _) (by simp; omega) hg2⟩

end Go.Proofs.YtplcdjdmkmdddaaDoor
