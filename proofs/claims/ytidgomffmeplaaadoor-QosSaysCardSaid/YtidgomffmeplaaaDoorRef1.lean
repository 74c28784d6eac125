/-
  muezzinref1's small functions on bytes: out, flag, num, two, addr, six.
-/
import Derived.Test.YtidgomffmeplaaaDoorQosPlain
import Derived.Test.YtidgomffmeplaaaDoorSameQos
import Derived.Test.YtidgomffmeplaaaDoorMem
namespace Go.Proofs.YtidgomffmeplaaaDoor
open Go.ChangeShapes Go.WideShapes Go.ChangeAt Go.RowKit
set_option linter.unusedVariables false

theorem out_any (n m : Int) (w : World) : Calls Tryd.prog 23 #[.int .i64 n, .int .i64 m] w fun e w' => e = .returned (.bool (decide (n < 0) || decide (m < n))) ∧ w = w' := by
  by_cases h : n < 0
  · have h0 : decide (n < 0) = true := decide_eq_true h
    go_enter Tryd.func23, Tryd.ntmps23
    go_wp2_with fail
    go_ret
    exact ⟨ret_bool (by rw [h0]; rfl), rfl⟩
  · have h0 : decide (n < 0) = false := decide_eq_false h
    go_enter Tryd.func23, Tryd.ntmps23
    go_wp2_with fail
    go_ret
    exact ⟨ret_bool (by simp [h0]), rfl⟩

theorem flag_any (b : Bool) (n : Int) (w : World) : Calls Tryd.prog 24 #[.bool b, .int .i64 n] w fun e w' => e = .returned (.int .i64 (bif b then n else 0)) ∧ w = w' := by
  cases b
  all_goals
    go_enter Tryd.func24, Tryd.ntmps24
    go_wp2_with fail
    go_ret
    exact ⟨rfl, rfl⟩

theorem num_any (b off len cap : Nat) (x y : UInt8) (w : World) (hl : 2 ≤ len) (h0 : w.cell? ⟨b, off, none⟩ = some (.int .u8 (x.toNat : Int))) (h1 : w.cell? ⟨b, off + 1, none⟩ = some (.int .u8 (y.toNat : Int))) :
    Calls Tryd.prog 28 #[.slice (some ⟨b, off, none⟩) len cap] w fun e w' => e = .returned (.int .i64 ((x.toNat + 256 * y.toNat : Nat) : Int)) ∧ ∃ n, w' = w.drewN n := by
  have l0 : (0 : Int) < (len : Int) := by omega
  have l1 : (1 : Int) < (len : Int) := by omega
  have hx := UInt8.toNat_lt x
  have hy := UInt8.toNat_lt y
  have TJ := Lib.hid (go_join x y)
  go_enter Tryd.func28, Tryd.ntmps28
  go_wp2_with fail
  go_quiet (fail)
  go_wp2_with fail
  go_ret
  exact ⟨congrArg (fun z => Ending.returned (Value.int .i64 z)) TJ.out, _, rfl⟩

theorem row_pair (w : World) (v : Nat) (hv : v < 65536) (t : TypeId) : Row (w.alloc (.cells #[.int .u8 ((v : Int) % 256), .int .u8 ((v : Int) / 256)] t)) 1 (some ⟨w.heap.size, 0, none⟩) 2 2 ([UInt8.ofNat (v % 256), UInt8.ofNat (v / 256)].map u8v) := by
  have e1 : (v : Int) % 256 = ((UInt8.ofNat (v % 256)).toNat : Int) := by rw [UInt8.toNat_ofNat']; omega
  have e2 : (v : Int) / 256 = ((UInt8.ofNat (v / 256)).toNat : Int) := by rw [UInt8.toNat_ofNat']; omega
  rw [e1, e2]
  rcases row_new w #[.int .u8 ((UInt8.ofNat (v % 256)).toNat : Int), .int .u8 ((UInt8.ofNat (v / 256)).toNat : Int)] t with h | h
  · exact h
  · simp [maxLen] at h

theorem two_any (base : Nat) (A : Option Addr) (n C : Nat) (xs : List UInt8) (v : Nat) (hv : v < 65536) (w : World) (hown : OwnU8 w base A n C xs) (hn : n ≤ 1048576) (hb : base ≤ w.heap.size) :
    Calls Tryd.prog 26 #[.slice A n C, .int .i64 v] w fun e w' => ∃ A2 C2, e = .returned (.slice A2 (n + 2) C2) ∧ OwnU8 w' base A2 (n + 2) C2 (xs ++ [UInt8.ofNat (v % 256), UInt8.ofNat (v / 256)]) ∧ Below base w w' := by
  go_enter Tryd.func26, Tryd.ntmps26
  go_wp2_with (at_builtin; refine append_u8 _ rfl (.tmp 5) (.tmp 11) rfl base A n C _ rfl (hown.alloc _) _ 2 2 [UInt8.ofNat (v % 256), UInt8.ofNat (v / 256)] rfl (row_pair _ _ hv _) (by omega) (by simp; omega) ?_; intro A2 C2 w2 hown2 hg2 hat2)
  go_ret
  exact ⟨A2, C2, rfl, hown2, below_grown ((Below.refl _ _).alloc hb _) (hown.alloc _) (Nat.le_refl _) (by simp; omega) hg2⟩

theorem row_byte (w : World) (x : UInt8) (t : TypeId) : Row (w.alloc (.cells #[.int .u8 (x.toNat : Int)] t)) 1 (some ⟨w.heap.size, 0, none⟩) 1 1 ([x].map u8v) := row_one w _ t

set_option maxHeartbeats 1000000 in
theorem addr_any (base : Nat) (A : Option Addr) (n C : Nat) (xs : List UInt8) (f : Nat → UInt8) (w : World) (hown : OwnU8 w base A n C xs) (hn : n ≤ 1048576) (hb : base ≤ w.heap.size) :
    Calls Tryd.prog 25 #[.slice A n C, av f] w fun e w' => ∃ A2 C2, e = .returned (.slice A2 (n + 6) C2) ∧ OwnU8 w' base A2 (n + 6) C2 (xs ++ [f 0, f 1, f 2, f 3, f 4, f 5]) ∧ Below base w w' := by
  unfold av
  have hk0 := Blk.new w #[.int .u8 ((f 0).toNat : Int), .int .u8 ((f 1).toNat : Int), .int .u8 ((f 2).toNat : Int), .int .u8 ((f 3).toNat : Int), .int .u8 ((f 4).toNat : Int), .int .u8 ((f 5).toNat : Int)] 30
  have ho0 := hown.alloc (.cells #[.int .u8 ((f 0).toNat : Int), .int .u8 ((f 1).toNat : Int), .int .u8 ((f 2).toNat : Int), .int .u8 ((f 3).toNat : Int), .int .u8 ((f 4).toNat : Int), .int .u8 ((f 5).toNat : Int)] 30)
  have hb0 : Below base w (w.alloc (.cells #[.int .u8 ((f 0).toNat : Int), .int .u8 ((f 1).toNat : Int), .int .u8 ((f 2).toNat : Int), .int .u8 ((f 3).toNat : Int), .int .u8 ((f 4).toNat : Int), .int .u8 ((f 5).toNat : Int)] 30)) := (Below.refl _ _).alloc hb _
  go_enter Tryd.func25, Tryd.ntmps25
  go_wp2_with fail
  generalize w.alloc _ = W at *
  go_loopw [5, 0] (fun i s wr => ∃ k : Nat, k ≤ 6 ∧ i = .int .i64 k ∧ ∃ A2 C2, s = .slice A2 (n + k) C2 ∧ OwnU8 wr base A2 (n + k) C2 (xs ++ (List.range k).map f) ∧ Blk wr w.heap.size #[.int .u8 ((f 0).toNat : Int), .int .u8 ((f 1).toNat : Int), .int .u8 ((f 2).toNat : Int), .int .u8 ((f 3).toNat : Int), .int .u8 ((f 4).toNat : Int), .int .u8 ((f 5).toNat : Int)] 30 ∧ Below base w wr) (fun i _ _ => 6 - (intOf i).toNat)
  case atStart => exact ⟨0, by omega, rfl, A, C, rfl, by simpa using ho0, hk0, hb0⟩
  case round =>
    obtain ⟨k, hk, rfl, A1, C1, rfl, ho, hkx, hbw⟩ := hrel
    by_cases hlt : k < 6
    · have d1 : wr.cell? ⟨w.heap.size, k, none⟩ = some (.int .u8 ((f k).toNat : Int)) := (hkx.cell k).trans (six_at f k hlt)
      have e1 : 0 ≤ (k : Int) := by omega
      have e2 : (k : Int) < 6 := by omega
      have hsr := hbw.size
      go_wp2_with (at_builtin; refine append_u8 _ rfl (.tmp 10) (.tmp 14) rfl base A1 (n + k) C1 _ rfl (ho.alloc _) _ 1 1 [f k] rfl (row_byte _ _ _) (by omega) (by simp; omega) ?_; intro A2 C2 w2 hown2 hg2 hat2)
      go_roundw
      case rel =>
        refine ⟨k + 1, by omega, by go_num, A2, C2, rfl, ?_, (hkx.alloc _).grown hg2 (ho.ne_blk hkx (by decide)), below_grown (hbw.alloc (by omega) _) (ho.alloc _) (Nat.le_refl _) (by simp; omega) hg2⟩
        rw [List.range_succ, List.map_append, ← List.append_assoc]
        exact hown2
      case measure => simp [intOf]; omega
    · have hke : k = 6 := by omega
      subst hke
      go_wp2_with fail
      go_ret
      exact ⟨A1, C1, rfl, ho, hbw⟩
end Go.Proofs.YtidgomffmeplaaaDoor
