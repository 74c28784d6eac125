/-
  AirLegacy: the walk.
-/
import Derived.Test.YticgdoeamabklaaAirFirst
namespace Go.Proofs.Yticgdoeamabklaa
open Go.ChangeShapes Go.WideShapes Go.ChangeAt Go.RowKit
set_option linter.unusedVariables false

def legC9 : Array Value := #[.int .i64 24, .int .i64 36, .int .i64 48, .int .i64 72, .int .i64 96, .int .i64 144, .int .i64 192, .int .i64 216]
theorem leg_get9 (k : Nat) (hk : k < 8) : (#[Value.int .i64 24, .int .i64 36, .int .i64 48, .int .i64 72, .int .i64 96, .int .i64 144, .int .i64 192, .int .i64 216] : Array Value)[k]? = some (.int .i64 (legP k)) := leg_get k hk
theorem cell_new9 (w : World) (cs : Array Value) (t : TypeId) (k n : Nat) (v : Value) (hn : n = w.heap.size) (h : cs[k]? = some v) : (w.alloc (.cells cs t)).cell? ⟨n, k, none⟩ = some v := by
  subst hn; rw [(Blk.new w cs t).cell]; exact h

set_option maxHeartbeats 4000000 in
theorem airLegacy_walk (w : World) (c : Int) (hc : (Lit.int .i64 c).wf = true) (n : Int) (hn : (Lit.int .i64 n).wf = true) :
    Calls Try.prog 3 #[.int .i64 c, .int .i64 n] w fun e w' => e = .returned (.bool true) ∧ Below w.heap.size w w' := by
  obtain ⟨c0, c1⟩ := bounds_i64 hc
  obtain ⟨n0, n1⟩ := bounds_i64 hn
  clear hc hn
  obtain ⟨k, hk, ek'⟩ := number_nat c 8 (by omega)
  have ek : c % 8 = (k : Int) := ek'
  obtain ⟨p, hp, ep'⟩ := number_nat n 4096 (by omega)
  have ep : n % 4096 = (p : Int) := ep'
  clear ek' ep'
  have hv : validP ⟨1, k, 1, 20, 0⟩ = true := valid_of (by simp only; omega) (by show (k : Int) ≤ 7; omega) (by show (1 : Int) ≤ 1; omega) (by show (1 : Int) ≤ 1; omega) (by show (0 : Int) ≤ 0; omega) (by show (0 : Int) ≤ 0; omega) (by show (20 : Int) ∈ [(20 : Int)]; simp)
  have HV := Lib.hid hv
  clear hv
  have HP := Lib.hid (show ppP ⟨1, k, 1, 20, 0⟩ p = 200 + symsP (legP k) p * 40 by
    rw [ppP, if_pos (ok_of HV.out (by omega) (by omega)), preP, if_pos HV.out, symP, if_pos HV.out, bitsP, if_pos HV.out]; rfl)
  obtain ⟨g0, g1⟩ := leg_bounds (c := (k : Int)) (by omega) (by omega)
  have k1 := syms_self (b := legP k) (n := p) (by omega)
  have k2 := syms_less (b := legP k) (n := p) (by omega)
  have k3 := syms_pos (b := legP k) (n := p) (by omega) (by omega)
  have k4 := syms_top (b := legP k) (n := p) g0 (by omega) (by omega) (by omega)
  go_enter Try.func3, Try.ntmps3
  go_wp2_with fail
  refine (afirst_any _).mono ?_
  rintro e w1 ⟨rfl, hb1⟩
  have B1 := Lib.hid hb1
  clear hb1
  go_wp2_with fail
  refine (number_any c 8 _ (by omega) (by omega) c0 c1).mono ?_
  rintro e w2 ⟨rfl, rfl⟩
  rw [ek]
  clear ek c0 c1
  go_wp2_with fail
  refine (number_any n 4096 _ (by omega) (by omega) n0 n1).mono ?_
  rintro e w2 ⟨rfl, rfl⟩
  rw [ep]
  clear ep n0 n1
  have hcell := cell_new9 w1 _ 3 k w1.heap.size _ rfl (leg_get9 k hk)
  have zB := B1.out.size
  have C1 := Lib.hid (fun w => ppdu_any ⟨1, k, 1, 20, 0⟩ p w (by omega) (by omega))
  have C2 := Lib.hid (fun w => ppdu_any ⟨1, k, 1, 20, 0⟩ (-1) w (by omega) (by omega))
  have C3 := Lib.hid (fun w => ppdu_any ⟨1, k, 1, 20, 0⟩ 1048577 w (by omega) (by omega))
  have C4 := Lib.hid (fun w => most_any ⟨0, 0, 0, 0, 0⟩ 1099511627776 w (by omega) (by omega))
  obtain ⟨T, hT⟩ : ∃ T, ppP ⟨1, k, 1, 20, 0⟩ p = T := ⟨_, rfl⟩
  rw [hT] at C1 HP
  clear hT
  rw [pp_not (ok_no2 (by omega))] at C2
  rw [pp_not (ok_no3 (by omega))] at C3
  rw [show mostP ⟨0, 0, 0, 0, 0⟩ 1099511627776 = -1 by decide +kernel] at C4
  simp only at C1 C2 C3 C4
  generalize symsP (legP k) p = q at *
  generalize legP k = b at *
  have k1' : 22 + 8 * (p : Int) ≤ b * q := by rw [Int.mul_comm b q]; exact k1
  have k2' : b * (q - 1) < 22 + 8 * (p : Int) := by rw [Int.mul_comm b (q - 1)]; exact k2
  have u1 : IntKind.i64.wrap (b * q) = b * q := by
    obtain ⟨_, h⟩ := mul_nn (a := b) (b := q) (by omega) (show b ≤ 216 by omega) (by omega) k4
    exact IntWalk.i64_in _ (by omega)
  have u2 : IntKind.i64.wrap (b * (q - 1)) = b * (q - 1) := by
    obtain ⟨h', h⟩ := mul_nn (a := b) (b := q - 1) (by omega) (show b ≤ 216 by omega) (by omega) (show q - 1 ≤ 9388630 by omega)
    exact IntWalk.i64_in _ (by omega)
  have BB := Lib.hid (B1.out.alloc zB (.cells #[.int .i64 24, .int .i64 36, .int .i64 48, .int .i64 72, .int .i64 96, .int .i64 144, .int .i64 192, .int .i64 216] 3))
  have v1 : 200 ≤ T ∧ T ≤ 400000000 := by have := HP.out; omega
  have v2 : (T - 200) / 40 = q := by have := HP.out; omega
  have v3 : (T == 200 + 40 * q) = true := by have := HP.out; simp; omega
  have v4 : decide (22 + 8 * (p : Int) ≤ b * q) = true := decide_eq_true k1'
  have v5 : decide (b * (q - 1) < 22 + 8 * (p : Int)) = true := decide_eq_true k2'
  clear k1 k2 g0 g1 B1 zB
  go_wp2_with fail
  have HA := Lib.hid (show RtB ((w1.alloc (.cells #[.int .i64 24, .int .i64 36, .int .i64 48, .int .i64 72, .int .i64 96, .int .i64 144, .int .i64 192, .int .i64 216] 3)).alloc (.cells #[.int .i64 1, .int .i64 k, .int .i64 1, .int .i64 20, .int .i64 0] 26)) (w1.heap.size + 1) ⟨1, k, 1, 20, 0⟩ from by
    have h := RtB.new (w1.alloc (.cells #[.int .i64 24, .int .i64 36, .int .i64 48, .int .i64 72, .int .i64 96, .int .i64 144, .int .i64 192, .int .i64 216] 3)) ⟨1, k, 1, 20, 0⟩
    rw [show (w1.alloc (.cells #[.int .i64 24, .int .i64 36, .int .i64 48, .int .i64 72, .int .i64 96, .int .i64 144, .int .i64 192, .int .i64 216] 3)).heap.size = w1.heap.size + 1 by simp] at h; exact h)
  have BBx := Lib.hid (BB.out.alloc BB.out.size (.cells #[.int .i64 1, .int .i64 k, .int .i64 1, .int .i64 20, .int .i64 0] 26))
  clear BB
  have BB := BBx
  clear BBx
  refine (C1.out _).mono ?_
  rintro e w4 ⟨rfl, hb⟩
  have HA4 := Lib.hid (HA.out.below hb (Nat.le_refl _))
  have BB4 := Lib.hid (BB.out.trans (hb.mono BB.out.size))
  clear hb HA BB
  obtain ⟨e0, e1, e2, e3, e4⟩ := HA4.out.cells
  simp only at e0 e1 e2 e3 e4
  go_wp2_with fail
  refine (C2.out _).mono ?_
  rintro e w5 ⟨rfl, hb⟩
  have HA5 := Lib.hid (HA4.out.below hb (Nat.le_refl _))
  have BB5 := Lib.hid (BB4.out.trans (hb.mono BB4.out.size))
  clear hb HA4 BB4
  obtain ⟨e0, e1, e2, e3, e4⟩ := HA5.out.cells
  simp only at e0 e1 e2 e3 e4
  go_wp2_with fail
  refine (C3.out _).mono ?_
  rintro e w6 ⟨rfl, hb⟩
  have HA6 := Lib.hid (HA5.out.below hb (Nat.le_refl _))
  have BB6 := Lib.hid (BB5.out.trans (hb.mono BB5.out.size))
  clear hb HA5 BB5
  obtain ⟨e0, e1, e2, e3, e4⟩ := HA6.out.cells
  simp only at e0 e1 e2 e3 e4
  go_wp2_with fail
  refine (C4.out _).mono ?_
  rintro e w7 ⟨rfl, hb⟩
  have HA7 := Lib.hid (HA6.out.below hb (Nat.le_refl _))
  have BB7 := Lib.hid (BB6.out.trans (hb.mono BB6.out.size))
  clear hb HA6 BB6
  obtain ⟨e0, e1, e2, e3, e4⟩ := HA7.out.cells
  go_wp2_with fail
  go_ret
  exact ⟨rfl, BB7.out⟩
end Go.Proofs.Yticgdoeamabklaa
