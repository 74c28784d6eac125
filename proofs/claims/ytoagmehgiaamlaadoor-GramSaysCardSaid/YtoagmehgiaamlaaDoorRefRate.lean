/-
  The document's rates: width, in, Valid.
-/
import Derived.Test.YtoagmehgiaamlaaDoorRateRow
namespace Go.Proofs.YtoagmehgiaamlaaDoor
open Go.ChangeShapes Go.WideShapes Go.ChangeAt Go.RowKit
set_option linter.unusedVariables false

def wI (w : Int) : Int := if w = 20 then 0 else if w = 40 then 1 else if w = 80 then 2 else if w = 160 then 3 else -1
def inB (n M : Int) : Bool := decide (0 ≤ n) && decide (n ≤ M)
theorem inB_yes {n M : Int} (h0 : 0 ≤ n) (h1 : n ≤ M) : inB n M = true := by simp [inB, h0, h1]
theorem inB_no {n M : Int} (h : n < 0 ∨ M < n) : inB n M = false := by
  unfold inB
  rcases h with h | h
  · rw [decide_eq_false (by omega)]; rfl
  · rw [decide_eq_false (show ¬ n ≤ M by omega), Bool.and_false]

set_option maxHeartbeats 800000 in
theorem width_any (v : Int) (w : World) : Calls Tryd.prog 62 #[.int .i64 v] w fun e w' => e = .returned (.int .i64 (wI v)) ∧ w = w' := by
  have HV := Lib.hid (show wI v = if v = 20 then 0 else if v = 40 then 1 else if v = 80 then 2 else if v = 160 then 3 else -1 from rfl)
  go_enter Tryd.func62, Tryd.ntmps62
  by_cases h1 : v = 20
  · go_wp2_with fail
    go_ret
    exact ⟨ret_i64 (by rw [HV.out, if_pos h1]), rfl⟩
  by_cases h2 : v = 40
  · go_wp2_with fail
    go_ret
    exact ⟨ret_i64 (by rw [HV.out, if_neg h1, if_pos h2]), rfl⟩
  by_cases h3 : v = 80
  · go_wp2_with fail
    go_ret
    exact ⟨ret_i64 (by rw [HV.out, if_neg h1, if_neg h2, if_pos h3]), rfl⟩
  by_cases h4 : v = 160
  · go_wp2_with fail
    go_ret
    exact ⟨ret_i64 (by rw [HV.out, if_neg h1, if_neg h2, if_neg h3, if_pos h4]), rfl⟩
  · go_wp2_with fail
    go_ret
    exact ⟨ret_i64 (by rw [HV.out, if_neg h1, if_neg h2, if_neg h3, if_neg h4]), rfl⟩

set_option maxHeartbeats 800000 in
theorem rin_any (n M : Int) (w : World) : Calls Tryd.prog 63 #[.int .i64 n, .int .i64 M] w fun e w' => e = .returned (.bool (inB n M)) ∧ w = w' := by
  have HV := Lib.hid (show inB n M = (decide (0 ≤ n) && decide (n ≤ M)) from rfl)
  by_cases h0 : 0 ≤ n
  · by_cases h1 : n ≤ M
    · go_enter Tryd.func63, Tryd.ntmps63
      go_wp2_with fail
      go_ret
      exact ⟨ret_bool (by simp [HV.out, h0, h1]), rfl⟩
    · go_enter Tryd.func63, Tryd.ntmps63
      go_wp2_with fail
      go_ret
      exact ⟨ret_bool (by simp [HV.out, h0, h1]), rfl⟩
  · go_enter Tryd.func63, Tryd.ntmps63
    go_wp2_with fail
    go_ret
    exact ⟨ret_bool (by rw [HV.out, decide_eq_false (show ¬ 0 ≤ n by omega)]; rfl), rfl⟩

theorem wI_mem1 (w : Int) : (w ∈ [(20 : Int)]) ↔ wI w = 0 := by unfold wI; (repeat' split) <;> simp <;> omega
theorem wI_mem2 (w : Int) : (w ∈ [(20 : Int), 40]) ↔ (0 ≤ wI w ∧ wI w ≤ 1) := by unfold wI; (repeat' split) <;> simp <;> omega
theorem wI_mem4 (w : Int) : (w ∈ [(20 : Int), 40, 80, 160]) ↔ 0 ≤ wI w := by unfold wI; (repeat' split) <;> simp <;> omega
theorem valid_iff (r : RT) (m : r.m = 1 ∨ r.m = 2 ∨ r.m = 3 ∨ r.m = 4) : validP r = true ↔
    0 ≤ r.c ∧ r.c ≤ (topsP r.m).1 ∧ 1 ≤ r.s ∧ r.s ≤ (topsP r.m).2.1 ∧ 0 ≤ r.g ∧ r.g ≤ (topsP r.m).2.2 ∧ r.w ∈ widthsP r.m :=
  ⟨valid_parts, fun ⟨h1, h2, h3, h4, h5, h6, h7⟩ => valid_of h1 h2 h3 h4 h5 h6 h7⟩
theorem valid1 {r : RT} (m : r.m = 1) : validP r = true ↔ (0 ≤ r.c ∧ r.c ≤ 7) ∧ r.s = 1 ∧ wI r.w = 0 ∧ r.g = 0 := by
  rw [valid_iff r (by omega), m, show widthsP 1 = [20] from rfl, wI_mem1]; simp only [topsP]; simp; omega
theorem valid2 {r : RT} (m : r.m = 2) : validP r = true ↔ (0 ≤ r.c ∧ r.c ≤ 7) ∧ (1 ≤ r.s ∧ r.s ≤ 4) ∧ (0 ≤ wI r.w ∧ wI r.w ≤ 1) ∧ (0 ≤ r.g ∧ r.g ≤ 1) := by
  rw [valid_iff r (by omega), m, show widthsP 2 = [20, 40] from rfl, wI_mem2]; simp only [topsP]; simp; omega
theorem valid3 {r : RT} (m : r.m = 3) : validP r = true ↔ (0 ≤ r.c ∧ r.c ≤ 9) ∧ (1 ≤ r.s ∧ r.s ≤ 8) ∧ 0 ≤ wI r.w ∧ (0 ≤ r.g ∧ r.g ≤ 1) := by
  rw [valid_iff r (by omega), m, show widthsP 3 = [20, 40, 80, 160] from rfl, wI_mem4]; simp only [topsP]; simp; omega
theorem valid4 {r : RT} (m : r.m = 4) : validP r = true ↔ (0 ≤ r.c ∧ r.c ≤ 11) ∧ (1 ≤ r.s ∧ r.s ≤ 8) ∧ 0 ≤ wI r.w ∧ (0 ≤ r.g ∧ r.g ≤ 2) := by
  rw [valid_iff r (by omega), m, show widthsP 4 = [20, 40, 80, 160] from rfl, wI_mem4]; simp only [topsP]; simp; omega
theorem valid5 {r : RT} (m : ¬ (r.m = 1 ∨ r.m = 2 ∨ r.m = 3 ∨ r.m = 4)) : validP r = false := by
  rcases h : validP r
  · rfl
  · exact absurd (valid_gi h).2.2.2.2.2.2 m


set_option maxHeartbeats 3200000 in
theorem rvalid_1 (r : RT) (w : World) (m : r.m = 1) (s0 : -9223372036854775808 ≤ r.s) (s1 : r.s ≤ 9223372036854775807) : Calls Tryd.prog 39 #[.agg #[.int .i64 r.m, .int .i64 r.c, .int .i64 r.s, .int .i64 r.w, .int .i64 r.g]] w fun e w' => e = .returned (.bool (validP r)) ∧ Below w.heap.size w w' := by
  have HM := Lib.hid (valid1 m)
  rw [m]
  clear m
  go_enter Tryd.func39, Tryd.ntmps39
  by_cases c0 : 0 ≤ r.c ∧ r.c ≤ 7
  case neg =>
    have bc : inB r.c 7 = false := inB_no (by omega)
    have HV := Lib.hid (show false = validP r from (Bool.eq_false_iff.2 fun h => by have := HM.out.1 h; omega).symm)
    go_wp2_with (first | (go_at_call 62; refine (width_any r.w _).mono ?_; rintro e w' ⟨rfl, rfl⟩) | (go_at_call 63; refine (rin_any _ _ _).mono ?_; rintro e w' ⟨rfl, rfl⟩))
    go_ret
    exact ⟨ret_bool (by rw [HV.out]), (Below.refl _ _).alloc (Nat.le_refl _) _⟩
  case pos =>
  have bc : inB r.c 7 = true := inB_yes c0.1 c0.2
  by_cases cs : r.s = 1
  case neg =>
    have HC := Lib.hid c0
    clear c0
    have HV := Lib.hid (show false = validP r from (Bool.eq_false_iff.2 fun h => by have := HM.out.1 h; omega).symm)
    go_wp2_with (first | (go_at_call 62; refine (width_any r.w _).mono ?_; rintro e w' ⟨rfl, rfl⟩) | (go_at_call 63; refine (rin_any _ _ _).mono ?_; rintro e w' ⟨rfl, rfl⟩))
    go_ret
    exact ⟨ret_bool (by rw [HV.out]), (Below.refl _ _).alloc (Nat.le_refl _) _⟩
  case pos =>
  by_cases cw : wI r.w = 0
  case neg =>
    have HC := Lib.hid c0
    clear c0
    have HV := Lib.hid (show false = validP r from (Bool.eq_false_iff.2 fun h => by have := HM.out.1 h; omega).symm)
    go_wp2_with (first | (go_at_call 62; refine (width_any r.w _).mono ?_; rintro e w' ⟨rfl, rfl⟩) | (go_at_call 63; refine (rin_any _ _ _).mono ?_; rintro e w' ⟨rfl, rfl⟩))
    go_ret
    exact ⟨ret_bool (by rw [HV.out]), (Below.refl _ _).alloc (Nat.le_refl _) _⟩
  case pos =>
  by_cases cg : r.g = 0
  case neg =>
    have cg' : (r.g == 0) = false := by simp [cg]
    have HC := Lib.hid c0
    clear c0
    have HV := Lib.hid (show false = validP r from (Bool.eq_false_iff.2 fun h => by have := HM.out.1 h; omega).symm)
    go_wp2_with (first | (go_at_call 62; refine (width_any r.w _).mono ?_; rintro e w' ⟨rfl, rfl⟩) | (go_at_call 63; refine (rin_any _ _ _).mono ?_; rintro e w' ⟨rfl, rfl⟩))
    go_ret
    exact ⟨ret_bool (by rw [HV.out]), (Below.refl _ _).alloc (Nat.le_refl _) _⟩
  case pos =>
  have HV := Lib.hid (show true = validP r from (HM.out.2 ⟨by omega, by omega, by omega, by omega⟩).symm)
  clear c0
  go_wp2_with (first | (go_at_call 62; refine (width_any r.w _).mono ?_; rintro e w' ⟨rfl, rfl⟩) | (go_at_call 63; refine (rin_any _ _ _).mono ?_; rintro e w' ⟨rfl, rfl⟩))
  go_ret
  exact ⟨ret_bool (by rw [HV.out]), (Below.refl _ _).alloc (Nat.le_refl _) _⟩

set_option maxHeartbeats 3200000 in
theorem rvalid_2 (r : RT) (w : World) (m : r.m = 2) (s0 : -9223372036854775808 ≤ r.s) (s1 : r.s ≤ 9223372036854775807) : Calls Tryd.prog 39 #[.agg #[.int .i64 r.m, .int .i64 r.c, .int .i64 r.s, .int .i64 r.w, .int .i64 r.g]] w fun e w' => e = .returned (.bool (validP r)) ∧ Below w.heap.size w w' := by
  have HM := Lib.hid (valid2 m)
  rw [m]
  clear m
  go_enter Tryd.func39, Tryd.ntmps39
  by_cases c0 : 0 ≤ r.c ∧ r.c ≤ 7
  case neg =>
    have bc : inB r.c 7 = false := inB_no (by omega)
    have HV := Lib.hid (show false = validP r from (Bool.eq_false_iff.2 fun h => by have := HM.out.1 h; omega).symm)
    go_wp2_with (first | (go_at_call 62; refine (width_any r.w _).mono ?_; rintro e w' ⟨rfl, rfl⟩) | (go_at_call 63; refine (rin_any _ _ _).mono ?_; rintro e w' ⟨rfl, rfl⟩))
    go_ret
    exact ⟨ret_bool (by rw [HV.out]), (Below.refl _ _).alloc (Nat.le_refl _) _⟩
  case pos =>
  have bc : inB r.c 7 = true := inB_yes c0.1 c0.2
  by_cases cm : r.s = -9223372036854775808
  case pos =>
    have bs : inB (wrap64 (-9223372036854775809)) 3 = false := by rw [show wrap64 (-9223372036854775809) = 9223372036854775807 by unfold wrap64; omega]; exact inB_no (by omega)
    have HC := Lib.hid c0
    clear c0
    have HV := Lib.hid (show false = validP r from (Bool.eq_false_iff.2 fun h => by have := HM.out.1 h; omega).symm)
    go_wp2_with (first | (go_at_call 62; refine (width_any r.w _).mono ?_; rintro e w' ⟨rfl, rfl⟩) | (go_at_call 63; refine (rin_any _ _ _).mono ?_; rintro e w' ⟨rfl, rfl⟩))
    go_ret
    exact ⟨ret_bool (by rw [HV.out]), (Below.refl _ _).alloc (Nat.le_refl _) _⟩
  case neg =>
  have cmin : -9223372036854775807 ≤ r.s := by omega
  clear s0 cm
  by_cases cs : 1 ≤ r.s ∧ r.s ≤ 4
  case neg =>
    have bs : inB (r.s - 1) 3 = false := inB_no (by omega)
    have HC := Lib.hid c0
    clear c0
    have HV := Lib.hid (show false = validP r from (Bool.eq_false_iff.2 fun h => by have := HM.out.1 h; omega).symm)
    go_wp2_with (first | (go_at_call 62; refine (width_any r.w _).mono ?_; rintro e w' ⟨rfl, rfl⟩) | (go_at_call 63; refine (rin_any _ _ _).mono ?_; rintro e w' ⟨rfl, rfl⟩))
    go_ret
    exact ⟨ret_bool (by rw [HV.out]), (Below.refl _ _).alloc (Nat.le_refl _) _⟩
  case pos =>
  have bs : inB (r.s - 1) 3 = true := inB_yes (by omega) (by omega)
  by_cases cw : 0 ≤ wI r.w ∧ wI r.w ≤ 1
  case neg =>
    have bw : inB (wI r.w) 1 = false := inB_no (by omega)
    have HC := Lib.hid c0
    clear c0
    have HV := Lib.hid (show false = validP r from (Bool.eq_false_iff.2 fun h => by have := HM.out.1 h; omega).symm)
    go_wp2_with (first | (go_at_call 62; refine (width_any r.w _).mono ?_; rintro e w' ⟨rfl, rfl⟩) | (go_at_call 63; refine (rin_any _ _ _).mono ?_; rintro e w' ⟨rfl, rfl⟩))
    go_ret
    exact ⟨ret_bool (by rw [HV.out]), (Below.refl _ _).alloc (Nat.le_refl _) _⟩
  case pos =>
  have bw : inB (wI r.w) 1 = true := inB_yes cw.1 cw.2
  by_cases cg : 0 ≤ r.g ∧ r.g ≤ 1
  case neg =>
    have bg : inB r.g 1 = false := inB_no (by omega)
    have HC := Lib.hid c0
    clear c0
    have HV := Lib.hid (show false = validP r from (Bool.eq_false_iff.2 fun h => by have := HM.out.1 h; omega).symm)
    go_wp2_with (first | (go_at_call 62; refine (width_any r.w _).mono ?_; rintro e w' ⟨rfl, rfl⟩) | (go_at_call 63; refine (rin_any _ _ _).mono ?_; rintro e w' ⟨rfl, rfl⟩))
    go_ret
    exact ⟨ret_bool (by rw [HV.out]), (Below.refl _ _).alloc (Nat.le_refl _) _⟩
  case pos =>
  have bg : inB r.g 1 = true := inB_yes cg.1 cg.2
  have HV := Lib.hid (show true = validP r from (HM.out.2 ⟨by omega, by omega, by omega, by omega⟩).symm)
  clear c0
  go_wp2_with (first | (go_at_call 62; refine (width_any r.w _).mono ?_; rintro e w' ⟨rfl, rfl⟩) | (go_at_call 63; refine (rin_any _ _ _).mono ?_; rintro e w' ⟨rfl, rfl⟩))
  go_ret
  exact ⟨ret_bool (by rw [HV.out]), (Below.refl _ _).alloc (Nat.le_refl _) _⟩

set_option maxHeartbeats 3200000 in
theorem rvalid_3 (r : RT) (w : World) (m : r.m = 3) (s0 : -9223372036854775808 ≤ r.s) (s1 : r.s ≤ 9223372036854775807) : Calls Tryd.prog 39 #[.agg #[.int .i64 r.m, .int .i64 r.c, .int .i64 r.s, .int .i64 r.w, .int .i64 r.g]] w fun e w' => e = .returned (.bool (validP r)) ∧ Below w.heap.size w w' := by
  have HM := Lib.hid (valid3 m)
  rw [m]
  clear m
  go_enter Tryd.func39, Tryd.ntmps39
  by_cases c0 : 0 ≤ r.c ∧ r.c ≤ 9
  case neg =>
    have bc : inB r.c 9 = false := inB_no (by omega)
    have HV := Lib.hid (show false = validP r from (Bool.eq_false_iff.2 fun h => by have := HM.out.1 h; omega).symm)
    go_wp2_with (first | (go_at_call 62; refine (width_any r.w _).mono ?_; rintro e w' ⟨rfl, rfl⟩) | (go_at_call 63; refine (rin_any _ _ _).mono ?_; rintro e w' ⟨rfl, rfl⟩))
    go_ret
    exact ⟨ret_bool (by rw [HV.out]), (Below.refl _ _).alloc (Nat.le_refl _) _⟩
  case pos =>
  have bc : inB r.c 9 = true := inB_yes c0.1 c0.2
  by_cases cm : r.s = -9223372036854775808
  case pos =>
    have bs : inB (wrap64 (-9223372036854775809)) 7 = false := by rw [show wrap64 (-9223372036854775809) = 9223372036854775807 by unfold wrap64; omega]; exact inB_no (by omega)
    have HC := Lib.hid c0
    clear c0
    have HV := Lib.hid (show false = validP r from (Bool.eq_false_iff.2 fun h => by have := HM.out.1 h; omega).symm)
    go_wp2_with (first | (go_at_call 62; refine (width_any r.w _).mono ?_; rintro e w' ⟨rfl, rfl⟩) | (go_at_call 63; refine (rin_any _ _ _).mono ?_; rintro e w' ⟨rfl, rfl⟩))
    go_ret
    exact ⟨ret_bool (by rw [HV.out]), (Below.refl _ _).alloc (Nat.le_refl _) _⟩
  case neg =>
  have cmin : -9223372036854775807 ≤ r.s := by omega
  clear s0 cm
  by_cases cs : 1 ≤ r.s ∧ r.s ≤ 8
  case neg =>
    have bs : inB (r.s - 1) 7 = false := inB_no (by omega)
    have HC := Lib.hid c0
    clear c0
    have HV := Lib.hid (show false = validP r from (Bool.eq_false_iff.2 fun h => by have := HM.out.1 h; omega).symm)
    go_wp2_with (first | (go_at_call 62; refine (width_any r.w _).mono ?_; rintro e w' ⟨rfl, rfl⟩) | (go_at_call 63; refine (rin_any _ _ _).mono ?_; rintro e w' ⟨rfl, rfl⟩))
    go_ret
    exact ⟨ret_bool (by rw [HV.out]), (Below.refl _ _).alloc (Nat.le_refl _) _⟩
  case pos =>
  have bs : inB (r.s - 1) 7 = true := inB_yes (by omega) (by omega)
  by_cases cw : 0 ≤ wI r.w
  case neg =>
    have HC := Lib.hid c0
    clear c0
    have HV := Lib.hid (show false = validP r from (Bool.eq_false_iff.2 fun h => by have := HM.out.1 h; omega).symm)
    go_wp2_with (first | (go_at_call 62; refine (width_any r.w _).mono ?_; rintro e w' ⟨rfl, rfl⟩) | (go_at_call 63; refine (rin_any _ _ _).mono ?_; rintro e w' ⟨rfl, rfl⟩))
    go_ret
    exact ⟨ret_bool (by rw [HV.out]), (Below.refl _ _).alloc (Nat.le_refl _) _⟩
  case pos =>
  by_cases cg : 0 ≤ r.g ∧ r.g ≤ 1
  case neg =>
    have bg : inB r.g 1 = false := inB_no (by omega)
    have HC := Lib.hid c0
    clear c0
    have HV := Lib.hid (show false = validP r from (Bool.eq_false_iff.2 fun h => by have := HM.out.1 h; omega).symm)
    go_wp2_with (first | (go_at_call 62; refine (width_any r.w _).mono ?_; rintro e w' ⟨rfl, rfl⟩) | (go_at_call 63; refine (rin_any _ _ _).mono ?_; rintro e w' ⟨rfl, rfl⟩))
    go_ret
    exact ⟨ret_bool (by rw [HV.out]), (Below.refl _ _).alloc (Nat.le_refl _) _⟩
  case pos =>
  have bg : inB r.g 1 = true := inB_yes cg.1 cg.2
  have HV := Lib.hid (show true = validP r from (HM.out.2 ⟨by omega, by omega, by omega, by omega⟩).symm)
  clear c0
  go_wp2_with (first | (go_at_call 62; refine (width_any r.w _).mono ?_; rintro e w' ⟨rfl, rfl⟩) | (go_at_call 63; refine (rin_any _ _ _).mono ?_; rintro e w' ⟨rfl, rfl⟩))
  go_ret
  exact ⟨ret_bool (by rw [HV.out]), (Below.refl _ _).alloc (Nat.le_refl _) _⟩

set_option maxHeartbeats 3200000 in
theorem rvalid_4 (r : RT) (w : World) (m : r.m = 4) (s0 : -9223372036854775808 ≤ r.s) (s1 : r.s ≤ 9223372036854775807) : Calls Tryd.prog 39 #[.agg #[.int .i64 r.m, .int .i64 r.c, .int .i64 r.s, .int .i64 r.w, .int .i64 r.g]] w fun e w' => e = .returned (.bool (validP r)) ∧ Below w.heap.size w w' := by
  have HM := Lib.hid (valid4 m)
  rw [m]
  clear m
  go_enter Tryd.func39, Tryd.ntmps39
  by_cases c0 : 0 ≤ r.c ∧ r.c ≤ 11
  case neg =>
    have bc : inB r.c 11 = false := inB_no (by omega)
    have HV := Lib.hid (show false = validP r from (Bool.eq_false_iff.2 fun h => by have := HM.out.1 h; omega).symm)
    go_wp2_with (first | (go_at_call 62; refine (width_any r.w _).mono ?_; rintro e w' ⟨rfl, rfl⟩) | (go_at_call 63; refine (rin_any _ _ _).mono ?_; rintro e w' ⟨rfl, rfl⟩))
    go_ret
    exact ⟨ret_bool (by rw [HV.out]), (Below.refl _ _).alloc (Nat.le_refl _) _⟩
  case pos =>
  have bc : inB r.c 11 = true := inB_yes c0.1 c0.2
  by_cases cm : r.s = -9223372036854775808
  case pos =>
    have bs : inB (wrap64 (-9223372036854775809)) 7 = false := by rw [show wrap64 (-9223372036854775809) = 9223372036854775807 by unfold wrap64; omega]; exact inB_no (by omega)
    have HC := Lib.hid c0
    clear c0
    have HV := Lib.hid (show false = validP r from (Bool.eq_false_iff.2 fun h => by have := HM.out.1 h; omega).symm)
    go_wp2_with (first | (go_at_call 62; refine (width_any r.w _).mono ?_; rintro e w' ⟨rfl, rfl⟩) | (go_at_call 63; refine (rin_any _ _ _).mono ?_; rintro e w' ⟨rfl, rfl⟩))
    go_ret
    exact ⟨ret_bool (by rw [HV.out]), (Below.refl _ _).alloc (Nat.le_refl _) _⟩
  case neg =>
  have cmin : -9223372036854775807 ≤ r.s := by omega
  clear s0 cm
  by_cases cs : 1 ≤ r.s ∧ r.s ≤ 8
  case neg =>
    have bs : inB (r.s - 1) 7 = false := inB_no (by omega)
    have HC := Lib.hid c0
    clear c0
    have HV := Lib.hid (show false = validP r from (Bool.eq_false_iff.2 fun h => by have := HM.out.1 h; omega).symm)
    go_wp2_with (first | (go_at_call 62; refine (width_any r.w _).mono ?_; rintro e w' ⟨rfl, rfl⟩) | (go_at_call 63; refine (rin_any _ _ _).mono ?_; rintro e w' ⟨rfl, rfl⟩))
    go_ret
    exact ⟨ret_bool (by rw [HV.out]), (Below.refl _ _).alloc (Nat.le_refl _) _⟩
  case pos =>
  have bs : inB (r.s - 1) 7 = true := inB_yes (by omega) (by omega)
  by_cases cw : 0 ≤ wI r.w
  case neg =>
    have HC := Lib.hid c0
    clear c0
    have HV := Lib.hid (show false = validP r from (Bool.eq_false_iff.2 fun h => by have := HM.out.1 h; omega).symm)
    go_wp2_with (first | (go_at_call 62; refine (width_any r.w _).mono ?_; rintro e w' ⟨rfl, rfl⟩) | (go_at_call 63; refine (rin_any _ _ _).mono ?_; rintro e w' ⟨rfl, rfl⟩))
    go_ret
    exact ⟨ret_bool (by rw [HV.out]), (Below.refl _ _).alloc (Nat.le_refl _) _⟩
  case pos =>
  by_cases cg : 0 ≤ r.g ∧ r.g ≤ 2
  case neg =>
    have bg : inB r.g 2 = false := inB_no (by omega)
    have HC := Lib.hid c0
    clear c0
    have HV := Lib.hid (show false = validP r from (Bool.eq_false_iff.2 fun h => by have := HM.out.1 h; omega).symm)
    go_wp2_with (first | (go_at_call 62; refine (width_any r.w _).mono ?_; rintro e w' ⟨rfl, rfl⟩) | (go_at_call 63; refine (rin_any _ _ _).mono ?_; rintro e w' ⟨rfl, rfl⟩))
    go_ret
    exact ⟨ret_bool (by rw [HV.out]), (Below.refl _ _).alloc (Nat.le_refl _) _⟩
  case pos =>
  have bg : inB r.g 2 = true := inB_yes cg.1 cg.2
  have HV := Lib.hid (show true = validP r from (HM.out.2 ⟨by omega, by omega, by omega, by omega⟩).symm)
  clear c0
  go_wp2_with (first | (go_at_call 62; refine (width_any r.w _).mono ?_; rintro e w' ⟨rfl, rfl⟩) | (go_at_call 63; refine (rin_any _ _ _).mono ?_; rintro e w' ⟨rfl, rfl⟩))
  go_ret
  exact ⟨ret_bool (by rw [HV.out]), (Below.refl _ _).alloc (Nat.le_refl _) _⟩

set_option maxHeartbeats 800000 in
theorem rvalid_5 (r : RT) (w : World) (m1 : r.m ≠ 1) (m2 : r.m ≠ 2) (m3 : r.m ≠ 3) (m4 : r.m ≠ 4) : Calls Tryd.prog 39 #[.agg #[.int .i64 r.m, .int .i64 r.c, .int .i64 r.s, .int .i64 r.w, .int .i64 r.g]] w fun e w' => e = .returned (.bool (validP r)) ∧ Below w.heap.size w w' := by
  have HN := Lib.hid (show false = validP r from (valid5 (by omega)).symm)
  go_enter Tryd.func39, Tryd.ntmps39
  go_wp2_with (first | (go_at_call 62; refine (width_any r.w _).mono ?_; rintro e w' ⟨rfl, rfl⟩) | (go_at_call 63; refine (rin_any _ _ _).mono ?_; rintro e w' ⟨rfl, rfl⟩))
  go_ret
  exact ⟨ret_bool (by rw [HN.out]), (Below.refl _ _).alloc (Nat.le_refl _) _⟩

theorem rvalid_any (r : RT) (w : World) (s0 : -9223372036854775808 ≤ r.s) (s1 : r.s ≤ 9223372036854775807) : Calls Tryd.prog 39 #[.agg #[.int .i64 r.m, .int .i64 r.c, .int .i64 r.s, .int .i64 r.w, .int .i64 r.g]] w fun e w' => e = .returned (.bool (validP r)) ∧ Below w.heap.size w w' := by
  by_cases h1 : r.m = 1
  · exact rvalid_1 r w h1 s0 s1
  by_cases h2 : r.m = 2
  · exact rvalid_2 r w h2 s0 s1
  by_cases h3 : r.m = 3
  · exact rvalid_3 r w h3 s0 s1
  by_cases h4 : r.m = 4
  · exact rvalid_4 r w h4 s0 s1
  · exact rvalid_5 r w h1 h2 h3 h4
end Go.Proofs.YtoagmehgiaamlaaDoor
