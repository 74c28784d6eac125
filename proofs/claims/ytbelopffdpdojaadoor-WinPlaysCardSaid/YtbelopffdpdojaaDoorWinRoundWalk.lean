/-
  The chapter's example; WinRound: the walk.
-/
import Derived.Test.YtbelopffdpdojaaDoorWinMore
namespace Go.Proofs.YtbelopffdpdojaaDoor
open Go.ChangeShapes Go.WideShapes Go.ChangeAt Go.RowKit
set_option linter.unusedVariables false

set_option maxHeartbeats 1600000 in
theorem wfirst_any (w : World) : Calls Tryd.prog 7 #[] w fun e w' => e = .returned (.bool true) ∧ Below w.heap.size w w' := by
  go_enter Tryd.func7, Tryd.ntmps7
  go_wp2_with fail
  refine (new_ok 5 1 w (by decide) (by decide) (by decide) (by decide)).mono ?_
  rintro e w1 ⟨rfl, h1, b1⟩
  have z1 := b1.size
  have H1 := Lib.hid h1
  clear h1
  go_wp2_with fail
  refine (next_yes H1.out (by decide) (by decide) (by decide) (by decide) z1).mono ?_
  rintro e w2 ⟨rfl, A2, C2, h2, t2, _⟩
  have b2 := b1.trans (H1.out.belowT (Nat.le_refl _) t2)
  have h2' : Wn w2 w.heap.size w.heap.size A2 C2 ⟨5, 6, 1, [5]⟩ := h2
  have H2 := Lib.hid h2'
  clear h2 h2' t2
  go_wp2_with fail
  refine (next_no H2.out (by decide) (by decide) (by decide)).mono ?_
  rintro e w3 ⟨rfl, n, rfl⟩
  go_wp2_with fail
  go_ret
  exact ⟨rfl, b2.trans (below_drewN n)⟩

/-- numbers one by one, from the lo-th on -/
def rng (S lo n : Nat) : List Int := (List.range n).map fun j => ((S : Int) + ((lo + j : Nat) : Int)) % 4096
theorem rng_len (S lo n : Nat) : (rng S lo n).length = n := by simp [rng]
theorem rng_get (S lo n k : Nat) (h : k < n) : (rng S lo n)[k]? = some (((S : Int) + ((lo + k : Nat) : Int)) % 4096) := by simp [rng, h]
theorem rng_snoc (S lo n : Nat) : rng S lo n ++ [((S : Int) + ((lo + n : Nat) : Int)) % 4096] = rng S lo (n + 1) := by simp [rng, List.range_succ]
theorem rng_tail (S lo n : Nat) : (rng S lo (n + 1)).eraseIdx 0 = rng S (lo + 1) n := by
  apply List.ext_getElem?
  intro j
  rw [List.getElem?_eraseIdx, if_neg (by omega)]
  by_cases h : j < n
  · rw [rng_get _ _ _ _ (by omega), rng_get _ _ _ _ h, show lo + (j + 1) = lo + 1 + j by omega]
  · rw [List.getElem?_eq_none (by rw [rng_len]; omega), List.getElem?_eq_none (by rw [rng_len]; omega)]
/-- the window while lo is the first that is out, i the next -/
def RS (S Z lo i : Nat) : WS := ⟨((S : Int) + (lo : Int)) % 4096, ((S : Int) + (i : Int)) % 4096, (Z : Int), rng S lo (i - lo)⟩
theorem RS_next (S Z lo i : Nat) (h : lo ≤ i) : nextS (RS S Z lo i) = RS S Z lo (i + 1) := by
  have e1 : (((S : Int) + (i : Int)) % 4096 + 1) % 4096 = ((S : Int) + ((i + 1 : Nat) : Int)) % 4096 := by omega
  have e2 : rng S lo (i - lo) ++ [((S : Int) + (i : Int)) % 4096] = rng S lo (i + 1 - lo) := by
    have := rng_snoc S lo (i - lo)
    rw [show lo + (i - lo) = i by omega] at this
    rw [this, show i - lo + 1 = i + 1 - lo by omega]
  simp only [nextS, RS, e1, e2]
theorem RS_done (S Z lo i : Nat) (h : lo < i) : doneS (RS S Z lo i) 0 = RS S Z (lo + 1) i := by
  have e1 : (rng S lo (i - lo)).eraseIdx 0 = rng S (lo + 1) (i - (lo + 1)) := by
    rw [show i - lo = (i - (lo + 1)) + 1 by omega]; exact rng_tail _ _ _
  have e2 : (rng S (lo + 1) (i - (lo + 1))).headD (((S : Int) + (i : Int)) % 4096) = ((S : Int) + ((lo + 1 : Nat) : Int)) % 4096 := by
    rw [List.headD_eq_head?_getD, List.head?_eq_getElem?]
    by_cases hh : i = lo + 1
    · subst hh
      rw [List.getElem?_eq_none (by rw [rng_len]; omega)]
      rfl
    · rw [rng_get _ _ _ _ (by omega)]
      rfl
  simp only [doneS, RS, e1, e2]
theorem RS_room (S Z lo i : Nat) (h : lo ≤ i) (h2 : i - lo < 4096) : room (RS S Z lo i) = max ((Z : Int) - ((i - lo : Nat) : Int)) 0 := by
  have e : (((S : Int) + (i : Int)) % 4096 - ((S : Int) + (lo : Int)) % 4096) % 4096 = ((i - lo : Nat) : Int) := by omega
  simp only [room, RS, e]

set_option maxHeartbeats 3200000 in
theorem winRound_walk (w : World) {E : Nat → Addr} (hE : Errs [2, 6] w E) (start : Int) (hs : (Lit.int .i64 start).wf = true) (size : Int) (hz : (Lit.int .i64 size).wf = true) (n : Int) (hn : (Lit.int .i64 n).wf = true) :
    Calls Tryd.prog 3 #[.int .i64 start, .int .i64 size, .int .i64 n] w fun e w' => e = .returned (.bool true) ∧ Below w.heap.size w w' := by
  obtain ⟨s0, s1⟩ := bounds_i64 hs
  obtain ⟨z0, z1⟩ := bounds_i64 hz
  obtain ⟨n0, n1⟩ := bounds_i64 hn
  obtain ⟨S, hS, eS'⟩ := number_nat start 4096 (by omega)
  obtain ⟨Y, hY, eY'⟩ := number_nat size 64 (by omega)
  obtain ⟨N, hN, eN'⟩ := number_nat n 300 (by omega)
  have eS : start % 4096 = (S : Int) := eS'
  have eY : size % 64 = (Y : Int) := eY'
  have eN : n % 300 = (N : Int) := eN'
  clear hs hz hn eS' eY' eN'
  have HE := Lib.hid hE
  clear hE
  go_enter Tryd.func3, Tryd.ntmps3
  go_wp2_with fail
  refine (wfirst_any _).mono ?_
  rintro e w1 ⟨rfl, b1⟩
  have z1' := b1.size
  go_wp2_with fail
  refine (number_any start 4096 _ (by omega) (by omega) s0 s1).mono ?_
  rintro e w2 ⟨rfl, rfl⟩
  rw [eS]
  go_wp2_with fail
  refine (number_any size 64 _ (by omega) (by omega) z0 z1).mono ?_
  rintro e w2 ⟨rfl, rfl⟩
  rw [eY]
  go_wp2_with fail
  refine (number_any n 300 _ (by omega) (by omega) n0 n1).mono ?_
  rintro e w2 ⟨rfl, rfl⟩
  rw [eN]
  clear eS eY eN
  go_wp2_with fail
  refine (new_ok (S : Int) ((Y : Int) + 1) w1 (by omega) (by omega) (by omega) (by omega)).mono ?_
  rintro e w2 ⟨rfl, h2, b2⟩
  have h2' : Wn w2 w.heap.size w1.heap.size none 0 (RS S (Y + 1) 0 0) := by
    have e : RS S (Y + 1) 0 0 = ⟨(S : Int), (S : Int), (Y : Int) + 1, []⟩ := by
      simp only [RS, rng]
      congr 1 <;> simp <;> omega
    rw [e]
    exact ⟨h2.blk, h2.own.base_le z1'⟩
  have HS2 := Lib.hid h2'
  have b2' := b1.trans (b2.mono z1')
  have HB2 := Lib.hid b2'
  clear h2 h2' b2 b2' b1
  go_wp2_with fail
  go_loopw [10] (fun i wr => ∃ k : Nat, k ≤ N ∧ i = .int .i64 k ∧ ∃ A C, Wn wr w.heap.size w1.heap.size A C (RS S (Y + 1) (k - Y) k) ∧ Below w.heap.size w wr) (fun i _ => N - (intOf i).toNat)
  case atStart => exact ⟨0, Nat.zero_le _, rfl, none, 0, by rw [Nat.zero_sub]; exact HS2.out, HB2.out⟩
  case round =>
    obtain ⟨k, hk, rfl, A, C, hS3, hB3⟩ := hrel
    have HS3 := Lib.hid hS3
    have HB3 := Lib.hid hB3
    have z3 := hB3.size
    clear hS3 hB3 HS2 HB2
    by_cases hkN : k < N
    · have hol : (RS S (Y + 1) (k - Y) k).o.length = k - (k - Y) := rng_len _ _ _
      have HOL := Lib.hid hol
      have hroom : ¬ room (RS S (Y + 1) (k - Y) k) = 0 := by rw [RS_room _ _ _ _ (by omega) (by omega)]; omega
      have HRM := Lib.hid hroom
      clear hol hroom
      go_wp2_with fail
      refine (next_yes HS3.out (by show (0 : Int) ≤ ((Y + 1 : Nat) : Int); omega) (by show ((Y + 1 : Nat) : Int) ≤ 1000000; omega) HRM.out (by rw [HOL.out]; omega) z3).mono ?_
      rintro e w4 ⟨rfl, A4, C4, h4, t4, _⟩
      rw [show (RS S (Y + 1) (k - Y) k).nx = ((S : Int) + (k : Int)) % 4096 from rfl]
      rw [RS_next _ _ _ _ (by omega)] at h4
      have b4 := HB3.out.trans (HS3.out.belowT z1' t4)
      have z4 := b4.size
      have HS4 := Lib.hid h4
      have HB4 := Lib.hid b4
      clear h4 t4 b4
      by_cases hkY : Y ≤ k
      · go_wp2_with fail
        refine (done_yes HS4.out _ 0 (by
          show (rng S (k - Y) (k + 1 - (k - Y)))[0]? = some _
          rw [rng_get _ _ _ _ (by omega)]
          congr 1
          omega) (fun j hj => by omega) (by show (rng S (k - Y) (k + 1 - (k - Y))).length ≤ 1000000; rw [rng_len]; omega) z4).mono ?_
        rintro e w5 ⟨rfl, A5, C5, h5, t5, _⟩
        rw [RS_done _ _ _ _ (by omega)] at h5
        have b5 := HB4.out.trans (HS4.out.belowT z1' t5)
        have HS5 := Lib.hid h5
        have HB5 := Lib.hid b5
        clear h5 t5 b5
        go_wp2_with fail
        go_roundw
        case rel => exact ⟨k + 1, by omega, by go_num, A5, C5, by rw [show k + 1 - Y = k - Y + 1 by omega]; exact HS5.out, HB5.out⟩
        case measure => simp [intOf]; omega
      · go_wp2_with fail
        go_roundw
        case rel => exact ⟨k + 1, by omega, by go_num, A4, C4, by rw [show k + 1 - Y = k - Y by omega]; exact HS4.out, HB4.out⟩
        case measure => simp [intOf]; omega
    · have hke : k = N := by omega
      subst hke
      go_wp2_with fail
      refine (ahead_any HS3.out).mono ?_
      rintro e w4 ⟨rfl, rfl⟩
      rw [show (RS S (Y + 1) (k - Y) k).nx = ((S : Int) + (k : Int)) % 4096 from rfl]
      go_wp2_with fail
      refine (out_any HS3.out (by show (rng S (k - Y) (k - (k - Y))).length ≤ 1000000; rw [rng_len]; omega)).mono ?_
      rintro e w5 ⟨A5, C5, rfl, hown5, hb5⟩
      rw [show (RS S (Y + 1) (k - Y) k).o.length = k - (k - Y) from rng_len _ _ _]
      by_cases hkY : k ≤ Y
      · rw [show k - (k - Y) = k by omega]
        go_wp2_with fail
        go_ret
        exact ⟨ret_bool (by rw [beq_iff_eq]; omega), HB3.out.trans (hb5.mono z3)⟩
      · rw [show k - (k - Y) = Y by omega]
        go_wp2_with fail
        go_ret
        exact ⟨ret_bool (by rw [beq_iff_eq]; omega), HB3.out.trans (hb5.mono z3)⟩
end Go.Proofs.YtbelopffdpdojaaDoor
