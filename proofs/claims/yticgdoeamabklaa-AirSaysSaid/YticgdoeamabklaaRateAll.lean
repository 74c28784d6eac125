/-
  rate: All.
-/
import Derived.Test.YticgdoeamabklaaRateBits
namespace Go.Proofs.Yticgdoeamabklaa
open Go.ChangeShapes Go.WideShapes Go.ChangeAt Go.RowKit
set_option linter.unusedVariables false

def rtF (r : RT) : List Value := [.int .i64 r.m, .int .i64 r.c, .int .i64 r.s, .int .i64 r.w, .int .i64 r.g]
def rtL (L : List RT) : List Value := L.flatMap rtF
theorem rtL_len (L : List RT) : (rtL L).length = L.length * 5 := flat_len rtF 5 (fun _ => rfl) L
theorem rtL_snoc (L : List RT) (r : RT) : rtL L ++ [.int .i64 r.m, .int .i64 r.c, .int .i64 r.s, .int .i64 r.w, .int .i64 r.g] = rtL (L ++ [r]) := by simp [rtL, rtF]
theorem rtL_get {L : List RT} {k j : Nat} {r : RT} {u : Value} (hj : j < 5) (h : L[k]? = some r) (hu : (rtF r)[j]? = some u) : (rtL L)[k * 5 + j]? = some u := flat_get rtF 5 (fun _ => rfl) L k j hj h hu
theorem info_rate : (Try.prog.info? 26).map (fun i => (i.zero, i.size, i.bytes)) = some (some (.agg #[.int .i64 0, .int .i64 0, .int .i64 0, .int .i64 0, .int .i64 0]), 5, 40) := by kernel_rfl
/-- a list of rates of the call's own -/
def OwnR (w : World) (base : Nat) (v : Value) (L : List RT) : Prop := ∃ A n C, v = .slice A n C ∧ n = L.length ∧ w.ownsRow base 26 5 (.slice A n C) n (rtL L)
theorem row_rate (w : World) (r : RT) (t : TypeId) : Row (w.alloc (.cells #[.int .i64 r.m, .int .i64 r.c, .int .i64 r.s, .int .i64 r.w, .int .i64 r.g] t)) 5 (some ⟨w.heap.size, 0, none⟩) 1 1 [.int .i64 r.m, .int .i64 r.c, .int .i64 r.s, .int .i64 r.w, .int .i64 r.g] := by
  refine ⟨rfl, Nat.le_refl _, by simp [maxLen], fun h => by simp at h, fun _ => ⟨w.heap.size, 0, rfl, by simp, fun i u hu => ?_⟩⟩
  rw [Nat.zero_add, (Blk.new w #[.int .i64 r.m, .int .i64 r.c, .int .i64 r.s, .int .i64 r.w, .int .i64 r.g] t).cell i]
  simpa using hu
theorem tops_nat (m : Int) : ∃ N1 N2 N3 : Nat, (topsP m).1 = (N1 : Int) - 1 ∧ (topsP m).2.1 = (N2 : Int) ∧ (topsP m).2.2 = (N3 : Int) - 1 ∧ N1 ≤ 12 ∧ N2 ≤ 8 ∧ N3 ≤ 3 ∧ allP m = rowM m (widthsP m) N3 N2 N1 := by
  have hb : -1 ≤ (topsP m).1 ∧ (topsP m).1 ≤ 11 ∧ 0 ≤ (topsP m).2.1 ∧ (topsP m).2.1 ≤ 8 ∧ -1 ≤ (topsP m).2.2 ∧ (topsP m).2.2 ≤ 2 := by
    unfold topsP; (repeat' split) <;> simp
  refine ⟨((topsP m).1 + 1).toNat, (topsP m).2.1.toNat, ((topsP m).2.2 + 1).toNat, by omega, by omega, by omega, by omega, by omega, by omega, rfl⟩
theorem widths_len (m : Int) : (widthsP m).length ≤ 4 := by unfold widthsP; (repeat' split) <;> simp
theorem mul_le4 {a b A B : Nat} (h1 : a ≤ A) (h2 : b ≤ B) : a * b ≤ A * B := Nat.mul_le_mul h1 h2

theorem ownI_lit (w : World) (zs : List Int) (h : zs.length ≤ 100) : OwnI (w.alloc (.cells (zs.map (Value.int .i64)).toArray 3)) w.heap.size (some ⟨w.heap.size, 0, none⟩) zs.length zs.length zs :=
  ⟨by simp, .inr ⟨w.heap.size, zs.length, (zs.map (Value.int .i64)).toArray, rfl, Nat.le_refl _, heap_alloc_new w _, Nat.le_refl _, by unfold maxLen; omega, by simp, by show List.take (zs.length * 1) _ = _; exact List.take_of_length_le (by simp)⟩⟩

set_option maxHeartbeats 800000 in
theorem widthsO_any (m : Int) (w : World) : Calls Try.prog 28 #[.int .i64 m] w fun e w' => ∃ A, e = .returned (.slice A (widthsP m).length (widthsP m).length) ∧ OwnI w' w.heap.size A (widthsP m).length (widthsP m).length (widthsP m) ∧ Below w.heap.size w w' := by
  by_cases h1 : m = 1
  · subst h1
    go_enter Try.func28, Try.ntmps28
    go_wp2_with fail
    go_ret
    exact ⟨_, rfl, ownI_lit w [20] (by decide), (Below.refl _ _).alloc (Nat.le_refl _) _⟩
  by_cases h2 : m = 2
  · subst h2
    go_enter Try.func28, Try.ntmps28
    go_wp2_with fail
    go_ret
    exact ⟨_, rfl, ownI_lit w [20, 40] (by decide), (Below.refl _ _).alloc (Nat.le_refl _) _⟩
  by_cases h3 : m = 3
  · subst h3
    go_enter Try.func28, Try.ntmps28
    go_wp2_with fail
    go_ret
    exact ⟨_, rfl, ownI_lit w [20, 40, 80, 160] (by decide), (Below.refl _ _).alloc (Nat.le_refl _) _⟩
  by_cases h4 : m = 4
  · subst h4
    go_enter Try.func28, Try.ntmps28
    go_wp2_with fail
    go_ret
    exact ⟨_, rfl, ownI_lit w [20, 40, 80, 160] (by decide), (Below.refl _ _).alloc (Nat.le_refl _) _⟩
  · have ht : widthsP m = [] := by simp [widthsP, h1, h2, h3, h4]
    rw [ht]
    clear ht
    go_enter Try.func28, Try.ntmps28
    go_wp2_with fail
    go_ret
    exact ⟨_, rfl, ownI_nil _ _, Below.refl _ _⟩

set_option maxHeartbeats 4000000 in
theorem all_any (m : Int) (w : World) : Calls Try.prog 18 #[.int .i64 m] w fun e w' => ∃ v, e = .returned v ∧ OwnR w' w.heap.size v (allP m) ∧ Below w.heap.size w w' := by
  obtain ⟨i0, hi, hz, hsz, hby⟩ := info_parts info_rate
  obtain ⟨N1, N2, N3, h1, h2, h3, b1, b2, b3, hall⟩ := tops_nat m
  have hwl := widths_len m
  have H1 := Lib.hid h1
  have H2 := Lib.hid h2
  have H3 := Lib.hid h3
  have HALL := Lib.hid hall
  clear h1 h2 h3 hall
  go_enter Try.func18, Try.ntmps18
  go_wp2_with fail
  refine (tops_any m _).mono ?_
  rintro e w1 ⟨rfl, rfl⟩
  rw [H1.out, H2.out, H3.out]
  go_wp2_with fail
  go_loopw [6, 20] (fun out i wr => ∃ k : Nat, k ≤ N1 ∧ i = .int .i64 k ∧ OwnR wr w.heap.size out (rowM m (widthsP m) N3 N2 k) ∧ Below w.heap.size w wr) (fun _ i _ => N1 - (intOf i).toNat)
  case atStart => exact ⟨0, Nat.zero_le _, rfl, ⟨none, 0, 0, rfl, rfl, World.ownsRow_nil _ _ _ _⟩, Below.refl _ _⟩
  case round =>
    obtain ⟨k, hk, rfl, ho1, hb1⟩ := hrel
    have HO1 := Lib.hid ho1
    have HB1 := Lib.hid hb1
    clear ho1 hb1
    by_cases hkN : k < N1
    · have hl1 := rowM_len m (widthsP m) N3 N2 k
      have hx : (widthsP m).length * N3 ≤ 4 * 3 := mul_le4 hwl b3
      have hy : N2 * ((widthsP m).length * N3) ≤ 8 * 12 := mul_le4 b2 (by omega)
      have hq1 : (rowM m (widthsP m) N3 N2 k).length ≤ 12 * 96 := by rw [hl1]; exact mul_le4 (by omega) (by omega)
      have HQ1 := Lib.hid hq1
      clear hl1 hx hy hq1
      obtain ⟨L1, hL1⟩ : ∃ L1, rowM m (widthsP m) N3 N2 k = L1 := ⟨_, rfl⟩
      rw [hL1] at HO1 HQ1
      have HL1 := Lib.hid hL1
      clear hL1
      obtain ⟨wo, rfl⟩ : ∃ wo : World, wo = wr := ⟨_, rfl⟩
      go_wp2_with fail
      go_loopw [6, 24] (fun out i wr => ∃ j : Nat, j ≤ N2 ∧ i = .int .i64 j ∧ OwnR wr w.heap.size out (L1 ++ rowS m k (widthsP m) N3 j) ∧ Below w.heap.size w wr) (fun _ i _ => N2 - (intOf i).toNat)
      case atStart => exact ⟨0, Nat.zero_le _, rfl, by rw [show rowS m k (widthsP m) N3 0 = [] from rfl, List.append_nil]; exact HO1.out, HB1.out⟩
      case round =>
        obtain ⟨j, hj, rfl, ho2, hb2⟩ := hrel
        have HO2 := Lib.hid ho2
        have HB2 := Lib.hid hb2
        clear ho2 hb2
        by_cases hjN : j < N2
        · have hl1 := rowS_len m k (widthsP m) N3 j
          have hx : (widthsP m).length * N3 ≤ 4 * 3 := mul_le4 hwl b3
          have hq2 : (rowS m k (widthsP m) N3 j).length ≤ 8 * 12 := by rw [hl1]; exact mul_le4 (by omega) (by omega)
          have HQ2 := Lib.hid hq2
          clear hl1 hx hq2
          obtain ⟨L2, hL2⟩ : ∃ L2, rowS m k (widthsP m) N3 j = L2 := ⟨_, rfl⟩
          rw [hL2] at HO2 HQ2
          have HL2 := Lib.hid hL2
          clear hL2
          obtain ⟨wp, rfl⟩ : ∃ wp : World, wp = wr := ⟨_, rfl⟩
          go_wp2_with fail
          refine (widthsO_any m _).mono ?_
          rintro e w3 ⟨A3, rfl, hr3, hb3⟩
          have HR3 := Lib.hid hr3
          have HO3 := Lib.hid (show OwnR w3 w.heap.size _ _ from HO2.out.elim fun A h => h.elim fun n h => h.elim fun C h => ⟨A, n, C, h.1, h.2.1, own_below h.2.2 hb3 (Nat.le_refl _)⟩)
          have HB3 := Lib.hid (HB2.out.trans (hb3.mono HB2.out.size))
          clear hr3 hb3
          go_wp2_with fail
          go_loopw [6, 30] (fun out i wr => ∃ l : Nat, l ≤ (widthsP m).length ∧ i = .int .i64 l ∧ OwnR wr w.heap.size out (L1 ++ L2 ++ rowW m k ((j : Int) + 1) ((widthsP m).take l) N3) ∧ OwnI wr wp.heap.size A3 (widthsP m).length (widthsP m).length (widthsP m) ∧ Below w.heap.size w wr) (fun _ i _ => (widthsP m).length - (intOf i).toNat)
          case atStart => exact ⟨0, Nat.zero_le _, rfl, by rw [show rowW m k ((j : Int) + 1) ((widthsP m).take 0) N3 = [] from rfl, List.append_nil]; exact HO3.out, HR3.out, HB3.out⟩
          case round =>
            obtain ⟨l, hl, rfl, ho4, hr4, hb4⟩ := hrel
            have HO4 := Lib.hid ho4
            have HB4 := Lib.hid hb4
            have HR4 := Lib.hid hr4
            clear ho4 hb4 hr4 HO3 HR3 HB3
            by_cases hlN : l < (widthsP m).length
            · have hl1 := rowW_len m k ((j : Int) + 1) ((widthsP m).take l) N3
              have hq3 : (rowW m k ((j : Int) + 1) ((widthsP m).take l) N3).length ≤ 4 * 3 := by rw [hl1]; exact mul_le4 (by simp; omega) (by omega)
              have HQ3 := Lib.hid hq3
              clear hl1 hq3
              obtain ⟨W, hW⟩ : ∃ W, (widthsP m)[l]? = some W := ⟨_, List.getElem?_eq_getElem hlN⟩
              have HS3 := Lib.hid (rowW_snoc m k ((j : Int) + 1) (widthsP m) N3 l W hW)
              obtain ⟨L3, hL3⟩ : ∃ L3, rowW m k ((j : Int) + 1) ((widthsP m).take l) N3 = L3 := ⟨_, rfl⟩
              rw [hL3] at HO4 HQ3 HS3
              clear hL3
              obtain ⟨bw, off, rfl, hlt, hcell⟩ := HR4.out.row.at_ (by omega)
              obtain ⟨wq, rfl⟩ : ∃ wq : World, wq = wr := ⟨_, rfl⟩
              have hc : wq.cell? ⟨bw, off + l, none⟩ = some (.int .i64 W) := hcell l _ (by rw [List.getElem?_map, hW]; rfl)
              clear hcell hW
              go_wp2_with fail
              go_loopw [6, 36] (fun out i wr => ∃ g : Nat, g ≤ N3 ∧ i = .int .i64 g ∧ OwnR wr w.heap.size out (L1 ++ L2 ++ L3 ++ rowG m k ((j : Int) + 1) W g) ∧ OwnI wr wp.heap.size (some ⟨bw, off, none⟩) (widthsP m).length (widthsP m).length (widthsP m) ∧ Below w.heap.size w wr) (fun _ i _ => N3 - (intOf i).toNat)
              case atStart => exact ⟨0, Nat.zero_le _, rfl, by rw [show rowG m k ((j : Int) + 1) W 0 = [] from rfl, List.append_nil]; exact HO4.out, HR4.out, HB4.out⟩
              case round =>
                obtain ⟨g, hg, rfl, ho5, hr5, hb5⟩ := hrel
                have HO5 := Lib.hid ho5
                have HB5 := Lib.hid hb5
                have HR5 := Lib.hid hr5
                clear ho5 hb5 hr5 hc HO4 HR4 HB4
                by_cases hgN : g < N3
                · obtain ⟨A, n, C, rfl, hn, hown⟩ := HO5.out
                  have hn' : n ≤ 2000 := by
                    have q1 := HQ1.out; have q2 := HQ2.out; have q3 := HQ3.out
                    simp only [List.length_append, rowG_len] at hn
                    omega
                  have zw := HB5.out.size
                  have HW := Lib.hid hown
                  have HN := Lib.hid hn
                  clear hown hn HO5
                  go_wp2_with (at_builtin; refine wpList_append_row _ rfl (.tmp 39) (.tmp 47) _ rfl w.heap.size _ i0 _ 5 40 Try.underlying32 hi hz hsz hby rfl (by decide) A n C _ rfl (World.ownsRow.alloc HW.out _) (some ⟨wr.heap.size, 0, none⟩) 1 1 _ rfl (row_rate wr ⟨m, (k : Int), (j : Int) + 1, W, (g : Int)⟩ _) (by simp [Value.oneCell']) (by unfold maxLen; omega) (by omega) (by simp; omega) ?_; intro A2 C2 w2 hown2 hg2 hat2 hnone2; have HW2 := Lib.hid hown2; have HG2 := Lib.hid hg2; clear hown2 hg2 hat2 hnone2)
                  have hb6 : Below w.heap.size w w2 := below_grown (HB5.out.alloc zw _) (World.ownsRow.alloc HW.out _) (Nat.le_refl _) (by simp; omega) HG2.out
                  have hr6 : OwnI w2 wp.heap.size (some ⟨bw, off, none⟩) (widthsP m).length (widthsP m).length (widthsP m) :=
                    own_keep (World.ownsRow.alloc HR5.out _) HG2.out (own_ne_own HR5.out HW.out (by decide))
                  go_roundw
                  case rel => exact ⟨g + 1, by omega, by go_num, ⟨A2, n + 1, C2, rfl, by rw [rowG_snoc, ← List.append_assoc, List.length_append, ← HN.out]; rfl, by rw [rowG_snoc, ← List.append_assoc, ← rtL_snoc]; exact HW2.out⟩, hr6, hb6⟩
                  case measure => simp [intOf]; omega
                · have hge : g = N3 := by omega
                  subst hge
                  go_wp2_with fail
                  go_roundw
                  case rel => exact ⟨l + 1, by omega, by go_num, by rw [HS3.out, ← List.append_assoc]; exact HO5.out, HR5.out, HB5.out⟩
                  case measure => simp [intOf]; omega
            · have hle : l = (widthsP m).length := by omega
              subst hle
              go_wp2_with fail
              go_roundw
              case rel => exact ⟨j + 1, by omega, by go_num, by rw [rowS_snoc, HL2.out, ← List.append_assoc]; have := HO4.out; rw [List.take_length] at this; exact this, HB4.out⟩
              case measure => simp [intOf]; omega
        · have hje : j = N2 := by omega
          subst hje
          go_wp2_with fail
          go_roundw
          case rel => exact ⟨k + 1, by omega, by go_num, by rw [rowM_snoc, HL1.out]; exact HO2.out, HB2.out⟩
          case measure => simp [intOf]; omega
    · have hke : k = N1 := by omega
      subst hke
      go_wp2_with fail
      go_ret
      exact ⟨_, rfl, HALL.out ▸ HO1.out, HB1.out⟩
end Go.Proofs.Yticgdoeamabklaa
