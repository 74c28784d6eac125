/-
  The document's rates: All; the same rates.
-/
import Derived.Test.YtnndmpanopnncaaRefRate
namespace Go.Proofs.Ytnndmpanopnncaa
open Go.ChangeShapes Go.WideShapes Go.ChangeAt Go.RowKit
set_option linter.unusedVariables false

def wv (l : Nat) : Int := 20 * (2 : Int) ^ l
theorem wv_succ (l : Nat) : 2 * wv l = wv (l + 1) := by unfold wv; rw [Int.pow_succ]; omega
theorem wv_lt {l : Nat} (h : l < 4) : 20 ≤ wv l ∧ wv l ≤ 160 := by
  rcases (show l = 0 ∨ l = 1 ∨ l = 2 ∨ l = 3 by omega) with rfl | rfl | rfl | rfl <;> decide
theorem wv_4 : wv 4 = 320 := by decide
def fG (m c s w : Int) (n : Nat) : List RT := (rowG m c s w n).filter validP
def fW (m c s : Int) (k : Nat) : List RT := (List.range k).flatMap fun (l : Nat) => fG m c s (wv l) 3
def fS (m c : Int) (k : Nat) : List RT := (List.range k).flatMap fun (s : Nat) => fW m c ((s : Int) + 1) 4
def fM (m : Int) (k : Nat) : List RT := (List.range k).flatMap fun (c : Nat) => fS m (c : Int) 8
theorem fG_yes {m c s w : Int} {n : Nat} (h : validP ⟨m, c, s, w, (n : Int)⟩ = true) : fG m c s w (n + 1) = fG m c s w n ++ [⟨m, c, s, w, (n : Int)⟩] := by
  unfold fG; rw [rowG_snoc, List.filter_append]; simp [h]
theorem fG_no {m c s w : Int} {n : Nat} (h : validP ⟨m, c, s, w, (n : Int)⟩ = false) : fG m c s w (n + 1) = fG m c s w n := by
  unfold fG; rw [rowG_snoc, List.filter_append]; simp [h]
theorem fW_snoc (m c s : Int) (k : Nat) : fW m c s (k + 1) = fW m c s k ++ fG m c s (wv k) 3 := by simp [fW, List.range_succ]
theorem fS_snoc (m c : Int) (k : Nat) : fS m c (k + 1) = fS m c k ++ fW m c ((k : Int) + 1) 4 := by simp [fS, List.range_succ]
theorem fM_snoc (m : Int) (k : Nat) : fM m (k + 1) = fM m k ++ fS m (k : Int) 8 := by simp [fM, List.range_succ]
theorem fG_len (m c s w : Int) (n : Nat) : (fG m c s w n).length ≤ n := by
  unfold fG; exact Nat.le_trans (List.length_filter_le _ _) (by rw [rowG_len]; exact Nat.le_refl _)
theorem fW_len (m c s : Int) (k : Nat) : (fW m c s k).length ≤ k * 3 := by
  induction k with
  | zero => simp [fW]
  | succ k ih => rw [fW_snoc, List.length_append]; have := fG_len m c s (wv k) 3; omega
theorem fS_len (m c : Int) (k : Nat) : (fS m c k).length ≤ k * 12 := by
  induction k with
  | zero => simp [fS]
  | succ k ih => rw [fS_snoc, List.length_append]; have := fW_len m c ((k : Int) + 1) 4; omega
theorem fM_len (m : Int) (k : Nat) : (fM m k).length ≤ k * 96 := by
  induction k with
  | zero => simp [fM]
  | succ k ih => rw [fM_snoc, List.length_append]; have := fS_len m (k : Int) 8; omega
theorem fM_all (m : Int) : fM m 12 = allP m := by
  by_cases h1 : m = 1
  · subst h1; kernel_rfl
  by_cases h2 : m = 2
  · subst h2; kernel_rfl
  by_cases h3 : m = 3
  · subst h3; kernel_rfl
  by_cases h4 : m = 4
  · subst h4; kernel_rfl
  · rw [all_other h1 h2 h3 h4]
    have e : ∀ c s w n, fG m c s w n = [] := by
      intro c s w n
      unfold fG
      rw [List.filter_eq_nil_iff]
      intro r hr
      simp only [rowG, List.mem_map] at hr
      obtain ⟨g, _, rfl⟩ := hr
      rw [valid5 (by simp only; omega)]
      simp
    simp [fM, fS, fW, e]

theorem row_rate' (w : World) (r : RT) (t : TypeId) (n : Nat) (hn : n = w.heap.size) : Row (w.alloc (.cells #[.int .i64 r.m, .int .i64 r.c, .int .i64 r.s, .int .i64 r.w, .int .i64 r.g] t)) 5 (some ⟨n, 0, none⟩) 1 1 [.int .i64 r.m, .int .i64 r.c, .int .i64 r.s, .int .i64 r.w, .int .i64 r.g] := by
  subst hn; exact row_rate w r t

set_option maxHeartbeats 4000000 in
theorem rall_any (m : Int) (w : World) : Calls Try.prog 14 #[.int .i64 m] w fun e w' => ∃ v, e = .returned v ∧ OwnR w' w.heap.size v (allP m) ∧ Below w.heap.size w w' := by
  obtain ⟨i0, hi, hz, hsz, hby⟩ := info_parts info_rate
  have HALL := Lib.hid (fM_all m)
  go_enter Try.func14, Try.ntmps14
  go_wp2_with fail
  go_loopw [3, 4] (fun out i wr => ∃ k : Nat, k ≤ 12 ∧ i = .int .i64 k ∧ OwnR wr w.heap.size out (fM m k) ∧ Below w.heap.size w wr) (fun _ i _ => 12 - (intOf i).toNat)
  case atStart => exact ⟨0, Nat.zero_le _, rfl, ⟨none, 0, 0, rfl, rfl, World.ownsRow_nil _ _ _ _⟩, Below.refl _ _⟩
  case round =>
    obtain ⟨k, hk, rfl, ho1, hb1⟩ := hrel
    have HO1 := Lib.hid ho1
    have HB1 := Lib.hid hb1
    clear ho1 hb1
    by_cases hkN : k < 12
    · have d1 : decide ((k : Int) ≤ 11) = true := decide_eq_true (by omega)
      have HQ1 := Lib.hid (show (fM m k).length ≤ 1152 from Nat.le_trans (fM_len m k) (by omega))
      obtain ⟨L1, hL1⟩ : ∃ L1, fM m k = L1 := ⟨_, rfl⟩
      rw [hL1] at HO1 HQ1
      have HL1 := Lib.hid hL1
      clear hL1
      obtain ⟨wo, rfl⟩ : ∃ wo : World, wo = wr := ⟨_, rfl⟩
      go_wp2_with fail
      go_loopw [3, 5] (fun out i wr => ∃ j : Nat, j ≤ 8 ∧ i = .int .i64 ((j : Int) + 1) ∧ OwnR wr w.heap.size out (L1 ++ fS m k j) ∧ Below w.heap.size w wr) (fun _ i _ => 9 - (intOf i).toNat)
      case atStart => exact ⟨0, Nat.zero_le _, rfl, by rw [show fS m k 0 = [] from rfl, List.append_nil]; exact HO1.out, HB1.out⟩
      case round =>
        obtain ⟨j, hj, rfl, ho2, hb2⟩ := hrel
        have HO2 := Lib.hid ho2
        have HB2 := Lib.hid hb2
        clear ho2 hb2
        by_cases hjN : j < 8
        · have d2 : decide ((j : Int) + 1 ≤ 8) = true := decide_eq_true (by omega)
          have HQ2 := Lib.hid (show (fS m k j).length ≤ 96 from Nat.le_trans (fS_len m k j) (by omega))
          obtain ⟨L2, hL2⟩ : ∃ L2, fS m k j = L2 := ⟨_, rfl⟩
          rw [hL2] at HO2 HQ2
          have HL2 := Lib.hid hL2
          clear hL2
          obtain ⟨wp, rfl⟩ : ∃ wp : World, wp = wr := ⟨_, rfl⟩
          have HW0 := Lib.hid (show (20 : Int) = wv 0 from by decide)
          go_wp2_with fail
          go_loopw [3, 6] (fun out i wr => ∃ l : Nat, l ≤ 4 ∧ i = .int .i64 (wv l) ∧ OwnR wr w.heap.size out (L1 ++ L2 ++ fW m k ((j : Int) + 1) l) ∧ Below w.heap.size w wr) (fun _ i _ => 320 - (intOf i).toNat)
          case atStart => exact ⟨0, Nat.zero_le _, by rw [← HW0.out], by rw [show fW m k ((j : Int) + 1) 0 = [] from rfl, List.append_nil]; exact HO2.out, HB2.out⟩
          case round =>
            obtain ⟨l, hl, rfl, ho4, hb4⟩ := hrel
            have HO4 := Lib.hid ho4
            have HB4 := Lib.hid hb4
            clear ho4 hb4
            by_cases hlN : l < 4
            · have HQ3 := Lib.hid (show (fW m k ((j : Int) + 1) l).length ≤ 12 from Nat.le_trans (fW_len m k ((j : Int) + 1) l) (by omega))
              have HS3 := Lib.hid (fW_snoc m k ((j : Int) + 1) l)
              have HW1 := Lib.hid (wv_succ l)
              obtain ⟨v0, v1⟩ := wv_lt hlN
              obtain ⟨L3, hL3⟩ : ∃ L3, fW m k ((j : Int) + 1) l = L3 := ⟨_, rfl⟩
              rw [hL3] at HO4 HQ3 HS3
              obtain ⟨W, hW⟩ : ∃ W, wv l = W := ⟨_, rfl⟩
              rw [hW] at HS3 HW1 v0 v1 ⊢
              clear hL3 hW
              have d3 : decide (W ≤ 160) = true := decide_eq_true v1
              obtain ⟨wq, rfl⟩ : ∃ wq : World, wq = wr := ⟨_, rfl⟩
              go_wp2_with fail
              go_loopw [3, 7] (fun out i wr => ∃ g : Nat, g ≤ 3 ∧ i = .int .i64 g ∧ OwnR wr w.heap.size out (L1 ++ L2 ++ L3 ++ fG m k ((j : Int) + 1) W g) ∧ Below w.heap.size w wr) (fun _ i _ => 3 - (intOf i).toNat)
              case atStart => exact ⟨0, Nat.zero_le _, rfl, by rw [show fG m k ((j : Int) + 1) W 0 = [] from rfl, List.append_nil]; exact HO4.out, HB4.out⟩
              case round =>
                obtain ⟨g, hg, rfl, ho5, hb5⟩ := hrel
                have HO5 := Lib.hid ho5
                have HB5 := Lib.hid hb5
                clear ho5 hb5 HO4 HB4
                by_cases hgN : g < 3
                · have d4 : decide ((g : Int) ≤ 2) = true := decide_eq_true (by omega)
                  have zw := HB5.out.size
                  have HK5 := Lib.hid (Blk.new wr #[.int .i64 m, .int .i64 k, .int .i64 ((j : Int) + 1), .int .i64 W, .int .i64 g] 23)
                  have h5lt : wr.heap.size < (wr.alloc (.cells #[.int .i64 m, .int .i64 k, .int .i64 ((j : Int) + 1), .int .i64 W, .int .i64 g] 23)).heap.size := by simp
                  obtain ⟨A, n, C, rfl, hn, hown⟩ := HO5.out
                  have hn' : n ≤ 2000 := by
                    have q1 := HQ1.out; have q2 := HQ2.out; have q3 := HQ3.out
                    have q4 := fG_len m k ((j : Int) + 1) W g
                    simp only [List.length_append] at hn
                    omega
                  have HW := Lib.hid hown
                  have HN := Lib.hid hn
                  clear hown hn HO5
                  go_wp2_with fail
                  refine (rvalid_any ⟨m, k, (j : Int) + 1, W, g⟩ _ (by show _ ≤ (j : Int) + 1; omega) (by show (j : Int) + 1 ≤ _; omega)).mono ?_
                  rintro e w6 ⟨rfl, hb6⟩
                  have HK6 := Lib.hid (HK5.out.below hb6 h5lt)
                  have HW6 := Lib.hid (own_below (World.ownsRow.alloc HW.out _) hb6 (Nat.le_refl _))
                  have HB6 := Lib.hid ((HB5.out.alloc zw _).trans (hb6.mono (Nat.le_trans zw (Nat.le_of_lt h5lt))))
                  clear hb6 h5lt
                  have zw6 := HB6.out.size
                  rcases hv : validP ⟨m, k, (j : Int) + 1, W, g⟩
                  · have HV := Lib.hid (fG_no hv)
                    go_wp2_with fail
                    go_roundw
                    case rel => first | exact ⟨g + 1, by omega, by go_num, ⟨A, n, C, rfl, by rw [HV.out]; exact HN.out, by rw [HV.out]; exact HW6.out⟩, HB6.out⟩ | ((repeat apply Exists.intro); exact ⟨⟨g + 1, by omega, by go_num, ⟨A, n, C, rfl, by rw [HV.out]; exact HN.out, by rw [HV.out]; exact HW6.out⟩, HB6.out⟩, rfl⟩)
                    case measure => simp [intOf]; omega
                  · have HV := Lib.hid (fG_yes hv)
                    obtain ⟨e0, e1, e2, e3, e4⟩ : w6.cell? ⟨wr.heap.size, 0, none⟩ = some (.int .i64 m) ∧ w6.cell? ⟨wr.heap.size, 1, none⟩ = some (.int .i64 k) ∧ w6.cell? ⟨wr.heap.size, 2, none⟩ = some (.int .i64 ((j : Int) + 1)) ∧ w6.cell? ⟨wr.heap.size, 3, none⟩ = some (.int .i64 W) ∧ w6.cell? ⟨wr.heap.size, 4, none⟩ = some (.int .i64 g) :=
                      ⟨HK6.out.cell 0, HK6.out.cell 1, HK6.out.cell 2, HK6.out.cell 3, HK6.out.cell 4⟩
                    clear hv
                    go_wp2_with (at_builtin; refine wpList_append_row _ rfl (.tmp 33) (.tmp 35) _ rfl w.heap.size _ i0 _ 5 40 Try.underlying38 hi hz hsz hby rfl (by decide) A n C _ rfl (World.ownsRow.alloc HW6.out _) (some ⟨w6.heap.size, 0, none⟩) 1 1 _ rfl (row_rate w6 ⟨m, (k : Int), (j : Int) + 1, W, (g : Int)⟩ _) (by simp [Value.oneCell']) (by unfold maxLen; omega) (by omega) (by simp; omega) ?_; intro A2 C2 w2 hown2 hg2 hat2 hnone2; have HW2 := Lib.hid hown2; have HG2 := Lib.hid hg2; clear hown2 hg2 hat2 hnone2)
                    have hb8 : Below w.heap.size w w2 := below_grown (HB6.out.alloc zw6 _) (World.ownsRow.alloc HW6.out _) (Nat.le_refl _) (by simp; omega) HG2.out
                    go_roundw
                    case rel => exact ⟨g + 1, by omega, by go_num, ⟨A2, n + 1, C2, rfl, by have e := HN.out; rw [HV.out]; simp only [List.length_append, List.length_cons, List.length_nil] at e ⊢; omega, by have e : w2.ownsRow w.heap.size 23 5 (.slice A2 (n + 1) C2) (n + 1) (rtL (L1 ++ L2 ++ L3 ++ fG m k ((j : Int) + 1) W g ++ [⟨m, k, (j : Int) + 1, W, g⟩])) := (by rw [← rtL_snoc]; exact HW2.out); rw [HV.out]; simpa only [List.append_assoc] using e⟩, hb8⟩
                    case measure => simp [intOf]; omega
                · have hge : g = 3 := by omega
                  subst hge
                  go_wp2_with fail
                  go_roundw
                  case rel => exact ⟨l + 1, by omega, by rw [← HW1.out], by rw [HS3.out, ← List.append_assoc]; exact HO5.out, HB5.out⟩
                  case measure => simp [intOf]; omega
            · have hle : l = 4 := by omega
              subst hle
              rw [wv_4]
              go_wp2_with fail
              go_roundw
              case rel => exact ⟨j + 1, by omega, by go_num, by rw [fS_snoc, HL2.out, ← List.append_assoc]; exact HO4.out, HB4.out⟩
              case measure => simp [intOf]; omega
        · have hje : j = 8 := by omega
          subst hje
          go_wp2_with fail
          go_roundw
          case rel => exact ⟨k + 1, by omega, by go_num, by rw [fM_snoc, HL1.out]; exact HO2.out, HB2.out⟩
          case measure => simp [intOf]; omega
    · have hke : k = 12 := by omega
      subst hke
      go_wp2_with fail
      go_ret
      exact ⟨_, rfl, HALL.out ▸ HO1.out, HB1.out⟩
end Go.Proofs.Ytnndmpanopnncaa
