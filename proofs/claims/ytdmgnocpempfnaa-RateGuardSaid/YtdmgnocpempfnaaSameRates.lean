/-
  The same rate? The same rates? The chapter's example.
-/
import Derived.Test.YtdmgnocpempfnaaRefRateAll
namespace Go.Proofs.Ytdmgnocpempfnaa
open Go.ChangeShapes Go.WideShapes Go.ChangeAt Go.RowKit
set_option linter.unusedVariables false

set_option maxHeartbeats 1600000 in
theorem sameRate1_any (a b : RT) (w : World) : Calls Try.prog 10 #[.agg #[.int .i64 a.m, .int .i64 a.c, .int .i64 a.s, .int .i64 a.w, .int .i64 a.g], .agg #[.int .i64 b.m, .int .i64 b.c, .int .i64 b.s, .int .i64 b.w, .int .i64 b.g]] w
    fun e w' => e = .returned (.bool (sameP a b)) ∧ Below w.heap.size w w' := by
  have HS := Lib.hid (show sameP a b = (decide (a.m = b.m) && decide (a.c = b.c) && decide (a.s = b.s) && decide (a.w = b.w) && decide (a.g = b.g)) from rfl)
  by_cases h1 : a.m = b.m
  case neg =>
    have hf : (a.m == b.m) = false := by simp [h1]
    go_enter Try.func10, Try.ntmps10
    go_wp2_with fail
    go_ret
    exact ⟨ret_bool (by simp [HS.out, h1]), ((Below.refl _ _).alloc (Nat.le_refl _) _).alloc (by simp) _⟩
  case pos =>
  by_cases h2 : a.c = b.c
  case neg =>
    have hf : (a.c == b.c) = false := by simp [h2]
    rw [h1] at HS ⊢
    go_enter Try.func10, Try.ntmps10
    go_wp2_with fail
    go_ret
    exact ⟨ret_bool (by simp [HS.out, h2]), ((Below.refl _ _).alloc (Nat.le_refl _) _).alloc (by simp) _⟩
  case pos =>
  by_cases h3 : a.s = b.s
  case neg =>
    have hf : (a.s == b.s) = false := by simp [h3]
    rw [h1, h2] at HS ⊢
    go_enter Try.func10, Try.ntmps10
    go_wp2_with fail
    go_ret
    exact ⟨ret_bool (by simp [HS.out, h3]), ((Below.refl _ _).alloc (Nat.le_refl _) _).alloc (by simp) _⟩
  case pos =>
  by_cases h4 : a.w = b.w
  case neg =>
    have hf : (a.w == b.w) = false := by simp [h4]
    rw [h1, h2, h3] at HS ⊢
    go_enter Try.func10, Try.ntmps10
    go_wp2_with fail
    go_ret
    exact ⟨ret_bool (by simp [HS.out, h4]), ((Below.refl _ _).alloc (Nat.le_refl _) _).alloc (by simp) _⟩
  case pos =>
  by_cases h5 : a.g = b.g
  case neg =>
    have hf : (a.g == b.g) = false := by simp [h5]
    rw [h1, h2, h3, h4] at HS ⊢
    go_enter Try.func10, Try.ntmps10
    go_wp2_with fail
    go_ret
    exact ⟨ret_bool (by simp [HS.out, h5]), ((Below.refl _ _).alloc (Nat.le_refl _) _).alloc (by simp) _⟩
  case pos =>
    rw [h1, h2, h3, h4, h5] at HS ⊢
    go_enter Try.func10, Try.ntmps10
    go_wp2_with fail
    go_ret
    exact ⟨ret_bool (by simp [HS.out]), ((Below.refl _ _).alloc (Nat.le_refl _) _).alloc (by simp) _⟩

/-- a list of rates that can be read -/
def RowR (w : World) (A : Option Addr) (n C : Nat) (L : List RT) : Prop := n = L.length ∧ Row w 5 A n C (rtL L)
theorem RowR.at_ {w : World} {A : Option Addr} {n C : Nat} {L : List RT} (h : RowR w A n C L) {k : Nat} {r : RT} (hk : L[k]? = some r) :
    ∃ b off, A = some ⟨b, off, none⟩ ∧ b < w.heap.size ∧ w.cell? ⟨b, off + k * 5, none⟩ = some (.int .i64 r.m) ∧ w.cell? ⟨b, off + k * 5 + 1, none⟩ = some (.int .i64 r.c) ∧ w.cell? ⟨b, off + k * 5 + 2, none⟩ = some (.int .i64 r.s) ∧
      w.cell? ⟨b, off + k * 5 + 3, none⟩ = some (.int .i64 r.w) ∧ w.cell? ⟨b, off + k * 5 + 4, none⟩ = some (.int .i64 r.g) := by
  have hkl := (List.getElem?_eq_some_iff.1 hk).1
  obtain ⟨b, off, hA, hlt, hc⟩ := h.2.at_ (by have := h.1; omega)
  refine ⟨b, off, hA, hlt, ?_, ?_, ?_, ?_, ?_⟩
  · exact hc _ _ (rtL_get (j := 0) (by omega) hk rfl)
  · rw [Nat.add_assoc]; exact hc _ _ (rtL_get (j := 1) (by omega) hk rfl)
  · rw [Nat.add_assoc]; exact hc _ _ (rtL_get (j := 2) (by omega) hk rfl)
  · rw [Nat.add_assoc]; exact hc _ _ (rtL_get (j := 3) (by omega) hk rfl)
  · rw [Nat.add_assoc]; exact hc _ _ (rtL_get (j := 4) (by omega) hk rfl)
theorem RowR.below {w w' : World} {A : Option Addr} {n C : Nat} {L : List RT} (h : RowR w A n C L) {B : Nat} (hb : Below B w w') (hB : w.heap.size ≤ B) : RowR w' A n C L := ⟨h.1, h.2.below hb hB⟩
theorem OwnR.row {w : World} {base : Nat} {v : Value} {L : List RT} (h : OwnR w base v L) : ∃ A n C, v = .slice A n C ∧ RowR w A n C L := by
  obtain ⟨A, n, C, hv, hn, ho⟩ := h
  exact ⟨A, n, C, hv, hn, row_of_own ho⟩
theorem OwnR.below {w w' : World} {base : Nat} {v : Value} {L : List RT} (h : OwnR w base v L) {B : Nat} (hb : Below B w w') (hB : w.heap.size ≤ B) : OwnR w' base v L := by
  obtain ⟨A, n, C, hv, hn, ho⟩ := h
  exact ⟨A, n, C, hv, hn, own_below ho hb hB⟩

set_option maxHeartbeats 1600000 in
theorem sameRates_yes (A1 A2 : Option Addr) (n C1 C2 : Nat) (L : List RT) (w : World) (h1 : RowR w A1 n C1 L) (h2 : RowR w A2 n C2 L) :
    Calls Try.prog 19 #[.slice A1 n C1, .slice A2 n C2] w fun e w' => e = .returned (.bool true) ∧ Below w.heap.size w w' := by
  have hm := h1.2.len_le
  have HL := Lib.hid h1.1
  have H1 := Lib.hid h1
  have H2 := Lib.hid h2
  clear h1 h2
  go_enter Try.func19, Try.ntmps19
  go_wp2_with fail
  go_loopw [5] (fun i wr => ∃ k : Nat, k ≤ n ∧ i = .int .i64 k ∧ RowR wr A1 n C1 L ∧ RowR wr A2 n C2 L ∧ Below w.heap.size w wr) (fun i _ => n - (intOf i).toNat)
  case atStart => exact ⟨0, Nat.zero_le _, rfl, H1.out, H2.out, Below.refl _ _⟩
  case round =>
    obtain ⟨k, hk, rfl, hr1, hr2, hb⟩ := hrel
    have R1 := Lib.hid hr1
    have R2 := Lib.hid hr2
    have HB := Lib.hid hb
    clear hr1 hr2 hb H1 H2
    by_cases hkn : k < n
    · obtain ⟨r, hr⟩ : ∃ r, L[k]? = some r := ⟨_, List.getElem?_eq_getElem (by rw [← HL.out]; exact hkn)⟩
      obtain ⟨b1, o1, rfl, l1, e0, e1, e2, e3, e4⟩ := R1.out.at_ hr
      obtain ⟨b2, o2, rfl, l2, f0, f1, f2, f3, f4⟩ := R2.out.at_ hr
      have zB := HB.out.size
      have HT := Lib.hid (sameP_self r)
      clear hr
      go_wp2_with fail
      go_region_held3 (fun y => y.cell? ⟨b1, o1 + k * 5, none⟩ = some (.int .i64 r.m) ∧ y.cell? ⟨b1, o1 + k * 5 + 1, none⟩ = some (.int .i64 r.c) ∧ y.cell? ⟨b1, o1 + k * 5 + 2, none⟩ = some (.int .i64 r.s) ∧ y.cell? ⟨b1, o1 + k * 5 + 3, none⟩ = some (.int .i64 r.w) ∧ y.cell? ⟨b1, o1 + k * 5 + 4, none⟩ = some (.int .i64 r.g) ∧
          y.cell? ⟨b2, o2 + k * 5, none⟩ = some (.int .i64 r.m) ∧ y.cell? ⟨b2, o2 + k * 5 + 1, none⟩ = some (.int .i64 r.c) ∧ y.cell? ⟨b2, o2 + k * 5 + 2, none⟩ = some (.int .i64 r.s) ∧ y.cell? ⟨b2, o2 + k * 5 + 3, none⟩ = some (.int .i64 r.w) ∧ y.cell? ⟨b2, o2 + k * 5 + 4, none⟩ = some (.int .i64 r.g))
        (first | exact ⟨e0, e1, e2, e3, e4, f0, f1, f2, f3, f4⟩ | exact ⟨(bw.cell (p := ⟨b1, _, none⟩) l1).trans e0, (bw.cell (p := ⟨b1, _, none⟩) l1).trans e1, (bw.cell (p := ⟨b1, _, none⟩) l1).trans e2, (bw.cell (p := ⟨b1, _, none⟩) l1).trans e3, (bw.cell (p := ⟨b1, _, none⟩) l1).trans e4, (bw.cell (p := ⟨b2, _, none⟩) l2).trans f0, (bw.cell (p := ⟨b2, _, none⟩) l2).trans f1, (bw.cell (p := ⟨b2, _, none⟩) l2).trans f2, (bw.cell (p := ⟨b2, _, none⟩) l2).trans f3, (bw.cell (p := ⟨b2, _, none⟩) l2).trans f4⟩)
        ((go_at_call 10; refine (sameRate1_any r r wr.drew).mono ?_; rintro e wa ⟨rfl, bw⟩))
      rw [HT.out]
      have bw' : Below wr.heap.size wr wa := (Below.drew (Below.refl _ wr)).trans bw
      have R1' := Lib.hid (R1.out.below bw' (Nat.le_refl _))
      have R2' := Lib.hid (R2.out.below bw' (Nat.le_refl _))
      have HB' := Lib.hid (HB.out.trans (bw'.mono zB))
      clear bw bw' e0 e1 e2 e3 e4 f0 f1 f2 f3 f4
      go_wp2_with fail
      go_roundw
      case rel => exact ⟨k + 1, by omega, by go_num, R1'.out, R2'.out, HB'.out⟩
      case measure => simp [intOf]; omega
    · go_wp2_with fail
      go_ret
      exact ⟨rfl, HB.out⟩

set_option maxHeartbeats 800000 in
theorem rfirst_any (w : World) : Calls Try.prog 7 #[] w fun e w' => e = .returned (.bool true) ∧ Below w.heap.size w w' := by
  go_enter Try.func7, Try.ntmps7
  go_wp2_with fail
  refine (bits_any ⟨1, 0, 1, 20, 0⟩ _).mono ?_
  rintro e w1 ⟨rfl, hb⟩
  rw [show bitsP ⟨1, 0, 1, 20, 0⟩ = 24 by decide]
  go_wp2_with fail
  go_ret
  exact ⟨rfl, hb⟩
end Go.Proofs.Ytdmgnocpempfnaa
