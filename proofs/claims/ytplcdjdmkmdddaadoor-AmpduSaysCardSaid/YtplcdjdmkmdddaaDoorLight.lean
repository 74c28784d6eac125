/-
  Are parts light? How long is each?
-/
import Derived.Test.YtplcdjdmkmdddaaDoorSameParts
namespace Go.Proofs.YtplcdjdmkmdddaaDoor
open Go.ChangeShapes Go.WideShapes Go.ChangeAt Go.RowKit
set_option linter.unusedVariables false

theorem lens_take {L : List (List UInt8)} {k : Nat} {x : List UInt8} (h : L[k]? = some x) : lensP (L.take (k + 1)) = lensP (L.take k) ++ [(x.length : Int)] := by
  obtain ⟨hk, rfl⟩ := List.getElem?_eq_some_iff.1 h
  exact lens_snoc (List.take_succ_eq_append_getElem hk)

set_option maxHeartbeats 1600000 in
theorem light_any (A : Option Addr) (n C : Nat) (L : List (List UInt8)) (w : World) (h : RowP w A n C L) :
    Calls Tryd.prog 14 #[.slice A n C] w fun e w' => ∃ b : Bool, e = .returned (.bool b) ∧ w = w' ∧ (b = true → n ≤ 70) := by
  have hm := h.len_le
  have H := Lib.hid h
  have HN := Lib.hid h.1
  clear h
  go_enter Tryd.func14, Tryd.ntmps14
  by_cases h70 : 70 < n
  · go_wp2_with fail
    go_ret
    exact ⟨false, rfl, rfl, by simp⟩
  go_wp2_with fail
  go_loopw [3, 4] (fun t i wr => ∃ (k : Nat) (s : Int), k ≤ n ∧ i = .int .i64 k ∧ t = .int .i64 s ∧ wr = w) (fun _ i _ => n - (intOf i).toNat)
  case atStart => exact ⟨0, 0, Nat.zero_le _, rfl, rfl, rfl⟩
  case round =>
    obtain ⟨k, s, hk, rfl, rfl, rfl⟩ := hrel
    by_cases hlt : k < n
    · obtain ⟨x, hx⟩ : ∃ x, L[k]? = some x := ⟨_, List.getElem?_eq_getElem (by rw [← HN.out]; exact hlt)⟩
      obtain ⟨b1, o1, A3, C3, rfl, l1, e0, r1⟩ := H.out.at2 hx
      clear hx
      go_wp2_with fail
      go_roundw
      case rel => exact ⟨k + 1, _, by omega, by go_num, rfl, by trivial⟩
      case measure => simp [intOf]; omega
    · go_wp2_with fail
      go_ret
      exact ⟨_, rfl, by trivial, fun _ => by omega⟩

set_option maxHeartbeats 1600000 in
theorem lens_any (A : Option Addr) (n C : Nat) (L : List (List UInt8)) (w : World) (h : RowP w A n C L) (hn : n ≤ 1000) :
    Calls Tryd.prog 21 #[.slice A n C] w fun e w' => ∃ A2 C2, e = .returned (.slice A2 n C2) ∧ OwnI w' w.heap.size A2 n C2 (lensP L) ∧ Below w.heap.size w w' := by
  have hm := h.len_le
  have H := Lib.hid h
  have HN := Lib.hid h.1
  clear h
  go_enter Tryd.func21, Tryd.ntmps21
  go_wp2_with fail
  go_loopw [3, 4] (fun t i wr => ∃ (k : Nat) (A2 : Option Addr) (C2 : Nat), k ≤ n ∧ i = .int .i64 k ∧ t = .slice A2 k C2 ∧ OwnI wr w.heap.size A2 k C2 (lensP (L.take k)) ∧ Below w.heap.size w wr) (fun _ i _ => n - (intOf i).toNat)
  case atStart => exact ⟨0, none, 0, Nat.zero_le _, rfl, rfl, ownI_nil _ _, Below.refl _ _⟩
  case round =>
    obtain ⟨k, A2, C2, hk, rfl, rfl, ho, hb⟩ := hrel
    have HO := Lib.hid ho
    have HB := Lib.hid hb
    have zB := hb.size
    clear ho hb
    by_cases hlt : k < n
    · obtain ⟨x, hx⟩ : ∃ x, L[k]? = some x := ⟨_, List.getElem?_eq_getElem (by rw [← HN.out]; exact hlt)⟩
      obtain ⟨b1, o1, A3, C3, rfl, l1, e0, r1⟩ := H.out.at2 hx
      have e1 : wr.cell? ⟨b1, o1 + k, none⟩ = some (.slice A3 x.length C3) := (HB.out.cell (p := ⟨b1, o1 + k, none⟩) l1).trans e0
      have HT := Lib.hid (lens_take hx)
      clear hx e0 r1
      generalize x.length = nx at *
      go_wp2_with (at_builtin; refine append_int _ rfl (.tmp 11) (.tmp 17) rfl w.heap.size A2 k C2 _ rfl (HO.out.alloc _) _ 1 1 [(nx : Int)] rfl (row_int1 _ _ _) (by omega) (by simp; omega) ?_; intro A5 C5 w2 hown2 hg2 hat2; have HO2 := Lib.hid hown2; have HB2 := Lib.hid ((HB.out.alloc zB _).trans (below_grown (Below.refl _ _) (HO.out.alloc _) (Nat.le_refl _) (by simp; omega) hg2)); clear hown2 hg2 hat2)
      go_roundw
      case rel => exact ⟨k + 1, A5, C5, by omega, by go_num, rfl, by rw [HT.out]; exact HO2.out, HB2.out⟩
      case measure => simp [intOf]; omega
    · obtain rfl : k = n := by omega
      have HF := Lib.hid (show L.take k = L by rw [List.take_of_length_le]; rw [HN.out]; exact Nat.le_refl _)
      go_wp2_with fail
      go_ret
      refine ⟨_, _, rfl, ?_, HB.out⟩
      have := HO.out
      rw [HF.out] at this
      exact this

set_option maxHeartbeats 1600000 in
theorem refLens_any (A : Option Addr) (n C : Nat) (L : List (List UInt8)) (w : World) (h : RowP w A n C L) (hn : n ≤ 1000) :
    Calls Tryd.prog 28 #[.slice A n C] w fun e w' => ∃ A2 C2, e = .returned (.slice A2 n C2) ∧ OwnI w' w.heap.size A2 n C2 (lensP L) ∧ Below w.heap.size w w' := by
  have hm := h.len_le
  have H := Lib.hid h
  have HN := Lib.hid h.1
  clear h
  go_enter Tryd.func28, Tryd.ntmps28
  go_wp2_with fail
  go_loopw [3, 4] (fun t i wr => ∃ (k : Nat) (A2 : Option Addr) (C2 : Nat), k ≤ n ∧ i = .int .i64 k ∧ t = .slice A2 k C2 ∧ OwnI wr w.heap.size A2 k C2 (lensP (L.take k)) ∧ Below w.heap.size w wr) (fun _ i _ => n - (intOf i).toNat)
  case atStart => exact ⟨0, none, 0, Nat.zero_le _, rfl, rfl, ownI_nil _ _, Below.refl _ _⟩
  case round =>
    obtain ⟨k, A2, C2, hk, rfl, rfl, ho, hb⟩ := hrel
    have HO := Lib.hid ho
    have HB := Lib.hid hb
    have zB := hb.size
    clear ho hb
    by_cases hlt : k < n
    · obtain ⟨x, hx⟩ : ∃ x, L[k]? = some x := ⟨_, List.getElem?_eq_getElem (by rw [← HN.out]; exact hlt)⟩
      obtain ⟨b1, o1, A3, C3, rfl, l1, e0, r1⟩ := H.out.at2 hx
      have e1 : wr.cell? ⟨b1, o1 + k, none⟩ = some (.slice A3 x.length C3) := (HB.out.cell (p := ⟨b1, o1 + k, none⟩) l1).trans e0
      have HT := Lib.hid (lens_take hx)
      clear hx e0 r1
      generalize x.length = nx at *
      go_wp2_with (at_builtin; refine append_int _ rfl (.tmp 11) (.tmp 17) rfl w.heap.size A2 k C2 _ rfl (HO.out.alloc _) _ 1 1 [(nx : Int)] rfl (row_int1 _ _ _) (by omega) (by simp; omega) ?_; intro A5 C5 w2 hown2 hg2 hat2; have HO2 := Lib.hid hown2; have HB2 := Lib.hid ((HB.out.alloc zB _).trans (below_grown (Below.refl _ _) (HO.out.alloc _) (Nat.le_refl _) (by simp; omega) hg2)); clear hown2 hg2 hat2)
      go_roundw
      case rel => exact ⟨k + 1, A5, C5, by omega, by go_num, rfl, by rw [HT.out]; exact HO2.out, HB2.out⟩
      case measure => simp [intOf]; omega
    · obtain rfl : k = n := by omega
      have HF := Lib.hid (show L.take k = L by rw [List.take_of_length_le]; rw [HN.out]; exact Nat.le_refl _)
      go_wp2_with fail
      go_ret
      refine ⟨_, _, rfl, ?_, HB.out⟩
      have := HO.out
      rw [HF.out] at this
      exact this
end Go.Proofs.YtplcdjdmkmdddaaDoor
