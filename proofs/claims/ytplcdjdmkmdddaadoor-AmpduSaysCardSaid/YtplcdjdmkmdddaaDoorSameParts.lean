/-
  muezzinref.SameParts: of parts that are the same.
-/
import Derived.Test.YtplcdjdmkmdddaaDoorAmFirst
import Derived.Test.YtplcdjdmkmdddaaDoorSameBytes
namespace Go.Proofs.YtplcdjdmkmdddaaDoor
open Go.ChangeShapes Go.WideShapes Go.ChangeAt Go.RowKit
set_option linter.unusedVariables false

theorem RowP.at2 {w : World} {A : Option Addr} {n C : Nat} {L : List (List UInt8)} {k : Nat} {x : List UInt8} (h : RowP w A n C L) (hx : L[k]? = some x) : ∃ b off A' C', A = some ⟨b, off, none⟩ ∧ b < w.heap.size ∧ w.cell? ⟨b, off + k, none⟩ = some (.slice A' x.length C') ∧ Row w 1 A' x.length C' (x.map u8v) := by
  have hk : k < n := by rw [h.1]; exact (List.getElem?_eq_some_iff.1 hx).1
  obtain ⟨b, off, y, A', C', e1, e2, e3, e4, e5⟩ := h.at_ hk
  rw [hx] at e3
  injection e3 with e3
  subst e3
  exact ⟨b, off, A', C', e1, e2, e4, e5⟩
theorem RowP.len_le {w : World} {A : Option Addr} {n C : Nat} {L : List (List UInt8)} (h : RowP w A n C L) : n ≤ C ∧ C ≤ 9223372036854775807 := by
  obtain ⟨h1, vs, h2, h3⟩ := h
  exact h2.len_cap

set_option maxHeartbeats 1600000 in
theorem sameParts_yes (A1 A2 : Option Addr) (n C1 C2 : Nat) (L : List (List UInt8)) (w : World) (h1 : RowP w A1 n C1 L) (h2 : RowP w A2 n C2 L) :
    Calls Tryd.prog 12 #[.slice A1 n C1, .slice A2 n C2] w fun e w' => e = .returned (.bool true) ∧ Below w.heap.size w w' := by
  have hm := h1.len_le
  have HL := Lib.hid h1.1
  have H1 := Lib.hid h1
  have H2 := Lib.hid h2
  clear h1 h2
  go_enter Tryd.func12, Tryd.ntmps12
  go_wp2_with fail
  go_loopw [5] (fun i wr => ∃ k : Nat, k ≤ n ∧ i = .int .i64 k ∧ RowP wr A1 n C1 L ∧ RowP wr A2 n C2 L ∧ Below w.heap.size w wr) (fun i _ => n - (intOf i).toNat)
  case atStart => exact ⟨0, Nat.zero_le _, rfl, H1.out, H2.out, Below.refl _ _⟩
  case round =>
    obtain ⟨k, hk, rfl, hr1, hr2, hb⟩ := hrel
    have R1 := Lib.hid hr1
    have R2 := Lib.hid hr2
    have HB := Lib.hid hb
    clear hr1 hr2 hb H1 H2
    by_cases hkn : k < n
    · obtain ⟨x, hx⟩ : ∃ x, L[k]? = some x := ⟨_, List.getElem?_eq_getElem (by rw [← HL.out]; exact hkn)⟩
      obtain ⟨b1, o1, A3, C3, rfl, l1, e0, r1⟩ := R1.out.at2 hx
      obtain ⟨b2, o2, A4, C4, rfl, l2, f0, r2⟩ := R2.out.at2 hx
      have zB := HB.out.size
      have HT := Lib.hid (show sameB x x = true by simp [sameB])
      have HC := Lib.hid (sameBytes_any A3 x.length C3 x A4 x.length C4 x wr.drew r1.drew r2.drew)
      clear hx r1 r2
      generalize x.length = nx at *
      go_wp2_with fail
      go_region_held3 (fun y => y.cell? ⟨b1, o1 + k, none⟩ = some (.slice A3 nx C3) ∧ y.cell? ⟨b2, o2 + k, none⟩ = some (.slice A4 nx C4))
        (first | exact ⟨e0, f0⟩ | exact ⟨(bw.cell (p := ⟨b1, _, none⟩) l1).trans e0, (bw.cell (p := ⟨b2, _, none⟩) l2).trans f0⟩)
        ((go_at_call 18; refine HC.out.mono ?_; rintro e wa ⟨rfl, hh⟩; have bw : Below wr.heap.size wr wa := (by obtain ⟨n, rfl⟩ := hh; exact (Below.drew (Below.refl _ wr)).trans (below_drewN _)); clear hh))
      rw [HT.out]
      have R1' := Lib.hid (R1.out.below bw (Nat.le_refl _))
      have R2' := Lib.hid (R2.out.below bw (Nat.le_refl _))
      have HB' := Lib.hid (HB.out.trans (bw.mono zB))
      clear bw e0 f0
      go_wp2_with fail
      go_roundw
      case rel => exact ⟨k + 1, by omega, by go_num, R1'.out, R2'.out, HB'.out⟩
      case measure => simp [intOf]; omega
    · go_wp2_with fail
      go_ret
      exact ⟨rfl, HB.out⟩
end Go.Proofs.YtplcdjdmkmdddaaDoor
