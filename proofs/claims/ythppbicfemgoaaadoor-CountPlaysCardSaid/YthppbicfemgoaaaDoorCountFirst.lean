/-
  The chapter's example; slices.Clone of places; Clone of a book.
-/
import Derived.Test.YthppbicfemgoaaaDoorCountMore
import Derived.Test.YthppbicfemgoaaaDoorSee
namespace Go.Proofs.YthppbicfemgoaaaDoor
open Go.ChangeShapes Go.WideShapes Go.ChangeAt Go.RowKit
open Count
set_option linter.unusedVariables false

theorem Bk.belowT {w w' : World} {base B C : Nat} {A : Option Addr} {L : List Pl} (h : Bk w base B A C L) (hB : base ≤ B) (ht : Touch (bkS B A) w w') : Below base w w' :=
  ht.below (fun k hk => by
    rcases hk with rfl | hk
    · exact hB
    · exact (own_ge h.own k hk).1) (Nat.le_trans hB (Nat.le_of_lt h.blk.lt))
theorem bk_new (w : World) (base : Nat) : Bk (w.alloc (.cells #[.slice none 0 0] 26)) base w.heap.size none 0 [] :=
  ⟨Blk.new _ _ _, World.ownsRow_nil _ _ _ _⟩

set_option maxHeartbeats 1600000 in
theorem first_any (w : World) : Calls Tryd.prog 6 #[] w fun e w' => e = .returned (.bool true) ∧ Below w.heap.size w w' := by
  have H1 := Lib.hid (bk_new w w.heap.size)
  have b1 : Below w.heap.size w (w.alloc (.cells #[.slice none 0 0] 26)) := (Below.refl _ _).alloc (Nat.le_refl _) _
  have B1 := Lib.hid b1
  have z1 := b1.size
  go_enter Tryd.func6, Tryd.ntmps6
  go_wp2_with fail
  refine (len_any H1.out).mono ?_
  rintro e w2 ⟨rfl, rfl⟩
  rw [show (([] : List Pl).length : Int) = 0 from rfl]
  go_wp2_with fail
  refine (accept_any H1.out (by decide) z1).mono ?_
  rintro e w2 ⟨rfl, A2, C2, h2, t2, _⟩
  rw [show (([] : List Pl).length : Int) + 1 = 1 from rfl]
  have b2 := b1.trans (Bk.belowT H1.out (Nat.le_refl _) t2)
  have z2 := b2.size
  have h2' : Bk w2 w.heap.size w.heap.size A2 C2 [(1, 0)] := h2
  have H2 := Lib.hid h2'
  clear h2 h2' t2
  go_wp2_with fail
  refine (class_any H2.out 1).mono ?_
  rintro e w3 ⟨rfl, hx3⟩
  rw [show ((nC 1 [(1, 0)] : Nat) : Int) = 1 from by decide]
  have b3 := b2.trans (hx3.mono z2)
  have z3 := b3.size
  have H3 := Lib.hid (H2.out.below hx3 (Nat.le_refl _))
  go_wp2_with fail
  refine (ok_any H3.out (by intro p hp; simp at hp; subst hp; simp [good]) (by decide)).mono ?_
  rintro e w4 ⟨rfl, hx4⟩
  go_wp2_with fail
  go_ret
  exact ⟨rfl, b3.trans (hx4.mono z3)⟩

set_option maxHeartbeats 800000 in
theorem cloneP_any (a : Option Addr) (len cap : Nat) (vs : List Value) (w : World) (h : Row w 2 a len cap vs) (h1 : ∀ u ∈ vs, u.oneCell' = true) (hl : len ≤ 1000000) :
    Calls Tryd.prog 29 #[.slice a len cap] w fun e w' => ∃ A C, e = .returned (.slice A len C) ∧ w'.ownsRow w.heap.size 51 2 (.slice A len C) len vs ∧ Below w.heap.size w w' := by
  obtain ⟨i0, hi, hz, hsz, hby⟩ := info_parts info_place
  rcases a with _ | a
  · have h0 : cap = 0 := h.2.2.2.1 rfl
    have hl0 : len = 0 := by have := h.2.1; omega
    have h2 : vs = [] := List.eq_nil_of_length_eq_zero (by simpa [hl0] using h.1)
    subst h0 hl0 h2
    have hn := fun (w : World) => Lib.run_eql_slice_nil (P := Tryd.prog) w 24 51 none 0 0 0 0 Tryd.underlying24
    go_enter Tryd.func29, Tryd.ntmps29
    go_wp2_with fail
    go_ret
    exact ⟨none, 0, rfl, World.ownsRow_nil _ _ _ _, Below.refl _ _⟩
  · have hn := fun (w : World) => Lib.run_eql_slice_nil (P := Tryd.prog) w 24 51 (some a) len cap 0 0 Tryd.underlying24
    have hmade : (w.alloc (.cells #[] 51)).ownsRow w.heap.size 51 2 (.slice (some ⟨w.heap.size, 0, none⟩) 0 0) 0 [] := World.ownsRow_made w #[] 0 (Nat.le_refl _) (by simp [maxLen]) (by simp)
    go_enter Tryd.func29, Tryd.ntmps29
    go_wp2_with (at_builtin; refine wpList_append_row _ rfl (.tmp 5) (.tmp 6) _ rfl w.heap.size _ i0 _ 2 16 Tryd.underlying24 hi hz hsz hby rfl (by decide) _ 0 0 [] rfl hmade (some a) len cap vs rfl (h.alloc _) h1 (by unfold maxLen; omega) (by omega) (by simp) ?_; intro A2 C2 w2 hown2 hg2 hat2 hnone2)
    go_ret
    exact ⟨A2, C2, rfl, by simpa using hown2, below_grown ((Below.refl _ _).alloc (Nat.le_refl _) _) hmade (Nat.le_refl _) (by simp) hg2⟩

theorem bkC_one (L : List Pl) : ∀ u ∈ bkC L, u.oneCell' = true := by
  intro u hu
  obtain ⟨p, _, hp⟩ := List.mem_flatMap.1 hu
  simp [bkF] at hp
  rcases hp with rfl | rfl <;> rfl

set_option maxHeartbeats 800000 in
theorem cloneB_any {w : World} {base B C : Nat} {A : Option Addr} {L : List Pl} (h : Bk w base B A C L) (hl : L.length ≤ 1000000) :
    Calls Tryd.prog 17 #[.pointer (some ⟨B, 0, none⟩)] w fun e w' => ∃ B2 A2 C2, e = .returned (.pointer (some ⟨B2, 0, none⟩)) ∧ Bk w' w.heap.size B2 A2 C2 L ∧ w.heap.size ≤ B2 ∧ Below w.heap.size w w' := by
  have hc := h.cell
  have H := Lib.hid h
  clear h
  go_enter Tryd.func17, Tryd.ntmps17
  go_wp2_with fail
  refine (cloneP_any A L.length C (bkC L) w (row_of_own H.out.own) (bkC_one L) hl).mono ?_
  rintro e w1 ⟨A2, C2, rfl, hown, hb1⟩
  have z1 := hb1.size
  go_wp2_with fail
  go_ret
  exact ⟨w1.heap.size, A2, C2, rfl, ⟨Blk.new _ _ _, World.ownsRow.alloc hown _⟩, z1, hb1.alloc z1 _⟩
end Go.Proofs.YthppbicfemgoaaaDoor
