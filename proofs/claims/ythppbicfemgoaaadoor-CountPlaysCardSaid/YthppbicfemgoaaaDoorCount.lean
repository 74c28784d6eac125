/-
  count.Book in memory: of, over, Accept, Move, Drop, Of, Len.
-/
import Derived.Test.YthppbicfemgoaaaDoorCountPlain
import Derived.Test.YthppbicfemgoaaaDoorErr
namespace Go.Proofs.YthppbicfemgoaaaDoor
open Go.ChangeShapes Go.WideShapes Go.ChangeAt Go.RowKit
open Count
set_option linter.unusedVariables false

/-- a book in block B whose row is the slice A -/
structure Bk (w : World) (base B : Nat) (A : Option Addr) (C : Nat) (L : List Pl) : Prop where
  blk : Blk w B #[.slice A L.length C] 26
  own : w.ownsRow base 51 2 (.slice A L.length C) L.length (bkC L)
/-- the blocks that a book's operations may turn -/
def bkS (B : Nat) (A : Option Addr) : Nat → Prop := fun k => k = B ∨ Go.Proofs.YthppbicfemgoaaaDoor.blk A = some k

section
variable {w w' : World} {base B C : Nat} {A : Option Addr} {L : List Pl}
theorem Bk.cell (h : Bk w base B A C L) : w.cell? ⟨B, 0, none⟩ = some (.slice A L.length C) := h.blk.cell 0
theorem Bk.frozen (h : Bk w base B A C L) : w.frozen? ⟨B, 0, none⟩ = false := h.blk.frozen 0
theorem Bk.ne (h : Bk w base B A C L) : some B ≠ Go.Proofs.YthppbicfemgoaaaDoor.blk A := own_ne h.own h.blk (by decide)
theorem Bk.touch {S : Nat → Prop} (h : Bk w base B A C L) (ht : Touch S w w') (h1 : ¬ S B) (h2 : ∀ k, Go.Proofs.YthppbicfemgoaaaDoor.blk A = some k → ¬ S k) : Bk w' base B A C L := ⟨h.blk.touch ht h1, own_touch h.own ht h2⟩
theorem Bk.below {D : Nat} (h : Bk w base B A C L) (hb : Below D w w') (hD : w.heap.size ≤ D) : Bk w' base B A C L := ⟨h.blk.below hb (Nat.lt_of_lt_of_le h.blk.lt hD), own_below h.own hb hD⟩
theorem Bk.alloc (h : Bk w base B A C L) (o : Obj) : Bk (w.alloc o) base B A C L := ⟨h.blk.alloc o, World.ownsRow.alloc h.own o⟩
theorem Bk.len (h : Bk w base B A C L) : L.length ≤ 9223372036854775807 := (row_of_own h.own).len_le
theorem bk_zero {A : Option Addr} {C : Nat} (h : w.ownsRow base 51 2 (.slice A 0 C) 0 []) {B : Nat} (hb : Blk w B #[.slice A 0 C] 26) : Bk w base B A C [] := ⟨hb, h⟩
end

theorem info_place : (Tryd.prog.info? 51).map (fun i => (i.zero, i.size, i.bytes)) = some (some (.agg #[.int .i64 0, .int .i64 0]), 2, 16) := by kernel_rfl

theorem bk_row2 (w : World) (t : TypeId) (p : Pl) : Row (w.alloc (.cells #[.int .i64 p.1, .int .i64 p.2] t)) 2 (some ⟨w.heap.size, 0, none⟩) 1 1 [.int .i64 p.1, .int .i64 p.2] := by
  refine ⟨rfl, Nat.le_refl _, by simp [maxLen], fun h => by simp at h, fun _ => ⟨w.heap.size, 0, rfl, by simp, fun i u hu => ?_⟩⟩
  rw [Nat.zero_add, (Blk.new w #[.int .i64 p.1, .int .i64 p.2] t).cell i]
  simpa using hu

set_option maxHeartbeats 400000 in
theorem len_any {w : World} {base B C : Nat} {A : Option Addr} {L : List Pl} (h : Bk w base B A C L) :
    Calls Tryd.prog 13 #[.pointer (some ⟨B, 0, none⟩)] w fun e w' => e = .returned (.int .i64 L.length) ∧ w = w' := by
  have hc := h.cell
  go_enter Tryd.func13, Tryd.ntmps13
  go_wp2_with fail
  go_ret
  exact ⟨rfl, rfl⟩

set_option maxHeartbeats 400000 in
theorem over_any {w : World} {g k : Nat} (p : Pl) (h0 : w.cell? ⟨g, k, none⟩ = some (.int .i64 p.1)) :
    Calls Tryd.prog 23 #[.pointer (some ⟨g, k, none⟩)] w fun e w' => e = .returned (.bool (over p)) ∧ w = w' := by
  go_enter Tryd.func23, Tryd.ntmps23
  go_wp2_with fail
  all_goals go_ret
  all_goals exact ⟨by simp_all [over], rfl⟩

set_option maxHeartbeats 800000 in
theorem accept_any {w : World} {base B C : Nat} {A : Option Addr} {L : List Pl} (h : Bk w base B A C L) (hl : L.length ≤ 1000000) (hB : base ≤ w.heap.size) :
    Calls Tryd.prog 7 #[.pointer (some ⟨B, 0, none⟩)] w fun e w' => e = .returned (.int .i64 ((L.length : Int) + 1)) ∧
      ∃ A2 C2, Bk w' base B A2 C2 (L ++ [(1, 0)]) ∧ Touch (bkS B A) w w' ∧ (∀ k, blk A2 = some k → blk A = some k ∨ w.heap.size ≤ k) := by
  have hc := h.cell
  have hf := h.frozen
  have hlt := h.blk.lt
  obtain ⟨i0, hi, hz, hsz, hby⟩ := info_parts info_place
  go_enter Tryd.func7, Tryd.ntmps7
  go_wp2_with (at_builtin; refine wpList_append_row _ rfl (.tmp 7) (.tmp 9) _ rfl base _ i0 _ 2 16 Tryd.underlying24 hi hz hsz hby rfl (by decide) A L.length C (bkC L) rfl (World.ownsRow.alloc h.own _) (some ⟨w.heap.size, 0, none⟩) 1 1 [.int .i64 1, .int .i64 0] rfl (bk_row2 w _ (1, 0)) (by simp [Value.oneCell']) (by unfold maxLen; omega) (by omega) (by simp; omega) ?_; intro A2 C2 w2 hown2 hg2 hat2 hnone2; have hk2 : Blk w2 B #[.slice A L.length C] 26 := (h.blk.alloc _).grown hg2 h.ne; have hf2 := hk2.frozen 0; have hc2 : w2.cell? ⟨B, 0, none⟩ = some (.slice A L.length C) := hk2.cell 0)
  go_ret
  have hne2 : some B ≠ blk A2 := by
    rcases hat2 with e | e
    · rw [e]; exact h.ne
    · rw [e]; intro x; injection x with x; simp at x; omega
  refine ⟨ret_i64 rfl, A2, C2, ⟨?_, ?_⟩, ?_, ?_⟩
  · have := hk2.set_ 0 (.slice A2 (L.length + 1) C2)
    rw [List.length_append]
    exact this
  · rw [List.length_append, bkC_snoc]
    exact own_far hown2 ⟨B, 0, none⟩ hne2 _
  · refine ((touch_alloc _ _ _).trans (touch_of_grown (S := bkS B A) hg2 (fun k hk => .inr hk)) (fun _ _ x => x)).trans (touch_set _ _ _ _ _ (.inl rfl)) (fun _ _ x => x)
  · intro k hk
    rcases hat2 with e | e
    · exact .inl (e ▸ hk)
    · right; rw [e] at hk; injection hk with hk; simp at hk; omega

theorem bk_at {w : World} {base B C : Nat} {A : Option Addr} {L : List Pl} (h : Bk w base B A C L) {k : Nat} (hk : k < L.length) :
    ∃ g, A = some ⟨g, 0, none⟩ ∧ base ≤ g ∧ g < w.heap.size ∧ L.length ≤ C ∧ (∀ p, L[k]? = some p → w.cell? ⟨g, k * 2, none⟩ = some (.int .i64 p.1) ∧ w.cell? ⟨g, k * 2 + 1, none⟩ = some (.int .i64 p.2)) ∧ (∀ j, w.frozen? ⟨g, j, none⟩ = false) := by
  obtain ⟨g, hA, h1, h2, h3, h4, h5, _⟩ := own_open h.own (by omega)
  exact ⟨g, hA, h1, h2, h3, fun p hp => ⟨h4 _ _ (bkC_get0 hp), h4 _ _ (bkC_get1 hp)⟩, h5⟩

set_option maxHeartbeats 800000 in
theorem of_no {w : World} {E : Nat → Addr} {base B C : Nat} {A : Option Addr} {L : List Pl} (h : Bk w base B A C L) (hE : Errs [2, 6, 9] w E) (id : Int) (hid : id < 1 ∨ id > L.length) :
    Calls Tryd.prog 22 #[.pointer (some ⟨B, 0, none⟩), .int .i64 id] w fun e w' => e = .returned (.tuple #[.pointer none, .iface 76 (.pointer (some (E 6)))]) ∧ ∃ n, w' = w.drewN n := by
  have hc := h.cell
  have hg := hE.at_ 6 2 (by decide) rfl
  by_cases h1 : id < 1
  · go_enter Tryd.func22, Tryd.ntmps22
    go_wp2_with fail
    go_quiet (fail)
    go_wp2_with fail
    go_ret2
    exact ⟨rfl, ⟨_, rfl⟩⟩
  · have h2 : id > L.length := by omega
    have hn : ¬ id ≤ L.length := by omega
    go_enter Tryd.func22, Tryd.ntmps22
    go_wp2_with fail
    go_quiet (fail)
    go_wp2_with fail
    go_ret2
    exact ⟨rfl, ⟨_, rfl⟩⟩

set_option maxHeartbeats 800000 in
theorem of_yes {w : World} {base B C g k : Nat} {L : List Pl} (h : Bk w base B (some ⟨g, 0, none⟩) C L) (hk : k < L.length) (hC : L.length ≤ C) :
    Calls Tryd.prog 22 #[.pointer (some ⟨B, 0, none⟩), .int .i64 ((k : Int) + 1)] w fun e w' => e = .returned (.tuple #[.pointer (some ⟨g, k * 2, none⟩), .nilIface]) ∧ w = w' := by
  have hc := h.cell
  have hl := h.len
  have h1 : ¬ (k : Int) + 1 < 1 := by omega
  have h2 : ¬ (k : Int) + 1 > L.length := by omega
  have hw : IntKind.i64.wrap ((k : Int) + 1 - 1) = (k : Int) := by rw [IntWalk.i64_in _ (by omega)]; omega
  go_enter Tryd.func22, Tryd.ntmps22
  go_wp2_with fail
  go_ret2
  exact ⟨rfl, rfl⟩

theorem mv_none {L : List Pl} {id c : Int} (h : id < 1 ∨ id > L.length) : mvR L id c = some 6 := by simp only [mvR]; rw [if_pos h]
theorem mv_range {L : List Pl} {id c : Int} (h : ¬ (id < 1 ∨ id > L.length)) (hc : c < 1 ∨ c > 3) : mvR L id c = some 2 := by simp only [mvR]; rw [if_neg h, if_pos hc]
theorem mv_state {L : List Pl} {k : Nat} {p : Pl} {c : Int} (h : L[k]? = some p) (hc : ¬ (c < 1 ∨ c > 3)) (hs : over p = true ∨ c = 1 ∨ (c = 3 ∧ p.1 = 1)) : mvR L ((k : Int) + 1) c = some 9 := by
  have hk := (List.getElem?_eq_some_iff.1 h).1
  simp only [mvR]
  rw [if_neg (by omega), if_neg hc, show (((k : Int) + 1) - 1).toNat = k by omega, h]
  simp only
  rw [if_pos hs]
theorem mv_fine {L : List Pl} {k : Nat} {p : Pl} {c : Int} (h : L[k]? = some p) (hc : ¬ (c < 1 ∨ c > 3)) (hs : ¬ (over p = true ∨ c = 1 ∨ (c = 3 ∧ p.1 = 1))) : mvR L ((k : Int) + 1) c = none := by
  have hk := (List.getElem?_eq_some_iff.1 h).1
  simp only [mvR]
  rw [if_neg (by omega), if_neg hc, show (((k : Int) + 1) - 1).toNat = k by omega, h]
  simp only
  rw [if_neg hs]
theorem mvL_ill {L : List Pl} {id c : Int} {i : Nat} (h : mvR L id c = some i) : mvL L id c = L := by simp only [mvL, h]
theorem mvL_fine {L : List Pl} {k : Nat} {p : Pl} {c : Int} (hr : mvR L ((k : Int) + 1) c = none) (h : L[k]? = some p) : mvL L ((k : Int) + 1) c = L.set k (c, p.2) := by
  simp only [mvL, hr, show (((k : Int) + 1) - 1).toNat = k by omega, h]

theorem bk_drew {w : World} {base B C : Nat} {A : Option Addr} {L : List Pl} (h : Bk w base B A C L) (n : Nat) : Bk (w.drewN n) base B A C L := ⟨h.blk, h.own⟩

/-- the id of a packet that is there -/
theorem id_at {L : List Pl} {id : Int} (h : ¬ (id < 1 ∨ id > L.length)) : ∃ k : Nat, k < L.length ∧ id = (k : Int) + 1 ∧ ∃ p, L[k]? = some p :=
  ⟨(id - 1).toNat, by omega, by omega, _, List.getElem?_eq_getElem (by omega)⟩

set_option maxHeartbeats 1600000 in
theorem move_any {w : World} {E : Nat → Addr} {base B C : Nat} {A : Option Addr} {L : List Pl} (h : Bk w base B A C L) (hE : Errs [2, 6, 9] w E) (id c : Int) :
    Calls Tryd.prog 9 #[.pointer (some ⟨B, 0, none⟩), .int .i64 id, .int .i64 c] w fun e w' => e = .returned (errO E (mvR L id c)) ∧ Bk w' base B A C (mvL L id c) ∧ Touch (bkS B A) w w' := by
  by_cases hid : id < 1 ∨ id > L.length
  · have hr := mv_none (c := c) hid
    rw [mvL_ill hr, hr]
    go_enter Tryd.func9, Tryd.ntmps9
    go_wp2_with fail
    refine (of_no h hE id hid).mono ?_
    rintro e w1 ⟨rfl, n, rfl⟩
    go_wp2_with fail
    go_ret
    exact ⟨rfl, bk_drew h n, touch_drew _ _ _⟩
  · obtain ⟨k, hk, rfl, p, hp⟩ := id_at hid
    obtain ⟨g, rfl, hg1, hg2, hC, hcell, hfr⟩ := bk_at h hk
    obtain ⟨c0, c1⟩ := hcell p hp
    clear hcell
    have f0 := hfr (k * 2)
    have gR := hE.at_ 2 0 (by decide) rfl
    have gS := hE.at_ 9 1 (by decide) rfl
    by_cases hc : c < 1 ∨ c > 3
    · have hr := mv_range hid hc
      rw [mvL_ill hr, hr]
      by_cases hc1 : c < 1
      · go_enter Tryd.func9, Tryd.ntmps9
        go_wp2_with fail
        refine (of_yes h hk hC).mono ?_
        rintro e w1 ⟨rfl, rfl⟩
        go_wp2_with fail
        go_ret
        exact ⟨rfl, h, Touch.refl _ _⟩
      · have hc2 : c > 3 := by omega
        go_enter Tryd.func9, Tryd.ntmps9
        go_wp2_with fail
        refine (of_yes h hk hC).mono ?_
        rintro e w1 ⟨rfl, rfl⟩
        go_wp2_with fail
        go_ret
        exact ⟨rfl, h, Touch.refl _ _⟩
    · have hc1 : ¬ c < 1 := by omega
      have hc2 : ¬ c > 3 := by omega
      by_cases hs : over p = true ∨ c = 1 ∨ (c = 3 ∧ p.1 = 1)
      · have hr := mv_state hp hc hs
        rw [mvL_ill hr, hr]
        rcases ho : over p
        · rw [ho] at hs
          clear hp
          by_cases e1 : c = 1
          · subst e1
            go_enter Tryd.func9, Tryd.ntmps9
            go_wp2_with fail
            refine (of_yes h hk hC).mono ?_
            rintro e w1 ⟨rfl, rfl⟩
            go_wp2_with fail
            refine (over_any p c0).mono ?_
            rintro e w1 ⟨rfl, rfl⟩
            rw [ho]
            go_wp2_with fail
            go_ret
            exact ⟨rfl, h, Touch.refl _ _⟩
          · obtain ⟨e3, e4⟩ : c = 3 ∧ p.1 = 1 := by simpa [e1] using hs
            subst e3
            clear hs
            rw [e4] at c0
            go_enter Tryd.func9, Tryd.ntmps9
            go_wp2_with fail
            refine (of_yes h hk hC).mono ?_
            rintro e w1 ⟨rfl, rfl⟩
            go_wp2_with fail
            refine (over_any p (by rw [e4]; exact c0)).mono ?_
            rintro e w1 ⟨rfl, rfl⟩
            rw [ho]
            go_wp2_with fail
            go_ret
            exact ⟨rfl, h, Touch.refl _ _⟩
        · go_enter Tryd.func9, Tryd.ntmps9
          go_wp2_with fail
          refine (of_yes h hk hC).mono ?_
          rintro e w1 ⟨rfl, rfl⟩
          go_wp2_with fail
          refine (over_any p c0).mono ?_
          rintro e w1 ⟨rfl, rfl⟩
          rw [ho]
          go_wp2_with fail
          go_ret
          exact ⟨rfl, h, Touch.refl _ _⟩
      · have hr := mv_fine hp hc hs
        rw [mvL_fine hr hp, hr]
        have ho : over p = false := by
          rcases hh : over p
          · rfl
          · exact absurd (.inl hh) hs
        have e1 : ¬ c = 1 := fun x => hs (.inr (.inl x))
        have e3 : c = 3 → ¬ p.1 = 1 := fun x y => hs (.inr (.inr ⟨x, y⟩))
        have fin : Bk (w.setCell ⟨g, k * 2, none⟩ (.int .i64 c)) base B (some ⟨g, 0, none⟩) C (L.set k (c, p.2)) := by
          refine ⟨?_, ?_⟩
          · rw [List.length_set]
            exact h.blk.far (by intro e; exact h.ne (by rw [e]; rfl)) _
          · obtain ⟨g', hA, _, _, _, _, _, h6⟩ := own_open h.own (by omega)
            injection hA with hA; injection hA with hA; subst hA
            have := h6 (k * 2) (.int .i64 c)
            rw [bkC_set0 hp] at this
            rw [List.length_set]
            exact this
        have HF := Lib.hid fin
        clear hs hc fin hp
        by_cases e4 : c = 3
        · have e5 := e3 e4
          subst e4
          clear e3
          go_enter Tryd.func9, Tryd.ntmps9
          go_wp2_with fail
          refine (of_yes h hk hC).mono ?_
          rintro e w1 ⟨rfl, rfl⟩
          go_wp2_with fail
          refine (over_any p c0).mono ?_
          rintro e w1 ⟨rfl, rfl⟩
          rw [ho]
          go_wp2_with fail
          go_ret
          exact ⟨rfl, HF.out, touch_set _ _ _ _ _ (.inr rfl)⟩
        · clear e3
          go_enter Tryd.func9, Tryd.ntmps9
          go_wp2_with fail
          refine (of_yes h hk hC).mono ?_
          rintro e w1 ⟨rfl, rfl⟩
          go_wp2_with fail
          refine (over_any p c0).mono ?_
          rintro e w1 ⟨rfl, rfl⟩
          rw [ho]
          go_wp2_with fail
          go_ret
          exact ⟨rfl, HF.out, touch_set _ _ _ _ _ (.inr rfl)⟩

theorem dp_none {L : List Pl} {id c : Int} (h : id < 1 ∨ id > L.length) : dpR L id c = some 6 := by simp only [dpR]; rw [if_pos h]
theorem dp_range {L : List Pl} {id c : Int} (h : ¬ (id < 1 ∨ id > L.length)) (hc : c < 1 ∨ c > 5) : dpR L id c = some 2 := by simp only [dpR]; rw [if_neg h, if_pos hc]
theorem dp_over {L : List Pl} {k : Nat} {p : Pl} {c : Int} (h : L[k]? = some p) (hc : ¬ (c < 1 ∨ c > 5)) : dpR L ((k : Int) + 1) c = if over p = true then some 9 else none := by
  have hk := (List.getElem?_eq_some_iff.1 h).1
  simp only [dpR]
  rw [if_neg (by omega), if_neg hc, show (((k : Int) + 1) - 1).toNat = k by omega, h]
theorem dpL_ill {L : List Pl} {id c : Int} {i : Nat} (h : dpR L id c = some i) : dpL L id c = L := by simp only [dpL, h]
theorem dpL_fine {L : List Pl} {k : Nat} {c : Int} (hr : dpR L ((k : Int) + 1) c = none) : dpL L ((k : Int) + 1) c = L.set k (4, c) := by
  simp only [dpL, hr, show (((k : Int) + 1) - 1).toNat = k by omega]

set_option maxHeartbeats 1600000 in
theorem drop_any {w : World} {E : Nat → Addr} {base B C : Nat} {A : Option Addr} {L : List Pl} (h : Bk w base B A C L) (hE : Errs [2, 6, 9] w E) (id c : Int) :
    Calls Tryd.prog 10 #[.pointer (some ⟨B, 0, none⟩), .int .i64 id, .int .i64 c] w fun e w' => e = .returned (errO E (dpR L id c)) ∧ Bk w' base B A C (dpL L id c) ∧ Touch (bkS B A) w w' := by
  by_cases hid : id < 1 ∨ id > L.length
  · have hr := dp_none (c := c) hid
    rw [dpL_ill hr, hr]
    go_enter Tryd.func10, Tryd.ntmps10
    go_wp2_with fail
    refine (of_no h hE id hid).mono ?_
    rintro e w1 ⟨rfl, n, rfl⟩
    go_wp2_with fail
    go_ret
    exact ⟨rfl, bk_drew h n, touch_drew _ _ _⟩
  · obtain ⟨k, hk, rfl, p, hp⟩ := id_at hid
    obtain ⟨g, rfl, hg1, hg2, hC, hcell, hfr⟩ := bk_at h hk
    obtain ⟨c0, c1⟩ := hcell p hp
    clear hcell
    have f0 := hfr (k * 2)
    have f1 := hfr (k * 2 + 1)
    have gR := hE.at_ 2 0 (by decide) rfl
    have gS := hE.at_ 9 1 (by decide) rfl
    by_cases hc : c < 1 ∨ c > 5
    · have hr := dp_range hid hc
      rw [dpL_ill hr, hr]
      by_cases hc1 : c < 1
      · go_enter Tryd.func10, Tryd.ntmps10
        go_wp2_with fail
        refine (of_yes h hk hC).mono ?_
        rintro e w1 ⟨rfl, rfl⟩
        go_wp2_with fail
        go_ret
        exact ⟨rfl, h, Touch.refl _ _⟩
      · have hc2 : c > 5 := by omega
        go_enter Tryd.func10, Tryd.ntmps10
        go_wp2_with fail
        refine (of_yes h hk hC).mono ?_
        rintro e w1 ⟨rfl, rfl⟩
        go_wp2_with fail
        go_ret
        exact ⟨rfl, h, Touch.refl _ _⟩
    · have hc1 : ¬ c < 1 := by omega
      have hc2 : ¬ c > 5 := by omega
      have hr := dp_over hp hc
      rcases ho : over p
      · rw [ho] at hr
        simp only [Bool.false_eq_true, if_false] at hr
        rw [dpL_fine hr, hr]
        have fin : Bk ((w.setCell ⟨g, k * 2, none⟩ (.int .i64 4)).setCell ⟨g, k * 2 + 1, none⟩ (.int .i64 c)) base B (some ⟨g, 0, none⟩) C (L.set k (4, c)) := by
          have hnB : B ≠ g := by intro e; exact h.ne (by rw [e]; rfl)
          refine ⟨?_, ?_⟩
          · rw [List.length_set]
            exact (h.blk.far (p := ⟨g, k * 2, none⟩) hnB _).far hnB _
          · obtain ⟨g', hA, _, _, _, _, _, h6⟩ := own_open h.own (by omega)
            injection hA with hA; injection hA with hA; subst hA
            have h7 := h6 (k * 2) (.int .i64 4)
            rw [bkC_set0 hp] at h7
            obtain ⟨g', hA, _, _, _, _, _, h8⟩ := own_open h7 (by omega)
            injection hA with hA; injection hA with hA; subst hA
            have h9 := h8 (k * 2 + 1) (.int .i64 c)
            rw [bkC_set1 (p := (4, p.2)) (by rw [List.getElem?_set_self hk])] at h9
            rw [List.length_set]
            simpa using h9
        have HF := Lib.hid fin
        clear hc fin hp
        go_enter Tryd.func10, Tryd.ntmps10
        go_wp2_with fail
        refine (of_yes h hk hC).mono ?_
        rintro e w1 ⟨rfl, rfl⟩
        go_wp2_with fail
        refine (over_any p c0).mono ?_
        rintro e w1 ⟨rfl, rfl⟩
        rw [ho]
        go_wp2_with fail
        go_ret
        exact ⟨rfl, HF.out, (touch_set _ _ _ _ _ (.inr rfl)).trans (touch_set _ _ _ _ _ (.inr rfl)) (fun _ _ x => x)⟩
      · rw [ho] at hr
        simp only [if_true] at hr
        rw [dpL_ill hr, hr]
        clear hp
        go_enter Tryd.func10, Tryd.ntmps10
        go_wp2_with fail
        refine (of_yes h hk hC).mono ?_
        rintro e w1 ⟨rfl, rfl⟩
        go_wp2_with fail
        refine (over_any p c0).mono ?_
        rintro e w1 ⟨rfl, rfl⟩
        rw [ho]
        go_wp2_with fail
        go_ret
        exact ⟨rfl, h, Touch.refl _ _⟩

/-- what Of says -/
def ofR (L : List Pl) (id : Int) : Int × Int × Bool := if id < 1 ∨ id > L.length then (0, 0, false) else ((L.getD (id - 1).toNat (0, 0)).1, (L.getD (id - 1).toNat (0, 0)).2, true)

set_option maxHeartbeats 1600000 in
theorem ofp_any {w : World} {E : Nat → Addr} {base B C : Nat} {A : Option Addr} {L : List Pl} (h : Bk w base B A C L) (hE : Errs [2, 6, 9] w E) (id : Int) :
    Calls Tryd.prog 16 #[.pointer (some ⟨B, 0, none⟩), .int .i64 id] w fun e w' => e = .returned (.tuple #[.int .i64 (ofR L id).1, .int .i64 (ofR L id).2.1, .bool (ofR L id).2.2]) ∧ ∃ n, w' = w.drewN n := by
  by_cases hid : id < 1 ∨ id > L.length
  · have hr : ofR L id = (0, 0, false) := by simp only [ofR]; rw [if_pos hid]
    rw [hr]
    go_enter Tryd.func16, Tryd.ntmps16
    go_wp2_with fail
    refine (of_no h hE id hid).mono ?_
    rintro e w1 ⟨rfl, n, rfl⟩
    go_wp2_with fail
    go_ret3
    exact ⟨rfl, n, rfl⟩
  · obtain ⟨k, hk, rfl, p, hp⟩ := id_at hid
    have hr : ofR L ((k : Int) + 1) = (p.1, p.2, true) := by
      simp only [ofR]; rw [if_neg hid, show (((k : Int) + 1) - 1).toNat = k by omega]
      simp [hp]
    rw [hr]
    obtain ⟨g, rfl, hg1, hg2, hC, hcell, hfr⟩ := bk_at h hk
    obtain ⟨c0, c1⟩ := hcell p hp
    clear hcell hp
    go_enter Tryd.func16, Tryd.ntmps16
    go_wp2_with fail
    refine (of_yes h hk hC).mono ?_
    rintro e w1 ⟨rfl, rfl⟩
    go_wp2_with fail
    go_quiet (fail)
    go_wp2_with fail
    go_ret3
    exact ⟨rfl, _, rfl⟩
end Go.Proofs.YthppbicfemgoaaaDoor
