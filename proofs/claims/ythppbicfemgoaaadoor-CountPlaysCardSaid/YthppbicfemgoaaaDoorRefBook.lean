/-
  The document's Book: Accept, over, Move, Drop, Many.
-/
import Derived.Test.YthppbicfemgoaaaDoorCount
import Derived.Test.YthppbicfemgoaaaDoorInts
namespace Go.Proofs.YthppbicfemgoaaaDoor
open Go.ChangeShapes Go.WideShapes Go.ChangeAt Go.RowKit
open Count
set_option linter.unusedVariables false

structure Rk (w : World) (base X : Nat) (A1 : Option Addr) (C1 : Nat) (A2 : Option Addr) (C2 : Nat) (L : List Pl) : Prop where
  blk : Blk w X #[.slice A1 L.length C1, .slice A2 L.length C2] 44
  own1 : OwnI w base A1 L.length C1 (L.map Prod.fst)
  own2 : OwnI w base A2 L.length C2 (L.map Prod.snd)
  ne : ∀ k, Go.Proofs.YthppbicfemgoaaaDoor.blk A1 = some k → Go.Proofs.YthppbicfemgoaaaDoor.blk A2 ≠ some k
def rkS (X : Nat) (A1 A2 : Option Addr) : Nat → Prop := fun k => k = X ∨ Go.Proofs.YthppbicfemgoaaaDoor.blk A1 = some k ∨ Go.Proofs.YthppbicfemgoaaaDoor.blk A2 = some k
section
variable {w w' : World} {base X C1 C2 : Nat} {A1 A2 : Option Addr} {L : List Pl}
theorem Rk.c0 (h : Rk w base X A1 C1 A2 C2 L) : w.cell? ⟨X, 0, none⟩ = some (.slice A1 L.length C1) := h.blk.cell 0
theorem Rk.c1 (h : Rk w base X A1 C1 A2 C2 L) : w.cell? ⟨X, 1, none⟩ = some (.slice A2 L.length C2) := h.blk.cell 1
theorem Rk.n1 (h : Rk w base X A1 C1 A2 C2 L) : some X ≠ Go.Proofs.YthppbicfemgoaaaDoor.blk A1 := own_ne h.own1 h.blk (by decide)
theorem Rk.n2 (h : Rk w base X A1 C1 A2 C2 L) : some X ≠ Go.Proofs.YthppbicfemgoaaaDoor.blk A2 := own_ne h.own2 h.blk (by decide)
theorem Rk.touch {S : Nat → Prop} (h : Rk w base X A1 C1 A2 C2 L) (ht : Touch S w w') (h0 : ¬ S X) (h1 : ∀ k, Go.Proofs.YthppbicfemgoaaaDoor.blk A1 = some k → ¬ S k) (h2 : ∀ k, Go.Proofs.YthppbicfemgoaaaDoor.blk A2 = some k → ¬ S k) : Rk w' base X A1 C1 A2 C2 L :=
  ⟨h.blk.touch ht h0, h.own1.touch ht h1, h.own2.touch ht h2, h.ne⟩
theorem Rk.below {D : Nat} (h : Rk w base X A1 C1 A2 C2 L) (hb : Below D w w') (hD : w.heap.size ≤ D) : Rk w' base X A1 C1 A2 C2 L := ⟨h.blk.below hb (Nat.lt_of_lt_of_le h.blk.lt hD), h.own1.below hb hD, h.own2.below hb hD, h.ne⟩
theorem Rk.drewN (h : Rk w base X A1 C1 A2 C2 L) (n : Nat) : Rk (w.drewN n) base X A1 C1 A2 C2 L := ⟨h.blk, h.own1, h.own2, h.ne⟩
theorem Rk.belowT (h : Rk w base X A1 C1 A2 C2 L) (hX : base ≤ X) (ht : Touch (rkS X A1 A2) w w') : Below base w w' :=
  ht.below (fun k hk => by
    rcases hk with rfl | hk | hk
    · exact hX
    · exact (h.own1.ge k hk).1
    · exact (h.own2.ge k hk).1) (Nat.le_trans hX (Nat.le_of_lt h.blk.lt))
end

set_option maxHeartbeats 1600000 in
theorem raccept_any {w : World} {base X C1 C2 : Nat} {A1 A2 : Option Addr} {L : List Pl} (h : Rk w base X A1 C1 A2 C2 L) (hl : L.length ≤ 1000000) (hB : base ≤ w.heap.size) :
    Calls Tryd.prog 18 #[.pointer (some ⟨X, 0, none⟩)] w fun e w' => e = .returned (.int .i64 ((L.length : Int) + 1)) ∧
      ∃ A3 C3 A4 C4, Rk w' base X A3 C3 A4 C4 (L ++ [(1, 0)]) ∧ Touch (rkS X A1 A2) w w' := by
  have c0 := h.c0
  have f0 := h.blk.frozen 0
  have f1 := h.blk.frozen 1
  have hlt := h.blk.lt
  have hsep : Go.Proofs.YthppbicfemgoaaaDoor.blk A2 = none ∨ Go.Proofs.YthppbicfemgoaaaDoor.blk A2 ≠ Go.Proofs.YthppbicfemgoaaaDoor.blk A1 := by
    rcases hA : Go.Proofs.YthppbicfemgoaaaDoor.blk A2 with _ | b
    · exact .inl rfl
    · refine .inr fun e => ?_
      exact h.ne b e.symm hA
  have H := Lib.hid h
  clear h
  go_enter Tryd.func18, Tryd.ntmps18
  go_wp2_with (first
    | (at_builtin; refine append_int _ rfl (.tmp 7) (.tmp 8) rfl base A1 L.length C1 _ rfl (H.out.own1.alloc _) _ 1 1 [1] rfl (row_int1 _ _ _) (by omega) (by simp; omega) ?_; intro A3 C3 w3 hown3 hg3 hat3; have hk3 : Blk w3 X #[.slice A1 L.length C1, .slice A2 L.length C2] 44 := (H.out.blk.alloc _).grown hg3 H.out.n1; have hf3 := hk3.frozen 0; have hc3 : w3.cell? ⟨X, 0, none⟩ = some (.slice A1 L.length C1) := hk3.cell 0; have hc4 : w3.cell? ⟨X, 1, none⟩ = some (.slice A2 L.length C2) := hk3.cell 1; have hf4 := hk3.frozen 1; have hO3 : OwnI w3 base A2 L.length C2 (L.map Prod.snd) := own_keep (H.out.own2.alloc _) hg3 hsep)
    | (at_builtin; refine append_int _ rfl (.tmp 16) (.tmp 17) rfl base A2 L.length C2 _ rfl ((hO3.far ⟨X, 0, none⟩ H.out.n2 _).alloc _) _ 1 1 [0] rfl (row_int1' _ _ _ _ (by simp [World.setCell])) (by omega) (by have := hg3.size; simp [World.setCell] at this ⊢; omega) ?_; intro A4 C4 w4 hown4 hg4 hat4; have hk4 : Blk w4 X #[.slice A3 (L.length + 1) C3, .slice A2 L.length C2] 44 := Blk.grown (Blk.alloc (hk3.set_ 0 (.slice A3 (L.length + 1) C3)) _) hg4 H.out.n2; have hf5 := hk4.frozen 1; have hc5 : w4.cell? ⟨X, 1, none⟩ = some (.slice A2 L.length C2) := hk4.cell 1; have hc6 : w4.cell? ⟨X, 0, none⟩ = some (.slice A3 (L.length + 1) C3) := hk4.cell 0))
  go_ret
  have z3 := hg3.size
  simp only [World.size_alloc] at z3
  have hX3 : some X ≠ blk A3 := by
    rcases hat3 with e | e
    · rw [e]; exact H.out.n1
    · rw [e]; intro x; injection x with x; simp at x; omega
  have hX4 : some X ≠ blk A4 := by
    rcases hat4 with e | e
    · rw [e]; exact H.out.n2
    · rw [e]; intro x; injection x with x; simp [World.setCell] at x; omega
  have h1lt := fun k hk => (hown3.ge k hk).2
  have h2lt := fun k hk => (H.out.own2.ge k hk).2
  have hcross : ∀ k, blk A3 = some k → blk A2 ≠ some k := by
    intro k hk hk2
    rcases hat3 with e | e
    · exact H.out.ne k (e ▸ hk) hk2
    · rw [e] at hk; injection hk with hk
      have := h2lt k hk2
      simp at hk; omega
  have hO4 : OwnI w4 base A3 (L.length + 1) C3 (L.map Prod.fst ++ [1]) := by
    refine own_keep ((hown3.far ⟨X, 0, none⟩ hX3 _).alloc _) hg4 ?_
    rcases hA : blk A3 with _ | b
    · exact .inl rfl
    · exact .inr fun e => hcross b hA e.symm
  refine ⟨rfl, A3, C3, A4, C4, ⟨?_, ?_, ?_, ?_⟩, ?_⟩
  · rw [List.length_append]
    exact hk4.set_ 1 (.slice A4 (L.length + 1) C4)
  · rw [List.length_append, List.map_append]
    exact hO4.far ⟨X, 1, none⟩ hX3 _
  · rw [List.length_append, List.map_append]
    exact hown4.far ⟨X, 1, none⟩ hX4 _
  · intro k hk hk4
    rcases hat4 with e | e
    · exact hcross k hk (e ▸ hk4)
    · rw [e] at hk4; injection hk4 with hk4
      have := h1lt k hk
      simp [World.setCell] at hk4; omega
  · have t1 : Touch (rkS X A1 A2) w w3 := (touch_alloc _ _ _).trans (touch_of_grown (S := rkS X A1 A2) hg3 (fun k hk => .inr (.inl hk))) (fun _ _ x => x)
    have t2 : Touch (rkS X A1 A2) w w4 := ((t1.trans (touch_set (rkS X A1 A2) _ _ _ _ (.inl rfl)) (fun _ _ x => x)).trans (touch_alloc (rkS X A1 A2) _ _) (fun _ _ x => x)).trans (touch_of_grown (S := rkS X A1 A2) hg4 (fun k hk => .inr (.inr hk))) (fun _ _ x => x)
    exact t2.trans (touch_set (rkS X A1 A2) _ _ _ _ (.inl rfl)) (fun _ _ x => x)

theorem rk_at {w : World} {base X C1 C2 : Nat} {A1 A2 : Option Addr} {L : List Pl} (h : Rk w base X A1 C1 A2 C2 L) {k : Nat} {p : Pl} (hp : L[k]? = some p) :
    ∃ g1 g2, A1 = some ⟨g1, 0, none⟩ ∧ A2 = some ⟨g2, 0, none⟩ ∧ g1 < w.heap.size ∧ g2 < w.heap.size ∧ g1 ≠ g2 ∧ X ≠ g1 ∧ X ≠ g2 ∧ L.length ≤ C1 ∧ L.length ≤ C2 ∧ w.cell? ⟨g1, k, none⟩ = some (.int .i64 p.1) ∧ w.cell? ⟨g2, k, none⟩ = some (.int .i64 p.2) ∧
      (∀ j, w.frozen? ⟨g1, j, none⟩ = false) ∧ (∀ j, w.frozen? ⟨g2, j, none⟩ = false) := by
  have hk := (List.getElem?_eq_some_iff.1 hp).1
  obtain ⟨g1, r1, _, l1, q1, d1, e1, _⟩ := h.own1.open_ (by omega)
  obtain ⟨g2, r2, _, l2, q2, d2, e2, _⟩ := h.own2.open_ (by omega)
  refine ⟨g1, g2, r1, r2, l1, l2, ?_, ?_, ?_, q1, q2, d1 k p.1 (by rw [List.getElem?_map, hp]; rfl), d2 k p.2 (by rw [List.getElem?_map, hp]; rfl), e1, e2⟩
  · intro e; exact h.ne g1 (by rw [r1]; rfl) (by rw [r2, e]; rfl)
  · intro e; exact h.n1 (by rw [r1, e]; rfl)
  · intro e; exact h.n2 (by rw [r2, e]; rfl)

set_option maxHeartbeats 800000 in
theorem rover_any {w : World} {base X C1 C2 : Nat} {A1 A2 : Option Addr} {L : List Pl} (h : Rk w base X A1 C1 A2 C2 L) (hl : L.length ≤ 1000000) {k : Nat} {p : Pl} (hp : L[k]? = some p) :
    Calls Tryd.prog 30 #[.pointer (some ⟨X, 0, none⟩), .int .i64 ((k : Int) + 1)] w fun e w' => e = .returned (.bool (over p)) ∧ w = w' := by
  have hk := (List.getElem?_eq_some_iff.1 hp).1
  have c0 := h.c0
  obtain ⟨g1, g2, rfl, rfl, l1, l2, _, _, _, q1, _, d1, _, e1, _⟩ := rk_at h hp
  have hw : IntKind.i64.wrap ((k : Int) + 1 - 1) = (k : Int) := by rw [IntWalk.i64_in _ (by omega)]; omega
  clear h hp
  go_enter Tryd.func30, Tryd.ntmps30
  go_wp2_with fail
  all_goals go_ret
  all_goals exact ⟨by simp_all [over], rfl⟩

theorem map_set1 (L : List Pl) (k : Nat) (c : Int) (r : Int) : (L.set k (c, r)).map Prod.fst = (L.map Prod.fst).set k c := by rw [List.map_set]
theorem map_set2 {L : List Pl} {k : Nat} {p : Pl} (h : L[k]? = some p) (c : Int) : (L.set k (c, p.2)).map Prod.snd = L.map Prod.snd := by
  rw [List.map_set]
  apply List.ext_getElem?
  intro j
  by_cases hj : j = k
  · subst hj
    rw [List.getElem?_set_self (by rw [List.length_map]; exact (List.getElem?_eq_some_iff.1 h).1), List.getElem?_map, h]; rfl
  · rw [List.getElem?_set_ne (fun e => hj e.symm)]

set_option maxHeartbeats 1600000 in
theorem rmove_any {w : World} {base X C1 C2 : Nat} {A1 A2 : Option Addr} {L : List Pl} (h : Rk w base X A1 C1 A2 C2 L) (hl : L.length ≤ 1000000) (id c : Int) :
    Calls Tryd.prog 19 #[.pointer (some ⟨X, 0, none⟩), .int .i64 id, .int .i64 c] w fun e w' => e = .returned (.int .i64 (errCode (mvR L id c))) ∧ Rk w' base X A1 C1 A2 C2 (mvL L id c) ∧ Touch (rkS X A1 A2) w w' := by
  have x0 := h.c0
  have H := Lib.hid h
  by_cases hid : id < 1 ∨ id > L.length
  · have hr := mv_none (c := c) hid
    rw [mvL_ill hr, hr]
    clear hr
    by_cases h1 : id < 1
    · go_enter Tryd.func19, Tryd.ntmps19
      go_wp2_with fail
      go_ret
      exact ⟨rfl, H.out, Touch.refl _ _⟩
    · have h2 : ¬ id ≤ L.length := by omega
      go_enter Tryd.func19, Tryd.ntmps19
      go_wp2_with fail
      go_ret
      exact ⟨rfl, H.out, Touch.refl _ _⟩
  · obtain ⟨k, hk, rfl, p, hp⟩ := id_at hid
    obtain ⟨g1, g2, rfl, rfl, l1, l2, ng, n1, n2, q1, q2, d1, d2, e1, _⟩ := rk_at h hp
    have e1 := e1 k
    have hw : IntKind.i64.wrap ((k : Int) + 1 - 1) = (k : Int) := by rw [IntWalk.i64_in _ (by omega)]; omega
    have HP := Lib.hid hp
    clear h
    by_cases hc : c < 1 ∨ c > 3
    · have hr := mv_range hid hc
      rw [mvL_ill hr, hr]
      clear hr hp
      by_cases hc1 : c < 1
      · go_enter Tryd.func19, Tryd.ntmps19
        go_wp2_with fail
        go_ret
        exact ⟨rfl, H.out, Touch.refl _ _⟩
      · go_enter Tryd.func19, Tryd.ntmps19
        go_wp2_with fail
        go_ret
        exact ⟨rfl, H.out, Touch.refl _ _⟩
    · have hc1 : ¬ c < 1 := by omega
      have hc2 : ¬ c > 3 := by omega
      by_cases hs : over p = true ∨ c = 1 ∨ (c = 3 ∧ p.1 = 1)
      · have hr := mv_state hp hc hs
        rw [mvL_ill hr, hr]
        clear hr hp
        rcases ho : over p
        · rw [ho] at hs
          by_cases y1 : c = 1
          · subst y1
            clear hs
            go_enter Tryd.func19, Tryd.ntmps19
            go_wp2_with fail
            refine (rover_any H.out hl HP.out).mono ?_
            rintro e w1 ⟨rfl, rfl⟩
            rw [ho]
            go_wp2_with fail
            go_ret
            exact ⟨rfl, H.out, Touch.refl _ _⟩
          · obtain ⟨y3, y4⟩ : c = 3 ∧ p.1 = 1 := by simpa [y1] using hs
            subst y3
            clear hs
            rw [y4] at d1
            go_enter Tryd.func19, Tryd.ntmps19
            go_wp2_with fail
            refine (rover_any H.out hl HP.out).mono ?_
            rintro e w1 ⟨rfl, rfl⟩
            rw [ho]
            go_wp2_with fail
            go_ret
            exact ⟨rfl, H.out, Touch.refl _ _⟩
        · clear hs
          go_enter Tryd.func19, Tryd.ntmps19
          go_wp2_with fail
          refine (rover_any H.out hl HP.out).mono ?_
          rintro e w1 ⟨rfl, rfl⟩
          rw [ho]
          go_wp2_with fail
          go_ret
          exact ⟨rfl, H.out, Touch.refl _ _⟩
      · have hr := mv_fine hp hc hs
        rw [mvL_fine hr hp, hr]
        have ho : over p = false := by
          rcases hh : over p
          · rfl
          · exact absurd (.inl hh) hs
        have y1 : ¬ c = 1 := fun x => hs (.inr (.inl x))
        have y3 : c = 3 → ¬ p.1 = 1 := fun x y => hs (.inr (.inr ⟨x, y⟩))
        have fin : Rk (w.setCell ⟨g1, k, none⟩ (.int .i64 c)) base X (some ⟨g1, 0, none⟩) C1 (some ⟨g2, 0, none⟩) C2 (L.set k (c, p.2)) := by
          refine ⟨?_, ?_, ?_, H.out.ne⟩
          · rw [List.length_set]
            exact H.out.blk.far n1 _
          · obtain ⟨g', hA, _, _, _, _, _, h6⟩ := H.out.own1.open_ (by omega)
            injection hA with hA; injection hA with hA; subst hA
            rw [List.length_set, map_set1]
            exact h6 k c
          · rw [List.length_set, map_set2 hp]
            exact H.out.own2.far ⟨g1, k, none⟩ (by intro e; exact H.out.ne g1 rfl e.symm) _
        have HF := Lib.hid fin
        clear hs hc fin hp hr
        by_cases y4 : c = 3
        · have y5 := y3 y4
          subst y4
          clear y3
          go_enter Tryd.func19, Tryd.ntmps19
          go_wp2_with fail
          refine (rover_any H.out hl HP.out).mono ?_
          rintro e w1 ⟨rfl, rfl⟩
          rw [ho]
          go_wp2_with fail
          go_ret
          exact ⟨rfl, HF.out, touch_set _ _ _ _ _ (.inr (.inl rfl))⟩
        · clear y3
          go_enter Tryd.func19, Tryd.ntmps19
          go_wp2_with fail
          refine (rover_any H.out hl HP.out).mono ?_
          rintro e w1 ⟨rfl, rfl⟩
          rw [ho]
          go_wp2_with fail
          go_ret
          exact ⟨rfl, HF.out, touch_set _ _ _ _ _ (.inr (.inl rfl))⟩

set_option maxHeartbeats 1600000 in
theorem rdrop_any {w : World} {base X C1 C2 : Nat} {A1 A2 : Option Addr} {L : List Pl} (h : Rk w base X A1 C1 A2 C2 L) (hl : L.length ≤ 1000000) (id c : Int) :
    Calls Tryd.prog 20 #[.pointer (some ⟨X, 0, none⟩), .int .i64 id, .int .i64 c] w fun e w' => e = .returned (.int .i64 (errCode (dpR L id c))) ∧ Rk w' base X A1 C1 A2 C2 (dpL L id c) ∧ Touch (rkS X A1 A2) w w' := by
  have x0 := h.c0
  have x1 := h.c1
  have H := Lib.hid h
  by_cases hid : id < 1 ∨ id > L.length
  · have hr := dp_none (c := c) hid
    rw [dpL_ill hr, hr]
    clear hr
    by_cases h1 : id < 1
    · go_enter Tryd.func20, Tryd.ntmps20
      go_wp2_with fail
      go_ret
      exact ⟨rfl, H.out, Touch.refl _ _⟩
    · have h2 : ¬ id ≤ L.length := by omega
      go_enter Tryd.func20, Tryd.ntmps20
      go_wp2_with fail
      go_ret
      exact ⟨rfl, H.out, Touch.refl _ _⟩
  · obtain ⟨k, hk, rfl, p, hp⟩ := id_at hid
    obtain ⟨g1, g2, rfl, rfl, l1, l2, ng, n1, n2, q1, q2, d1, d2, e1, e2⟩ := rk_at h hp
    have e1 := e1 k
    have e2 := e2 k
    have hw : IntKind.i64.wrap ((k : Int) + 1 - 1) = (k : Int) := by rw [IntWalk.i64_in _ (by omega)]; omega
    have HP := Lib.hid hp
    clear h
    by_cases hc : c < 1 ∨ c > 5
    · have hr := dp_range hid hc
      rw [dpL_ill hr, hr]
      clear hr hp
      by_cases hc1 : c < 1
      · go_enter Tryd.func20, Tryd.ntmps20
        go_wp2_with fail
        go_ret
        exact ⟨rfl, H.out, Touch.refl _ _⟩
      · go_enter Tryd.func20, Tryd.ntmps20
        go_wp2_with fail
        go_ret
        exact ⟨rfl, H.out, Touch.refl _ _⟩
    · have hc1 : ¬ c < 1 := by omega
      have hc2 : ¬ c > 5 := by omega
      have hr := dp_over hp hc
      rcases ho : over p
      · rw [ho] at hr
        simp only [Bool.false_eq_true, if_false] at hr
        rw [dpL_fine hr, hr]
        have fin : Rk ((w.setCell ⟨g1, k, none⟩ (.int .i64 4)).setCell ⟨g2, k, none⟩ (.int .i64 c)) base X (some ⟨g1, 0, none⟩) C1 (some ⟨g2, 0, none⟩) C2 (L.set k (4, c)) := by
          refine ⟨?_, ?_, ?_, H.out.ne⟩
          · rw [List.length_set]
            exact (H.out.blk.far (p := ⟨g1, k, none⟩) n1 _).far n2 _
          · obtain ⟨g', hA, _, _, _, _, _, h6⟩ := H.out.own1.open_ (by omega)
            injection hA with hA; injection hA with hA; subst hA
            rw [List.length_set, map_set1]
            exact (h6 k 4).far ⟨g2, k, none⟩ (by intro e; exact H.out.ne g2 e.symm rfl) _
          · have hf := H.out.own2.far ⟨g1, k, none⟩ (by intro e; exact H.out.ne g1 rfl e.symm) (.int .i64 4)
            obtain ⟨g', hA, _, _, _, _, _, h6⟩ := hf.open_ (by omega)
            injection hA with hA; injection hA with hA; subst hA
            rw [List.length_set, List.map_set]
            exact h6 k c
        have HF := Lib.hid fin
        clear hc fin hp hr
        go_enter Tryd.func20, Tryd.ntmps20
        go_wp2_with fail
        refine (rover_any H.out hl HP.out).mono ?_
        rintro e w1 ⟨rfl, rfl⟩
        rw [ho]
        go_wp2_with fail
        go_ret
        exact ⟨rfl, HF.out, (touch_set (rkS X (some ⟨g1, 0, none⟩) (some ⟨g2, 0, none⟩)) _ _ _ _ (.inr (.inl rfl))).trans (touch_set (rkS X (some ⟨g1, 0, none⟩) (some ⟨g2, 0, none⟩)) _ _ _ _ (.inr (.inr rfl))) (fun _ _ x => x)⟩
      · rw [ho] at hr
        simp only [if_true] at hr
        rw [dpL_ill hr, hr]
        clear hp hr
        go_enter Tryd.func20, Tryd.ntmps20
        go_wp2_with fail
        refine (rover_any H.out hl HP.out).mono ?_
        rintro e w1 ⟨rfl, rfl⟩
        rw [ho]
        go_wp2_with fail
        go_ret
        exact ⟨rfl, H.out, Touch.refl _ _⟩

theorem cnt_take (xs : List Int) (n : Int) {k : Nat} {z : Int} (h : xs[k]? = some z) : (xs.take (k + 1)).countP (· == n) = (xs.take k).countP (· == n) + (if z = n then 1 else 0) := by
  obtain ⟨hk, rfl⟩ := List.getElem?_eq_some_iff.1 h
  rw [List.take_succ_eq_append_getElem hk, List.countP_append, List.countP_cons, List.countP_nil]
  simp
theorem cnt_le (xs : List Int) (n : Int) (k : Nat) : (xs.take k).countP (· == n) ≤ k := Nat.le_trans List.countP_le_length (by simp; omega)

set_option maxHeartbeats 1600000 in
theorem many_any (a : Option Addr) (len cap : Nat) (xs : List Int) (n : Int) (w : World) (h : Row w 1 a len cap (xs.map (Value.int .i64))) :
    Calls Tryd.prog 21 #[.slice a len cap, .int .i64 n] w fun e w' => e = .returned (.int .i64 (xs.countP (· == n))) ∧ w = w' := by
  have hm := h.len_le
  have HL := Lib.hid (show xs.length = len by simpa using h.1)
  have H := Lib.hid h
  clear h
  go_enter Tryd.func21, Tryd.ntmps21
  go_wp2_with fail
  go_loopw [5, 6] (fun c i wr => ∃ k : Nat, k ≤ len ∧ i = .int .i64 k ∧ c = .int .i64 ((xs.take k).countP (· == n)) ∧ wr = w) (fun _ i _ => len - (intOf i).toNat)
  case atStart => exact ⟨0, Nat.zero_le _, rfl, by simp, rfl⟩
  case round =>
    obtain ⟨k, hk, rfl, rfl, rfl⟩ := hrel
    by_cases hlt : k < len
    · obtain ⟨b, off, rfl, hb, hc⟩ := H.out.at_ (by omega)
      obtain ⟨z, hz⟩ : ∃ z, xs[k]? = some z := ⟨_, List.getElem?_eq_getElem (by rw [HL.out]; exact hlt)⟩
      have hcz : wr.cell? ⟨b, off + k, none⟩ = some (.int .i64 z) := hc k _ (by rw [List.getElem?_map, hz]; rfl)
      have hct := cnt_take xs n hz
      have hcl := cnt_le xs n k
      have HT := Lib.hid hct
      clear hc hz hct
      generalize (xs.take k).countP (· == n) = N at *
      have hNl : N < 9223372036854775807 := by omega
      by_cases hzn : z = n
      · have HT2 := Lib.hid (show (xs.take (k + 1)).countP (· == n) = N + 1 by rw [HT.out, if_pos hzn])
        go_wp2_with fail
        go_roundw
        case rel => exact ⟨k + 1, by omega, by go_num, by rw [HT2.out]; go_num, by trivial⟩
        case measure => simp [intOf]; omega
      · have HT2 := Lib.hid (show (xs.take (k + 1)).countP (· == n) = N by rw [HT.out, if_neg hzn]; rfl)
        go_wp2_with fail
        go_roundw
        case rel => exact ⟨k + 1, by omega, by go_num, by rw [HT2.out], by trivial⟩
        case measure => simp [intOf]; omega
    · have hke : k = len := by omega
      have HF := Lib.hid (show xs.take k = xs by rw [List.take_of_length_le]; rw [HL.out]; omega)
      clear hke
      go_wp2_with fail
      go_ret
      exact ⟨ret_i64 (by rw [HF.out]), by trivial⟩
end Go.Proofs.YthppbicfemgoaaaDoor
