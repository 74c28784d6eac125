/-
  CountPlays: the walk.
-/
import Derived.Test.YthppbicfemgoaaaDoorCountFirst
import Derived.Test.YthppbicfemgoaaaDoorRefBook
import Derived.Test.YthppbicfemgoaaaDoorDo23
import Derived.BigQuiet
import Derived.Deep.CutBlock
import Derived.Deep.CutRange
namespace Go.Proofs.YthppbicfemgoaaaDoor
open Go.ChangeShapes Go.WideShapes Go.ChangeAt Go.RowKit
open Count
set_option linter.unusedVariables false

/-- what stays true of a book -/
def Inv (L : List Pl) : Prop := ∀ p ∈ L, good p ∧ (p.1 ≠ 4 → p.2 = 0)
theorem inv_nil : Inv [] := fun p hp => by cases hp
theorem Inv.good {L : List Pl} (h : Inv L) : ∀ p ∈ L, Count.good p := fun p hp => (h p hp).1
theorem inv_accept {L : List Pl} (h : Inv L) : Inv (L ++ [(1, 0)]) := by
  intro p hp
  rcases List.mem_append.1 hp with hp | hp
  · exact h p hp
  · simp at hp; subst hp; simp [Count.good]
theorem inv_set {L : List Pl} (h : Inv L) (k : Nat) (q : Pl) (hq : Count.good q ∧ (q.1 ≠ 4 → q.2 = 0)) : Inv (L.set k q) := by
  intro p hp
  rcases List.mem_or_eq_of_mem_set hp with hp | rfl
  · exact h p hp
  · exact hq
theorem inv_move {L : List Pl} (h : Inv L) (id c : Int) : Inv (mvL L id c) := by
  by_cases hid : id < 1 ∨ id > L.length
  · rw [mvL_ill (mv_none hid)]; exact h
  · obtain ⟨k, hk, rfl, p, hp⟩ := id_at hid
    by_cases hc : c < 1 ∨ c > 3
    · rw [mvL_ill (mv_range hid hc)]; exact h
    · by_cases hs : over p = true ∨ c = 1 ∨ (c = 3 ∧ p.1 = 1)
      · rw [mvL_ill (mv_state hp hc hs)]; exact h
      · rw [mvL_fine (mv_fine hp hc hs) hp]
        refine inv_set h k _ ?_
        have h4 : p.1 ≠ 4 := fun e => hs (.inl (by simp [over, e]))
        have h0 := (h p (List.mem_of_getElem? hp)).2 h4
        refine ⟨⟨?_, ?_, ?_⟩, fun _ => h0⟩
        · show 1 ≤ c; omega
        · show c ≤ 4; omega
        · intro e; exfalso; have : c = 4 := e; omega
theorem inv_drop {L : List Pl} (h : Inv L) (id r : Int) : Inv (dpL L id r) := by
  by_cases hid : id < 1 ∨ id > L.length
  · rw [dpL_ill (dp_none hid)]; exact h
  · obtain ⟨k, hk, rfl, p, hp⟩ := id_at hid
    by_cases hc : r < 1 ∨ r > 5
    · rw [dpL_ill (dp_range hid hc)]; exact h
    · have hr := dp_over hp hc
      rcases ho : over p
      · rw [ho] at hr
        simp only [Bool.false_eq_true, if_false] at hr
        rw [dpL_fine hr]
        refine inv_set h k _ ⟨⟨by show (1 : Int) ≤ 4; omega, by show (4 : Int) ≤ 4; omega, fun _ => ⟨?_, ?_⟩⟩, fun e => absurd rfl e⟩
        · show 1 ≤ r; omega
        · show r ≤ 5; omega
      · rw [ho] at hr
        simp only [if_true] at hr
        rw [dpL_ill hr]; exact h
theorem mv_all (L : List Pl) (id c : Int) : ∀ i, mvR L id c = some i → i ∈ allErr := by
  intro i h
  simp only [mvR] at h
  split at h
  · injection h with h; subst h; decide
  · split at h
    · injection h with h; subst h; decide
    · split at h
      · injection h with h; subst h; decide
      · split at h
        · injection h with h; subst h; decide
        · cases h
theorem dp_all (L : List Pl) (id c : Int) : ∀ i, dpR L id c = some i → i ∈ allErr := by
  intro i h
  simp only [dpR] at h
  split at h
  · injection h with h; subst h; decide
  · split at h
    · injection h with h; subst h; decide
    · split at h
      · injection h with h; subst h; decide
      · split at h
        · injection h with h; subst h; decide
        · cases h
theorem mvL_len (L : List Pl) (id c : Int) : (mvL L id c).length = L.length := by
  simp only [mvL]; split
  · split <;> simp
  · rfl
theorem dpL_len (L : List Pl) (id c : Int) : (dpL L id c).length = L.length := by
  simp only [dpL]; split <;> simp
theorem cnt_class (L : List Pl) (c : Int) : (L.map Prod.fst).countP (· == c) = nC c L := by rw [List.countP_map]; rfl
theorem cnt_reason {L : List Pl} (h : Inv L) (r : Int) (hr : 1 ≤ r) : (L.map Prod.snd).countP (· == r) = nR r L := by
  rw [List.countP_map]
  apply List.countP_congr
  intro p hp
  have h0 := (h p hp).2
  by_cases h4 : p.1 = 4
  · simp [isR, h4]
  · have := h0 h4
    simp [isR, h4, this]; omega
theorem nC_out {L : List Pl} (h : Inv L) (c : Int) (hc : c < 1 ∨ 4 < c) : nC c L = 0 := by
  apply List.countP_eq_zero.2
  intro p hp
  have := (h p hp).1
  obtain ⟨h1, h2, _⟩ := this
  simp [isC]; omega
theorem nR_out {L : List Pl} (h : Inv L) (r : Int) (hr : r < 1 ∨ 5 < r) : nR r L = 0 := by
  apply List.countP_eq_zero.2
  intro p hp
  have := (h p hp).1.2.2
  simp [isR]; intro e; have := this e; omega

theorem blk_ne {w : World} {n m : Nat} {cs cs' : Array Value} {t t' : TypeId} (h : Blk w n cs t) (h' : Blk w m cs' t') (ht : t ≠ t') : n ≠ m := by
  rintro rfl
  unfold Blk at h h'
  rw [h] at h'
  injection h' with h'
  injection h' with _ h2
  exact ht h2
section
variable {w w' : World} {base B X C C1 C2 : Nat} {A A1 A2 : Option Addr} {L L0 : List Pl}
theorem cross_rk (hb : Bk w base B A C L) (hr : Rk w base X A1 C1 A2 C2 L0) (ht : Touch (bkS B A) w w') : Rk w' base X A1 C1 A2 C2 L0 := by
  have hne := blk_ne hb.blk hr.blk (by decide)
  refine hr.touch ht ?_ ?_ ?_
  · rintro (x | x)
    · exact hne x.symm
    · exact own_ne hb.own hr.blk (by decide) x.symm
  · rintro k hk (x | x)
    · exact own_ne hr.own1 hb.blk (by decide) (by rw [hk, x])
    · rcases own_ne_own hb.own hr.own1 (by decide) with e | e
      · rw [e] at x; cases x
      · exact e (x.trans hk.symm)
  · rintro k hk (x | x)
    · exact own_ne hr.own2 hb.blk (by decide) (by rw [hk, x])
    · rcases own_ne_own hb.own hr.own2 (by decide) with e | e
      · rw [e] at x; cases x
      · exact e (x.trans hk.symm)
theorem cross_bk (hb : Bk w base B A C L) (hr : Rk w base X A1 C1 A2 C2 L0) (ht : Touch (rkS X A1 A2) w w') : Bk w' base B A C L := by
  have hne := blk_ne hb.blk hr.blk (by decide)
  refine hb.touch ht ?_ ?_
  · rintro (x | x | x)
    · exact hne x
    · exact own_ne hr.own1 hb.blk (by decide) x.symm
    · exact own_ne hr.own2 hb.blk (by decide) x.symm
  · rintro k hk (x | x | x)
    · exact own_ne hb.own hr.blk (by decide) (by rw [hk, x])
    · rcases own_ne_own hb.own hr.own1 (by decide) with e | e
      · rw [e] at hk; cases hk
      · exact e (hk.trans x.symm)
    · rcases own_ne_own hb.own hr.own2 (by decide) with e | e
      · rw [e] at hk; cases hk
      · exact e (hk.trans x.symm)
theorem blk_b {n : Nat} {cs : Array Value} {t : TypeId} (hb : Bk w base B A C L) (hk : Blk w n cs t) (hn : n ≠ B) (ht : t ≠ 51) (htt : Touch (bkS B A) w w') : Blk w' n cs t :=
  hk.touch htt (by rintro (x | x); exact hn x; exact own_ne hb.own hk ht x.symm)
theorem blk_r {n : Nat} {cs : Array Value} {t : TypeId} (hr : Rk w base X A1 C1 A2 C2 L) (hk : Blk w n cs t) (hn : n ≠ X) (ht : t ≠ 3) (htt : Touch (rkS X A1 A2) w w') : Blk w' n cs t :=
  hk.touch htt (by rintro (x | x | x); exact hn x; exact own_ne hr.own1 hk ht x.symm; exact own_ne hr.own2 hk ht x.symm)
theorem lenC_any {n Cc : Nat} {Ac : Option Addr} {Bc : Nat} (hc : w.cell? ⟨Bc, 0, none⟩ = some (.slice Ac n Cc)) :
    Calls Tryd.prog 13 #[.pointer (some ⟨Bc, 0, none⟩)] w fun e w' => e = .returned (.int .i64 n) ∧ w = w' := by
  go_enter Tryd.func13, Tryd.ntmps13
  go_wp2_with fail
  go_ret
  exact ⟨rfl, rfl⟩
end

/-- what a round keeps -/
structure PI (w0 w : World) (B X : Nat) (A : Option Addr) (C : Nat) (A1 : Option Addr) (C1 : Nat) (A2 : Option Addr) (C2 : Nat) (L : List Pl) : Prop where
  bk : Bk w w0.heap.size B A C L
  rk : Rk w w0.heap.size X A1 C1 A2 C2 L
  bel : Below w0.heap.size w0 w
  lo : w0.heap.size ≤ B ∧ w0.heap.size ≤ X
  inv : Inv L
  len : L.length ≤ 150
theorem PI.drewN {w0 w : World} {B X C C1 C2 : Nat} {A A1 A2 : Option Addr} {L : List Pl} (h : PI w0 w B X A C A1 C1 A2 C2 L) (n : Nat) : PI w0 (w.drewN n) B X A C A1 C1 A2 C2 L := ⟨bk_drew h.bk n, h.rk.drewN n, h.bel.trans (below_drewN n), h.lo, h.inv, h.len⟩
theorem bk_drew1' {w : World} {base B C : Nat} {A : Option Addr} {L : List Pl} (h : Bk w base B A C L) : Bk w.drew base B A C L := ⟨h.blk, h.own⟩

set_option maxHeartbeats 1000000 in
set_option maxRecDepth 100000 in
theorem countPlays_walk (w : World) {E : Nat → Addr} (hE : Errs allErr w E) (a : Option Addr) (len cap : Nat) (F : Nat → DoR) (hd : Dos w a len F) :
    Calls Tryd.prog 5 #[.slice a len cap] w fun e w' => e = .returned (.bool true) ∧ Below w.heap.size w w' := by
  have HE := Lib.hid hE
  have HDo := Lib.hid hd
  clear hE hd
  go_enter Tryd.func5, Tryd.ntmps5
  go_wp2_with fail
  refine (first_any _).mono ?_
  rintro e w0 ⟨rfl, b0⟩
  by_cases hlen : len > 150
  · go_wp2_with fail
    go_ret
    exact ⟨rfl, b0⟩
  go_wp2_with fail
  have z0 := b0.size
  have S1 : PI w ((w0.alloc (.cells #[.slice none 0 0] 26)).alloc (.cells #[.slice none 0 0, .slice none 0 0] 44)) w0.heap.size (w0.heap.size + 1) none 0 none 0 none 0 [] := by
    refine ⟨⟨(Blk.new _ _ _).alloc _, World.ownsRow_nil _ _ _ _⟩, ⟨?_, ownI_nil _ _, ownI_nil _ _, fun k hk => by cases hk⟩, (b0.alloc z0 _).alloc (by simp; omega) _, ⟨z0, by omega⟩, inv_nil, by simp⟩
    have := Blk.new (w0.alloc (.cells #[.slice none 0 0] 26)) #[.slice none 0 0, .slice none 0 0] 44
    simpa using this
  have HS1 := Lib.hid S1
  clear S1
  go_loopw [6] (fun i wr => ∃ k : Nat, k ≤ len ∧ i = .int .i64 k ∧ ∃ A C A1 C1 A2 C2 L, PI w wr w0.heap.size (w0.heap.size + 1) A C A1 C1 A2 C2 L ∧ L.length ≤ k) (fun i _ => len - (intOf i).toNat)
  case atStart => exact ⟨0, Nat.zero_le _, rfl, none, 0, none, 0, none, 0, [], HS1.out, by simp⟩
  case round =>
    obtain ⟨k, hk, rfl, A, C, A1, C1, A2, C2, L, hS, hLk⟩ := hrel
    have HS := Lib.hid hS
    clear hS HS1 b0
    by_cases hlt : k < len
    · obtain ⟨b1, off1, rfl, hb1, hc1, hok⟩ := HDo.out k hlt
      obtain ⟨x, hx⟩ : ∃ x, F k = x := ⟨_, rfl⟩
      rw [hx] at hc1 hok
      clear hx
      have SZ := HS.out.bel.size
      have sB := HS.out.lo.1
      have sX := HS.out.lo.2
      have hLl := HS.out.len
      have g0 : wr.cell? ⟨b1, off1 + k * 3, none⟩ = some (.int .i64 (x 0)) := (HS.out.bel.cell (p := ⟨b1, off1 + k * 3, none⟩) hb1).trans (hc1 0 _ rfl)
      have g1 : wr.cell? ⟨b1, off1 + k * 3 + 1, none⟩ = some (.int .i64 (x 1)) := (HS.out.bel.cell (p := ⟨b1, off1 + k * 3 + 1, none⟩) hb1).trans (hc1 1 _ rfl)
      have g2 : wr.cell? ⟨b1, off1 + k * 3 + 2, none⟩ = some (.int .i64 (x 2)) := (HS.out.bel.cell (p := ⟨b1, off1 + k * 3 + 2, none⟩) hb1).trans (hc1 2 _ rfl)
      clear hc1
      have HB1 := Lib.hid (HS.out.bk.alloc (.cells (docells x) 46))
      have D1 := Lib.hid (Blk.new wr (docells x) 46)
      have R1 := Lib.hid (HS.out.rk.below (w' := wr.alloc (.cells (docells x) 46)) ((Below.refl _ _).alloc (Nat.le_refl _) _) (Nat.le_refl _))
      have bel1 := Lib.hid (HS.out.bel.alloc SZ (.cells (docells x) 46))
      have nB := HS.out.bk.blk.lt
      have nX := HS.out.rk.blk.lt
      go_wp2_with fail
      refine (cloneB_any HB1.out (by omega)).mono ?_
      rintro e w2 ⟨Bc, Ac, Cc, rfl, hcl2, hBc, hx2⟩
      have z1 : wr.heap.size + 1 ≤ Bc := by simpa using hBc
      have HB2 := Lib.hid (HB1.out.below hx2 (Nat.le_refl _))
      have HR2 := Lib.hid (R1.out.below hx2 (Nat.le_refl _))
      have HD2 := Lib.hid (D1.out.below hx2 (by simp))
      have HC2 := Lib.hid hcl2.blk
      have bel2 := Lib.hid (bel1.out.trans (hx2.mono bel1.out.size))
      have E2 := Lib.hid (HE.out.below bel2.out (Nat.le_refl _))
      have cc2 : w2.cell? ⟨Bc, 0, none⟩ = some (.slice Ac L.length Cc) := hcl2.blk.cell 0
      have d20 : w2.cell? ⟨wr.heap.size, 0, none⟩ = some (.int .i64 (x 0)) := HD2.out.cell 0
      clear hx2 hcl2 hBc HB1 R1 D1 bel1 g0 g1 g2
      go_wp2_with fail
      refine (lenC_any cc2).mono ?_
      rintro e w3 ⟨rfl, rfl⟩
      clear cc2
      have nDB : wr.heap.size ≠ w0.heap.size := by omega
      have nDX : wr.heap.size ≠ w0.heap.size + 1 := by omega
      have nCB : Bc ≠ w0.heap.size := by omega
      have nCX : Bc ≠ w0.heap.size + 1 := by omega
      go_upto_block 2 with fail
      go_cut [9] from 28 to 192 (fun v wx => v = .int .i64 (L.length : Int) ∧ ∃ A C A1 C1 A2 C2 L2, PI w wx w0.heap.size (w0.heap.size + 1) A C A1 C1 A2 C2 L2 ∧ L2.length ≤ k + 1 ∧ Blk wx Bc #[.slice Ac L.length Cc] 26 ∧ Blk wx wr.heap.size (docells x) 46)
      case first =>
        by_cases hk1 : x 0 = 1
        · go_wp2_with fail
          refine (accept_any HB2.out (by omega) bel2.out.size).mono ?_
          rintro e w3 ⟨rfl, A3, C3, h3, t3, _⟩
          have hr3 := cross_rk HB2.out HR2.out t3
          have hd3 := blk_b HB2.out HD2.out nDB (by decide) t3
          have hc3 := blk_b HB2.out HC2.out nCB (by decide) t3
          have b3 := bel2.out.trans (Bk.belowT HB2.out sB t3)
          have HB3 := Lib.hid h3
          have HR3 := Lib.hid hr3
          have HD3 := Lib.hid hd3
          have HC3 := Lib.hid hc3
          have bel3 := Lib.hid b3
          clear h3 t3 hr3 hd3 hc3 b3 HB2 HR2 HD2 HC2
          go_wp2_with fail
          refine (raccept_any HR3.out (by omega) bel3.out.size).mono ?_
          rintro e w4 ⟨rfl, A4, C4, A5, C5, h4, t4⟩
          have hb4 := cross_bk HB3.out HR3.out t4
          have HD := Lib.hid (blk_r HR3.out HD3.out nDX (by decide) t4)
          have HC := Lib.hid (blk_r HR3.out HC3.out nCX (by decide) t4)
          have HP : Hid (PI w w4 w0.heap.size (w0.heap.size + 1) A3 C3 A4 C4 A5 C5 (L ++ [(1, 0)])) := Lib.hid ⟨hb4, h4, bel3.out.trans (HR3.out.belowT sX t4), ⟨sB, sX⟩, inv_accept HS.out.inv, by rw [List.length_append]; simp; omega⟩
          clear h4 t4 hb4 HB3 HR3 HD3 HC3 bel2 bel3 E2
          go_wp2_with fail
          go_meet
          case rel => exact ⟨rfl, A3, C3, A4, C4, A5, C5, L ++ [(1, 0)], HP.out, by simp only [List.length_append, List.length_singleton]; omega, HC.out, HD.out⟩
        by_cases hk2 : x 0 = 2
        · have d1 : w2.cell? ⟨wr.heap.size, 1, none⟩ = some (.int .i64 (x 1)) := HD2.out.cell 1
          have d2 : w2.cell? ⟨wr.heap.size, 2, none⟩ = some (.int .i64 (x 2)) := HD2.out.cell 2
          have hl2 : (mvL L (x 1) (x 2)).length = L.length := mvL_len L (x 1) (x 2)
          go_wp2_with fail
          go_region_held3 (fun y => y.cell? ⟨wr.heap.size, 1, none⟩ = some (.int .i64 (x 1)) ∧ y.cell? ⟨wr.heap.size, 2, none⟩ = some (.int .i64 (x 2)))
            (first | exact ⟨d1, d2⟩ | exact ⟨hd3.cell 1, hd3.cell 2⟩ | exact ⟨hd4.cell 1, hd4.cell 2⟩ | exact ⟨(hx5.cell (p := ⟨wr.heap.size, 1, none⟩) hd4.lt).trans (hd4.cell 1), (hx5.cell (p := ⟨wr.heap.size, 2, none⟩) hd4.lt).trans (hd4.cell 2)⟩)
            (first
              | (go_at_call 9; refine (move_any (w := w2.drew) (bk_drew1' HB2.out) (E2.out.drew.sub (by decide)) (x 1) (x 2)).mono ?_; rintro e w3 ⟨rfl, h3, t3⟩; have hr3 := cross_rk (w := w2.drew) (bk_drew1' HB2.out) (HR2.out.drewN 1) t3; have hd3 := blk_b (w := w2.drew) (bk_drew1' HB2.out) HD2.out nDB (by decide) t3; have hc3 := blk_b (w := w2.drew) (bk_drew1' HB2.out) HC2.out nCB (by decide) t3; have b3 := (Below.drew bel2.out).trans (Bk.belowT (bk_drew1' HB2.out) sB t3))
              | (go_at_call 19; refine (rmove_any hr3 (by omega) (x 1) (x 2)).mono ?_; rintro e w4 ⟨rfl, h4, t4⟩; have hb4 := cross_bk h3 hr3 t4; have hd4 := blk_r hr3 hd3 nDX (by decide) t4; have hc4 := blk_r hr3 hc3 nCX (by decide) t4; have b4 := b3.trans (hr3.belowT sX t4))
              | (go_at_call 15; refine (is_any (HE.out.below b4 (Nat.le_refl _)) (mvR L (x 1) (x 2)) (mv_all L (x 1) (x 2)) _).mono ?_; rintro e w5 ⟨rfl, hx5⟩; simp only [beq_self_eq_true]))
          have HD := Lib.hid (hd4.below hx5 hd4.lt)
          have HC := Lib.hid (hc4.below hx5 hc4.lt)
          have HP : Hid (PI w w5 w0.heap.size (w0.heap.size + 1) A C A1 C1 A2 C2 (mvL L (x 1) (x 2))) := Lib.hid ⟨hb4.below hx5 (Nat.le_refl _), h4.below hx5 (Nat.le_refl _), b4.trans (hx5.mono b4.size), ⟨sB, sX⟩, inv_move HS.out.inv (x 1) (x 2), by rw [hl2]; omega⟩
          clear h3 t3 hr3 hd3 hc3 b3 hb4 hd4 hc4 b4 h4 t4 hx5 HB2 HR2 HD2 HC2 bel2 E2 d1 d2
          go_wp2_with fail
          go_meet
          case rel => exact ⟨rfl, A, C, A1, C1, A2, C2, mvL L (x 1) (x 2), HP.out, by rw [hl2]; omega, HC.out, HD.out⟩
        have d1 : w2.cell? ⟨wr.heap.size, 1, none⟩ = some (.int .i64 (x 1)) := HD2.out.cell 1
        have d2 : w2.cell? ⟨wr.heap.size, 2, none⟩ = some (.int .i64 (x 2)) := HD2.out.cell 2
        have hl2 : (dpL L (x 1) (x 2)).length = L.length := dpL_len L (x 1) (x 2)
        go_wp2_with fail
        go_region_held3 (fun y => y.cell? ⟨wr.heap.size, 1, none⟩ = some (.int .i64 (x 1)) ∧ y.cell? ⟨wr.heap.size, 2, none⟩ = some (.int .i64 (x 2)))
          (first | exact ⟨d1, d2⟩ | exact ⟨hd3.cell 1, hd3.cell 2⟩ | exact ⟨hd4.cell 1, hd4.cell 2⟩ | exact ⟨(hx5.cell (p := ⟨wr.heap.size, 1, none⟩) hd4.lt).trans (hd4.cell 1), (hx5.cell (p := ⟨wr.heap.size, 2, none⟩) hd4.lt).trans (hd4.cell 2)⟩)
          (first
            | (go_at_call 10; refine (drop_any (w := w2.drew) (bk_drew1' HB2.out) (E2.out.drew.sub (by decide)) (x 1) (x 2)).mono ?_; rintro e w3 ⟨rfl, h3, t3⟩; have hr3 := cross_rk (w := w2.drew) (bk_drew1' HB2.out) (HR2.out.drewN 1) t3; have hd3 := blk_b (w := w2.drew) (bk_drew1' HB2.out) HD2.out nDB (by decide) t3; have hc3 := blk_b (w := w2.drew) (bk_drew1' HB2.out) HC2.out nCB (by decide) t3; have b3 := (Below.drew bel2.out).trans (Bk.belowT (bk_drew1' HB2.out) sB t3))
            | (go_at_call 20; refine (rdrop_any hr3 (by omega) (x 1) (x 2)).mono ?_; rintro e w4 ⟨rfl, h4, t4⟩; have hb4 := cross_bk h3 hr3 t4; have hd4 := blk_r hr3 hd3 nDX (by decide) t4; have hc4 := blk_r hr3 hc3 nCX (by decide) t4; have b4 := b3.trans (hr3.belowT sX t4))
            | (go_at_call 15; refine (is_any (HE.out.below b4 (Nat.le_refl _)) (dpR L (x 1) (x 2)) (dp_all L (x 1) (x 2)) _).mono ?_; rintro e w5 ⟨rfl, hx5⟩; simp only [beq_self_eq_true]))
        have HD := Lib.hid (hd4.below hx5 hd4.lt)
        have HC := Lib.hid (hc4.below hx5 hc4.lt)
        have HP : Hid (PI w w5 w0.heap.size (w0.heap.size + 1) A C A1 C1 A2 C2 (dpL L (x 1) (x 2))) := Lib.hid ⟨hb4.below hx5 (Nat.le_refl _), h4.below hx5 (Nat.le_refl _), b4.trans (hx5.mono b4.size), ⟨sB, sX⟩, inv_drop HS.out.inv (x 1) (x 2), by rw [hl2]; omega⟩
        clear h3 t3 hr3 hd3 hc3 b3 hb4 hd4 hc4 b4 h4 t4 hx5 HB2 HR2 HD2 HC2 bel2 E2 d1 d2
        go_wp2_with fail
        go_meet
        case rel => exact ⟨rfl, A, C, A1, C1, A2, C2, dpL L (x 1) (x 2), HP.out, by rw [hl2]; omega, HC.out, HD.out⟩
      case rest =>
        obtain ⟨rfl, A, C, A1, C1, A2, C2, L2, hP, hLn2, hC, hD⟩ := hcut
        have HP := Lib.hid hP
        have HC := Lib.hid hC
        have HD := Lib.hid hD
        clear hP hC hD HS HB2 HR2 HD2 HC2 bel2 E2 d20
      
        obtain ⟨nD, hnD⟩ : ∃ nD, wr.heap.size = nD := ⟨_, rfl⟩
        rw [hnD] at HD ⊢
        have ZW := HP.out.bel.size
        have hLn := HP.out.len
        have ltX := HP.out.rk.blk.lt
        have ltC := HC.out.lt
        have ltD := HD.out.lt
        have xc : wc.cell? ⟨w0.heap.size + 1, 0, none⟩ = some (.slice A1 (List.length L2) C1) := HP.out.rk.c0
        have cc : wc.cell? ⟨Bc, 0, none⟩ = some (.slice Ac L.length Cc) := HC.out.cell 0
        go_wp2_with fail
        go_region_held3 (fun y => y.cell? ⟨w0.heap.size + 1, 0, none⟩ = some (.slice A1 (List.length L2) C1)) (first | exact xc | exact (hxa.cell (p := ⟨w0.heap.size + 1, 0, none⟩) ltX).trans xc) (first
          | (go_at_call 13; refine (len_any (w := wc.drew) (B := w0.heap.size) (bk_drew1' HP.out.bk)).mono ?_; rintro e wa ⟨rfl, rfl⟩)
          | (go_at_call 14; refine (ok_any (w := wc.drew) (bk_drew1' HP.out.bk) HP.out.inv.good (by omega)).mono ?_; rintro e wa ⟨rfl, hxa⟩)
          | (go_at_call 13; refine (lenC_any (w := wa) (Bc := Bc) ((hxa.cell (p := ⟨Bc, 0, none⟩) ltC).trans cc)).mono ?_; rintro e wb ⟨rfl, rfl⟩))
        have Q0 := Lib.hid (show Below wc.heap.size wc wa from (Below.drew (Below.refl wc.heap.size wc)).trans hxa)
        clear hxa xc cc HC
        have BW := Lib.hid (HP.out.bk.below Q0.out (Nat.le_refl _))
        have RW := Lib.hid (HP.out.rk.below Q0.out (Nat.le_refl _))
        have DW := Lib.hid (HD.out.below Q0.out ltD)
        have belW := Lib.hid (HP.out.bel.trans (Q0.out.mono ZW))
        have ZA := belW.out.size
        have INV := Lib.hid HP.out.inv
        clear Q0 HD ltC ltD ltX HP ZW
        go_wp2_with fail
        go_loopw [10] (fun q wq => ∃ m : Nat, m ≤ 7 ∧ q = .int .i64 m ∧ Hid (Below wa.heap.size wa wq)) (fun q _ => 7 - (intOf q).toNat)
        case atStart => exact ⟨0, by omega, rfl, Lib.hid (Below.refl _ _)⟩
        case round =>
          obtain ⟨m, hm, rfl, Q⟩ := hrel
          have x0 := (RW.out.below Q.out (Nat.le_refl _)).c0
          have x1 := (RW.out.below Q.out (Nat.le_refl _)).c1
          by_cases m1 : 1 ≤ m ∧ m ≤ 4
          · have m2 : 1 ≤ m := m1.1
            have m3 : m ≤ 4 := m1.2
            clear m1
            go_wp2_with fail
            refine (many_any _ _ _ _ (m : Int) _ (RW.out.below Q.out (Nat.le_refl _)).own1.row).mono ?_
            rintro e w3 ⟨rfl, rfl⟩
            rw [cnt_class]
            go_wp2_with fail
            refine (many_any _ _ _ _ (m : Int) _ (RW.out.below Q.out (Nat.le_refl _)).own2.row).mono ?_
            rintro e w3 ⟨rfl, rfl⟩
            rw [cnt_reason INV.out _ (by omega)]
            clear x0 x1
            go_wp2_with fail
            refine (class_any (BW.out.below Q.out (Nat.le_refl _)) (m : Int)).mono ?_
            rintro e w201 ⟨rfl, hy1⟩
            have Q1 := Lib.hid (Q.out.trans (hy1.mono Q.out.size)); clear hy1
            go_wp2_with fail
            refine (reason_any (BW.out.below Q1.out (Nat.le_refl _)) (m : Int)).mono ?_
            rintro e w202 ⟨rfl, hy2⟩
            have Q2 := Lib.hid (Q1.out.trans (hy2.mono Q1.out.size)); clear hy2
            go_wp2_with fail
            go_roundw
            case rel => exact ⟨m + 1, by omega, by go_num, Q2⟩
            case measure => simp [intOf]; omega
          by_cases m5 : m = 5
          · subst m5
            go_wp2_with fail
            refine (many_any _ _ _ _ 5 _ (RW.out.below Q.out (Nat.le_refl _)).own2.row).mono ?_
            rintro e w3 ⟨rfl, rfl⟩
            rw [cnt_reason INV.out _ (by decide)]
            clear x0 x1
            go_wp2_with fail
            refine (class_any (BW.out.below Q.out (Nat.le_refl _)) 5).mono ?_
            rintro e w201 ⟨rfl, hy1⟩
            rw [nC_out INV.out 5 (by decide)]
            have Q1 := Lib.hid (Q.out.trans (hy1.mono Q.out.size)); clear hy1
            go_wp2_with fail
            refine (reason_any (BW.out.below Q1.out (Nat.le_refl _)) 5).mono ?_
            rintro e w202 ⟨rfl, hy2⟩
            have Q2 := Lib.hid (Q1.out.trans (hy2.mono Q1.out.size)); clear hy2
            go_wp2_with fail
            go_roundw
            case rel => exact ⟨6, by omega, rfl, Q2⟩
            case measure => simp [intOf]
          by_cases m6 : m = 0 ∨ m = 6
          · rcases m6 with rfl | rfl
            · as_aux_lemma =>
                go_wp2_with fail
                refine (class_any (BW.out.below Q.out (Nat.le_refl _)) 0).mono ?_
                rintro e w201 ⟨rfl, hy1⟩
                rw [nC_out INV.out 0 (by decide)]
                have Q1 := Lib.hid (Q.out.trans (hy1.mono Q.out.size)); clear hy1
                go_wp2_with fail
                refine (reason_any (BW.out.below Q1.out (Nat.le_refl _)) 0).mono ?_
                rintro e w202 ⟨rfl, hy2⟩
                rw [nR_out INV.out 0 (by decide)]
                have Q2 := Lib.hid (Q1.out.trans (hy2.mono Q1.out.size)); clear hy2
                go_wp2_with fail
                go_roundw
                case rel => exact ⟨0 + 1, by omega, by go_num, Q2⟩
                case measure => simp [intOf]
            · as_aux_lemma =>
                go_wp2_with fail
                refine (class_any (BW.out.below Q.out (Nat.le_refl _)) 6).mono ?_
                rintro e w201 ⟨rfl, hy1⟩
                rw [nC_out INV.out 6 (by decide)]
                have Q1 := Lib.hid (Q.out.trans (hy1.mono Q.out.size)); clear hy1
                go_wp2_with fail
                refine (reason_any (BW.out.below Q1.out (Nat.le_refl _)) 6).mono ?_
                rintro e w202 ⟨rfl, hy2⟩
                rw [nR_out INV.out 6 (by decide)]
                have Q2 := Lib.hid (Q1.out.trans (hy2.mono Q1.out.size)); clear hy2
                go_wp2_with fail
                go_roundw
                case rel => exact ⟨6 + 1, by omega, by go_num, Q2⟩
                case measure => simp [intOf]
          · obtain rfl : m = 7 := by omega
            clear m1 m5 m6
            have dA : wr.cell? ⟨nD, 1, none⟩ = some (.int .i64 (x 1)) := (DW.out.below Q.out DW.out.lt).cell 1
            go_wp2_with fail
            refine (ofp_any (BW.out.below Q.out (Nat.le_refl _)) ((HE.out.below (belW.out.trans (Q.out.mono ZA)) (Nat.le_refl _)).sub (by decide)) (x 1)).mono ?_
            rintro e w300 ⟨rfl, nq, rfl⟩
            have fin : PI w (wr.drewN nq) w0.heap.size (w0.heap.size + 1) A C A1 C1 A2 C2 L2 := ⟨bk_drew (BW.out.below Q.out (Nat.le_refl _)) nq, (RW.out.below Q.out (Nat.le_refl _)).drewN nq, (belW.out.trans (Q.out.mono ZA)).trans (below_drewN nq), ⟨sB, sX⟩, INV.out, hLn⟩
            have FIN := Lib.hid fin
            have c0 := fin.rk.c0
            have c1 := fin.rk.c1
            have dB : (wr.drewN nq).cell? ⟨nD, 1, none⟩ = some (.int .i64 (x 1)) := dA
            clear fin x0 x1 dA Q
            generalize wr.drewN nq = w5 at *
            by_cases hin : x 1 < 1 ∨ x 1 > L2.length
            · have hof : ofR L2 (x 1) = (0, 0, false) := by simp only [ofR]; rw [if_pos hin]
              rw [hof]
              clear hof
              by_cases hin1 : x 1 < 1
              · have dg : decide ((1 : Int) ≤ x 1) = false := by simp; omega
                clear hin
                go_wp2_with fail
                go_quiet (fail)
                go_wp2_with fail
                go_quiet (fail)
                go_wp2_with fail
                go_roundw
                case rel => first | exact ⟨k + 1, by omega, by go_num, _, _, _, _, _, _, _, FIN.out.drewN _, hLn2⟩ | ((repeat apply Exists.intro); exact ⟨⟨k + 1, by omega, by go_num, _, _, _, _, _, _, _, FIN.out.drewN _, hLn2⟩, rfl⟩)
                case measure => simp [intOf]; omega
              · have hno : ¬ x 1 ≤ L2.length := by omega
                have dg : decide ((1 : Int) ≤ x 1) = true := by simp; omega
                have dg2 : decide (x 1 ≤ (L2.length : Int)) = false := by simp; omega
                clear hin
                go_wp2_with fail
                go_quiet (fail)
                go_wp2_with fail
                go_quiet (fail)
                go_wp2_with fail
                go_roundw
                case rel => first | exact ⟨k + 1, by omega, by go_num, _, _, _, _, _, _, _, FIN.out.drewN _, hLn2⟩ | ((repeat apply Exists.intro); exact ⟨⟨k + 1, by omega, by go_num, _, _, _, _, _, _, _, FIN.out.drewN _, hLn2⟩, rfl⟩)
                case measure => simp [intOf]; omega
            · obtain ⟨q, hq, hx1, p, hp⟩ := id_at hin
              have hof : ofR L2 (x 1) = (p.1, p.2, true) := by
                simp only [ofR]; rw [if_neg hin, hx1, show (((q : Int) + 1) - 1).toNat = q by omega]
                simp [hp]
              rw [hof]
              obtain ⟨g1, g2, rfl, rfl, l1, l2, ng, n1, n2, q1, q2, v1, v2, u1, u2⟩ := rk_at FIN.out.rk hp
              clear hof hp u1 u2
              have i1 : (1 : Int) ≤ (q : Int) + 1 := by omega
              have i2 : (q : Int) + 1 ≤ (L2.length : Int) := by omega
              rw [hx1] at dB
              have hw : IntKind.i64.wrap ((q : Int) + 1 - 1) = (q : Int) := by rw [IntWalk.i64_in _ (by omega)]; omega
              have dg : decide ((1 : Int) ≤ (q : Int) + 1) = true := by simp; omega
              have dg2 : decide ((q : Int) + 1 ≤ (L2.length : Int)) = true := by simp; omega
              clear hin hx1
              go_wp2_with fail
              go_quiet (fail)
              go_wp2_with fail
              go_quiet (fail)
              go_wp2_with fail
              go_roundw
              case rel => first | exact ⟨k + 1, by omega, by go_num, _, _, _, _, _, _, _, FIN.out.drewN _, hLn2⟩ | ((repeat apply Exists.intro); exact ⟨⟨k + 1, by omega, by go_num, _, _, _, _, _, _, _, FIN.out.drewN _, hLn2⟩, rfl⟩)
              case measure => simp [intOf]; omega
    · go_wp2_with fail
      go_ret
      exact ⟨rfl, HS.out.bel⟩

end Go.Proofs.YthppbicfemgoaaaDoor
