/-
  CountSums: the walk.
-/
import Derived.Test.YthppbicfemgoaaaDoorCountFirst
import Derived.Test.YthppbicfemgoaaaDoorNumber
import Derived.Deep.RegionWith
namespace Go.Proofs.YthppbicfemgoaaaDoor
open Go.ChangeShapes Go.WideShapes Go.ChangeAt Go.RowKit
open Count
set_option linter.unusedVariables false

def clsC (L : List Pl) : Array Value := #[.int .i64 0, .int .i64 (nC 1 L), .int .i64 (nC 2 L), .int .i64 (nC 3 L), .int .i64 (nC 4 L)]
def rsnC (L : List Pl) : Array Value := #[.int .i64 0, .int .i64 (nR 1 L), .int .i64 (nR 2 L), .int .i64 (nR 3 L), .int .i64 (nR 4 L), .int .i64 (nR 5 L)]
theorem cls_set (L : List Pl) (c : Nat) (r : Int) (h0 : 1 ≤ c) (h1 : c ≤ 4) : (clsC L).setIfInBounds c (.int .i64 ((nC c L : Int) + 1)) = clsC (L ++ [((c : Int), r)]) := by
  rcases (show c = 1 ∨ c = 2 ∨ c = 3 ∨ c = 4 by omega) with rfl | rfl | rfl | rfl <;> simp [clsC, nC, isC, List.countP_append]
theorem rsn_set (L : List Pl) (r : Nat) (h0 : 1 ≤ r) (h1 : r ≤ 5) : (rsnC L).setIfInBounds r (.int .i64 ((nR r L : Int) + 1)) = rsnC (L ++ [(4, (r : Int))]) := by
  rcases (show r = 1 ∨ r = 2 ∨ r = 3 ∨ r = 4 ∨ r = 5 by omega) with rfl | rfl | rfl | rfl | rfl <;> simp [rsnC, nR, isR, List.countP_append]
theorem rsn_same (L : List Pl) (c : Int) (r : Int) (h : c ≠ 4) : rsnC (L ++ [(c, r)]) = rsnC L := by
  simp [rsnC, nR, isR, List.countP_append, h]
theorem cls_get (L : List Pl) (c : Nat) (h0 : 1 ≤ c) (h1 : c ≤ 4) : (clsC L)[c]? = some (.int .i64 (nC c L)) := by
  rcases (show c = 1 ∨ c = 2 ∨ c = 3 ∨ c = 4 by omega) with rfl | rfl | rfl | rfl <;> rfl
theorem rsn_get (L : List Pl) (r : Nat) (h0 : 1 ≤ r) (h1 : r ≤ 5) : (rsnC L)[r]? = some (.int .i64 (nR r L)) := by
  rcases (show r = 1 ∨ r = 2 ∨ r = 3 ∨ r = 4 ∨ r = 5 by omega) with rfl | rfl | rfl | rfl | rfl <;> rfl

/-- what a number makes of its packet -/
def plOf (z : Int) : Pl := if z % 4 = 0 then (1, 0) else if z % 4 = 1 then (2, 0) else if z % 4 = 2 then (3, 0) else (4, z.tdiv 4 % 5 + 1)
theorem plOf_good (z : Int) : good (plOf z) := by
  have := Int.emod_nonneg (z.tdiv 4) (show (5 : Int) ≠ 0 by omega)
  have := Int.emod_lt_of_pos (z.tdiv 4) (show (0 : Int) < 5 by omega)
  unfold plOf good
  split
  · simp
  · split
    · simp
    · split
      · simp
      · simp; omega
theorem nC_zero {L : List Pl} (h : ∀ p ∈ L, good p) : nC 0 L = 0 := by
  apply List.countP_eq_zero.2
  intro p hp
  have := h p hp
  simp [isC]; have := this.1; omega
theorem nR_six {L : List Pl} (h : ∀ p ∈ L, good p) : nR 6 L = 0 := by
  apply List.countP_eq_zero.2
  intro p hp
  have := (h p hp).2.2
  simp [isR]; intro e; have := this e; omega
theorem tdiv4 {z : Int} (h0 : -9223372036854775808 ≤ z) (h1 : z ≤ 9223372036854775807) : -9223372036854775808 ≤ z.tdiv 4 ∧ z.tdiv 4 ≤ 9223372036854775807 := by
  by_cases h : 0 ≤ z
  · rw [Int.tdiv_eq_ediv_of_nonneg h]; omega
  · have : z.tdiv 4 = -((-z) / 4) := by
      rw [← Int.tdiv_eq_ediv_of_nonneg (by omega), Int.neg_tdiv, Int.neg_neg]
    rw [this]; omega

theorem mvL_last {L : List Pl} {k : Nat} (hL : L.length = k) (q : Pl) (c : Int) (hc : ¬ (c < 1 ∨ c > 3)) (hs : ¬ (over q = true ∨ c = 1 ∨ (c = 3 ∧ q.1 = 1))) : mvR (L ++ [q]) ((k : Int) + 1) c = none ∧ mvL (L ++ [q]) ((k : Int) + 1) c = L ++ [(c, q.2)] := by
  have hg : (L ++ [q])[k]? = some q := by rw [List.getElem?_append_right (by omega), hL]; simp
  have h := mv_fine hg hc hs
  refine ⟨h, ?_⟩
  rw [mvL_fine h hg, List.set_append_right _ _ (by omega), hL]
  simp
theorem dpL_last {L : List Pl} {k : Nat} (hL : L.length = k) (q : Pl) (c : Int) (hc : ¬ (c < 1 ∨ c > 5)) (hs : over q = false) : dpR (L ++ [q]) ((k : Int) + 1) c = none ∧ dpL (L ++ [q]) ((k : Int) + 1) c = L ++ [(4, c)] := by
  have hg : (L ++ [q])[k]? = some q := by rw [List.getElem?_append_right (by omega), hL]; simp
  have h := dp_over (c := c) hg hc
  rw [hs] at h
  simp only [Bool.false_eq_true, if_false] at h
  refine ⟨h, ?_⟩
  rw [dpL_fine h, List.set_append_right _ _ (by omega), hL]
  simp

/-- what the loop keeps: book in B, class's block K, reason's block R -/
structure Sums (w0 w : World) (B K R : Nat) (L : List Pl) (A : Option Addr) (C : Nat) : Prop where
  bk : Bk w w0.heap.size B A C L
  cls : Blk w K (clsC L) 27
  rsn : Blk w R (rsnC L) 28
  bel : Below w0.heap.size w0 w
  lo : w0.heap.size ≤ B ∧ B < K ∧ K < R
theorem bk_drew1 {w : World} {base B C : Nat} {A : Option Addr} {L : List Pl} (h : Bk w base B A C L) : Bk w.drew base B A C L := ⟨h.blk, h.own⟩

set_option maxHeartbeats 6400000 in
theorem countSums_walk (w : World) {E : Nat → Addr} (hE : Errs [2, 6, 9] w E) (a : Option Addr) (len cap : Nat) (zs : List Int) (h : Row w 1 a len cap (zs.map (Value.int .i64))) (hz : ∀ n ∈ zs, (Lit.int .i64 n).wf = true) :
    Calls Tryd.prog 3 #[.slice a len cap] w fun e w' => e = .returned (.bool true) ∧ Below w.heap.size w w' := by
  have hm := h.len_le
  have HE := Lib.hid hE
  have HZ := Lib.hid hz
  have HL := Lib.hid (show zs.length = len by simpa using h.1)
  have HR := Lib.hid h
  clear h hz hE
  go_enter Tryd.func3, Tryd.ntmps3
  go_wp2_with fail
  refine (first_any _).mono ?_
  rintro e w0 ⟨rfl, b0⟩
  by_cases hlen : len > 60
  · go_wp2_with fail
    go_ret
    exact ⟨rfl, b0⟩
  go_wp2_with fail
  have z0 := b0.size
  have b1 : Below w.heap.size w (((w0.alloc (.cells #[.slice none 0 0] 26)).alloc (.cells #[.int .i64 0, .int .i64 0, .int .i64 0, .int .i64 0, .int .i64 0] 27)).alloc (.cells #[.int .i64 0, .int .i64 0, .int .i64 0, .int .i64 0, .int .i64 0, .int .i64 0] 28)) := ((b0.alloc z0 _).alloc (by simp; omega) _).alloc (by simp; omega) _
  have S1 : Sums w (((w0.alloc (.cells #[.slice none 0 0] 26)).alloc (.cells #[.int .i64 0, .int .i64 0, .int .i64 0, .int .i64 0, .int .i64 0] 27)).alloc (.cells #[.int .i64 0, .int .i64 0, .int .i64 0, .int .i64 0, .int .i64 0, .int .i64 0] 28)) w0.heap.size (w0.heap.size + 1) (w0.heap.size + 1 + 1) [] none 0 := by
    refine ⟨⟨((Blk.new _ _ _).alloc _).alloc _, World.ownsRow_nil _ _ _ _⟩, ?_, ?_, b1, z0, by omega, by omega⟩
    · have := (Blk.new (w0.alloc (.cells #[.slice none 0 0] 26)) (clsC []) 27).alloc (.cells #[.int .i64 0, .int .i64 0, .int .i64 0, .int .i64 0, .int .i64 0, .int .i64 0] 28)
      simpa [clsC, nC] using this
    · have := Blk.new ((w0.alloc (.cells #[.slice none 0 0] 26)).alloc (.cells #[.int .i64 0, .int .i64 0, .int .i64 0, .int .i64 0, .int .i64 0] 27)) (rsnC []) 28
      simpa [rsnC, nR] using this
  have HS1 := Lib.hid S1
  clear S1 b1
  go_loopw [7] (fun i wr => ∃ k : Nat, k ≤ len ∧ i = .int .i64 k ∧ ∃ A C, Sums w wr w0.heap.size (w0.heap.size + 1) (w0.heap.size + 1 + 1) ((zs.take k).map plOf) A C) (fun i _ => len - (intOf i).toNat)
  case atStart => exact ⟨0, Nat.zero_le _, rfl, none, 0, HS1.out⟩
  case round =>
    obtain ⟨k, hk, rfl, A, C, hS⟩ := hrel
    have HS := Lib.hid hS
    clear hS HS1 z0
    by_cases hlt : k < len
    · obtain ⟨b1, off1, rfl, hb1, hc1⟩ := HR.out.at_ (by omega)
      obtain ⟨z, hzk⟩ : ∃ z, zs[k]? = some z := ⟨_, List.getElem?_eq_getElem (by rw [HL.out]; exact hlt)⟩
      have hwf := bounds_i64 (HZ.out z (List.mem_of_getElem? hzk))
      have hcell : w.cell? ⟨b1, off1 + k, none⟩ = some (.int .i64 z) := hc1 k _ (by rw [List.getElem?_map, hzk]; rfl)
      clear hc1
      have HT := Lib.hid (show (zs.take (k + 1)).map plOf = (zs.take k).map plOf ++ [plOf z] by
        obtain ⟨hk1, rfl⟩ := List.getElem?_eq_some_iff.1 hzk
        rw [List.take_succ_eq_append_getElem hk1, List.map_append]; rfl)
      have hLk : ((zs.take k).map plOf).length = k := by simp [HL.out]; omega
      clear hzk
      generalize (zs.take k).map plOf = L at *
      have h4 := Int.emod_nonneg z (show (4 : Int) ≠ 0 by omega)
      have h4' := Int.emod_lt_of_pos z (show (0 : Int) < 4 by omega)
      obtain ⟨t0, t1⟩ := tdiv4 hwf.1 hwf.2
      obtain ⟨ρ, hρ, eρ'⟩ := number_nat (z.tdiv 4) 5 (by omega)
      have eρ : z.tdiv 4 % 5 = (ρ : Int) := eρ'
      clear eρ'
      have HLk := Lib.hid hLk
      clear hLk
      have sB := HS.out.lo.1
      have SZ := HS.out.bel.size
      rcases (show z % 4 = 0 ∨ z % 4 = 1 ∨ z % 4 = 2 ∨ z % 4 = 3 by omega) with e4 | e4 | e4 | e4
      · have HP := Lib.hid (show plOf z = ((1 : Int), (0 : Int)) by unfold plOf; rw [e4]; simp)
        go_wp2_with fail
        refine (accept_any HS.out.bk (by rw [HLk.out]; omega) SZ).mono ?_
        rintro e w2 ⟨rfl, A2, C2, h2, t2, ha2⟩
        rw [HLk.out]
        have b2 := HS.out.bel.trans (Bk.belowT HS.out.bk sB t2)
        have K2 : Blk w2 (w0.heap.size + 1) (clsC L) 27 := HS.out.cls.touch t2 (by rintro (x | x); omega; exact own_ne HS.out.bk.own HS.out.cls (by decide) x.symm)
        have R2 : Blk w2 (w0.heap.size + 1 + 1) (rsnC L) 28 := HS.out.rsn.touch t2 (by rintro (x | x); omega; exact own_ne HS.out.bk.own HS.out.rsn (by decide) x.symm)
        have S2 := Lib.hid h2
        have KK2 := Lib.hid K2
        have RR2 := Lib.hid R2
        have d2 : w2.cell? ⟨b1, off1 + k, none⟩ = some (.int .i64 z) := (b2.cell (p := ⟨b1, off1 + k, none⟩) hb1).trans hcell
        have B2 := Lib.hid b2
        have E2 := Lib.hid (HE.out.below b2 (Nat.le_refl _))
        clear h2 t2 K2 R2 b2
        go_wp2_with fail
        refine (number_any z 4 _ (by omega) (by omega) hwf.1 hwf.2).mono ?_
        rintro e w3 ⟨rfl, rfl⟩
        rw [e4]
        go_wp2_with fail
        refine (number_any (z.tdiv 4) 5 _ (by omega) (by omega) t0 t1).mono ?_
        rintro e w3 ⟨rfl, rfl⟩
        rw [eρ]
        clear d2
        have c9 : w2.cell? ⟨w0.heap.size + 1, 1, none⟩ = some (.int .i64 (nC 1 L)) := KK2.out.cell 1
        have cf9 := KK2.out.frozen 1
        have cl9 : nC 1 L ≤ 60 := Nat.le_trans List.countP_le_length (by rw [HLk.out]; omega)
        go_wp2_with fail
        go_roundw
        case rel =>
          refine ⟨k + 1, by omega, by go_num, A2, C2, ?_⟩
          rw [HT.out, HP.out]
          have hnB : w0.heap.size ≠ w0.heap.size + 1 := by omega
          refine ⟨⟨S2.out.blk.far hnB _, own_far S2.out.own _ (own_ne S2.out.own KK2.out (by decide)) _⟩, ?_, ?_, B2.out.setCell (p := ⟨w0.heap.size + 1, _, none⟩) (by show w.heap.size ≤ w0.heap.size + 1; omega) _, HS.out.lo⟩
          · have := KK2.out.set_ 1 (.int .i64 ((nC 1 L : Int) + 1))
            have e := cls_set L 1 0 (by omega) (by omega)
            exact e ▸ this
          · rw [rsn_same L _ _ (by decide)]
            exact RR2.out.far (by intro x; simp at x) _
        case measure => simp [intOf]; omega
      · have HP := Lib.hid (show plOf z = ((2 : Int), (0 : Int)) by unfold plOf; rw [e4]; simp)
        go_wp2_with fail
        refine (accept_any HS.out.bk (by rw [HLk.out]; omega) SZ).mono ?_
        rintro e w2 ⟨rfl, A2, C2, h2, t2, ha2⟩
        rw [HLk.out]
        have b2 := HS.out.bel.trans (Bk.belowT HS.out.bk sB t2)
        have K2 : Blk w2 (w0.heap.size + 1) (clsC L) 27 := HS.out.cls.touch t2 (by rintro (x | x); omega; exact own_ne HS.out.bk.own HS.out.cls (by decide) x.symm)
        have R2 : Blk w2 (w0.heap.size + 1 + 1) (rsnC L) 28 := HS.out.rsn.touch t2 (by rintro (x | x); omega; exact own_ne HS.out.bk.own HS.out.rsn (by decide) x.symm)
        have S2 := Lib.hid h2
        have KK2 := Lib.hid K2
        have RR2 := Lib.hid R2
        have d2 : w2.cell? ⟨b1, off1 + k, none⟩ = some (.int .i64 z) := (b2.cell (p := ⟨b1, off1 + k, none⟩) hb1).trans hcell
        have B2 := Lib.hid b2
        have E2 := Lib.hid (HE.out.below b2 (Nat.le_refl _))
        clear h2 t2 K2 R2 b2
        go_wp2_with fail
        refine (number_any z 4 _ (by omega) (by omega) hwf.1 hwf.2).mono ?_
        rintro e w3 ⟨rfl, rfl⟩
        rw [e4]
        go_wp2_with fail
        refine (number_any (z.tdiv 4) 5 _ (by omega) (by omega) t0 t1).mono ?_
        rintro e w3 ⟨rfl, rfl⟩
        rw [eρ]
        clear d2
        go_wp2_with fail
        refine (move_any S2.out E2.out ((k : Int) + 1) 2).mono ?_
        rintro e w3 ⟨rfl, h3, t3⟩
        rw [(mvL_last HLk.out (1, 0) 2 (by decide) (by decide)).1]
        rw [(mvL_last HLk.out (1, 0) 2 (by decide) (by decide)).2] at h3
        simp only [errO]
        have b3 := B2.out.trans (Bk.belowT S2.out sB t3)
        have K3 : Blk w3 (w0.heap.size + 1) (clsC L) 27 := KK2.out.touch t3 (by rintro (x | x); omega; exact own_ne S2.out.own KK2.out (by decide) x.symm)
        have R3 : Blk w3 (w0.heap.size + 1 + 1) (rsnC L) 28 := RR2.out.touch t3 (by rintro (x | x); omega; exact own_ne S2.out.own RR2.out (by decide) x.symm)
        have S3 := Lib.hid h3; have KK3 := Lib.hid K3; have RR3 := Lib.hid R3; have B3 := Lib.hid b3; have E3 := Lib.hid (HE.out.below b3 (Nat.le_refl _))
        clear h3 t3 K3 R3 b3
        have c9 : w3.cell? ⟨w0.heap.size + 1, 2, none⟩ = some (.int .i64 (nC 2 L)) := KK3.out.cell 2
        have cf9 := KK3.out.frozen 2
        have cl9 : nC 2 L ≤ 60 := Nat.le_trans List.countP_le_length (by rw [HLk.out]; omega)
        go_wp2_with fail
        go_roundw
        case rel =>
          refine ⟨k + 1, by omega, by go_num, A2, C2, ?_⟩
          rw [HT.out, HP.out]
          have hnB : w0.heap.size ≠ w0.heap.size + 1 := by omega
          refine ⟨⟨S3.out.blk.far hnB _, own_far S3.out.own _ (own_ne S3.out.own KK3.out (by decide)) _⟩, ?_, ?_, B3.out.setCell (p := ⟨w0.heap.size + 1, _, none⟩) (by show w.heap.size ≤ w0.heap.size + 1; omega) _, HS.out.lo⟩
          · have := KK3.out.set_ 2 (.int .i64 ((nC 2 L : Int) + 1))
            have e := cls_set L 2 0 (by omega) (by omega)
            exact e ▸ this
          · rw [rsn_same L _ _ (by decide)]
            exact RR3.out.far (by intro x; simp at x) _
        case measure => simp [intOf]; omega
      · have HP := Lib.hid (show plOf z = ((3 : Int), (0 : Int)) by unfold plOf; rw [e4]; simp)
        go_wp2_with fail
        refine (accept_any HS.out.bk (by rw [HLk.out]; omega) SZ).mono ?_
        rintro e w2 ⟨rfl, A2, C2, h2, t2, ha2⟩
        rw [HLk.out]
        have b2 := HS.out.bel.trans (Bk.belowT HS.out.bk sB t2)
        have K2 : Blk w2 (w0.heap.size + 1) (clsC L) 27 := HS.out.cls.touch t2 (by rintro (x | x); omega; exact own_ne HS.out.bk.own HS.out.cls (by decide) x.symm)
        have R2 : Blk w2 (w0.heap.size + 1 + 1) (rsnC L) 28 := HS.out.rsn.touch t2 (by rintro (x | x); omega; exact own_ne HS.out.bk.own HS.out.rsn (by decide) x.symm)
        have S2 := Lib.hid h2
        have KK2 := Lib.hid K2
        have RR2 := Lib.hid R2
        have d2 : w2.cell? ⟨b1, off1 + k, none⟩ = some (.int .i64 z) := (b2.cell (p := ⟨b1, off1 + k, none⟩) hb1).trans hcell
        have B2 := Lib.hid b2
        have E2 := Lib.hid (HE.out.below b2 (Nat.le_refl _))
        clear h2 t2 K2 R2 b2
        go_wp2_with fail
        refine (number_any z 4 _ (by omega) (by omega) hwf.1 hwf.2).mono ?_
        rintro e w3 ⟨rfl, rfl⟩
        rw [e4]
        go_wp2_with fail
        refine (number_any (z.tdiv 4) 5 _ (by omega) (by omega) t0 t1).mono ?_
        rintro e w3 ⟨rfl, rfl⟩
        rw [eρ]
        clear d2
        go_wp2_with fail
        refine (move_any S2.out E2.out ((k : Int) + 1) 2).mono ?_
        rintro e w3 ⟨rfl, h3, t3⟩
        rw [(mvL_last HLk.out (1, 0) 2 (by decide) (by decide)).1]
        rw [(mvL_last HLk.out (1, 0) 2 (by decide) (by decide)).2] at h3
        simp only [errO]
        have b3 := B2.out.trans (Bk.belowT S2.out sB t3)
        have K3 : Blk w3 (w0.heap.size + 1) (clsC L) 27 := KK2.out.touch t3 (by rintro (x | x); omega; exact own_ne S2.out.own KK2.out (by decide) x.symm)
        have R3 : Blk w3 (w0.heap.size + 1 + 1) (rsnC L) 28 := RR2.out.touch t3 (by rintro (x | x); omega; exact own_ne S2.out.own RR2.out (by decide) x.symm)
        have S3 := Lib.hid h3; have KK3 := Lib.hid K3; have RR3 := Lib.hid R3; have B3 := Lib.hid b3; have E3 := Lib.hid (HE.out.below b3 (Nat.le_refl _))
        clear h3 t3 K3 R3 b3
        go_wp2_with fail
        refine (move_any S3.out E3.out ((k : Int) + 1) 3).mono ?_
        rintro e w4 ⟨rfl, h4, t4⟩
        rw [(mvL_last HLk.out (2, 0) 3 (by decide) (by decide)).1]
        rw [(mvL_last HLk.out (2, 0) 3 (by decide) (by decide)).2] at h4
        simp only [errO]
        have b4 := B3.out.trans (Bk.belowT S3.out sB t4)
        have K4 : Blk w4 (w0.heap.size + 1) (clsC L) 27 := KK3.out.touch t4 (by rintro (x | x); omega; exact own_ne S3.out.own KK3.out (by decide) x.symm)
        have R4 : Blk w4 (w0.heap.size + 1 + 1) (rsnC L) 28 := RR3.out.touch t4 (by rintro (x | x); omega; exact own_ne S3.out.own RR3.out (by decide) x.symm)
        have S4 := Lib.hid h4; have KK4 := Lib.hid K4; have RR4 := Lib.hid R4; have B4 := Lib.hid b4; have E4 := Lib.hid (HE.out.below b4 (Nat.le_refl _))
        clear h4 t4 K4 R4 b4
        have c9 : w4.cell? ⟨w0.heap.size + 1, 3, none⟩ = some (.int .i64 (nC 3 L)) := KK4.out.cell 3
        have cf9 := KK4.out.frozen 3
        have cl9 : nC 3 L ≤ 60 := Nat.le_trans List.countP_le_length (by rw [HLk.out]; omega)
        go_wp2_with fail
        go_roundw
        case rel =>
          refine ⟨k + 1, by omega, by go_num, A2, C2, ?_⟩
          rw [HT.out, HP.out]
          have hnB : w0.heap.size ≠ w0.heap.size + 1 := by omega
          refine ⟨⟨S4.out.blk.far hnB _, own_far S4.out.own _ (own_ne S4.out.own KK4.out (by decide)) _⟩, ?_, ?_, B4.out.setCell (p := ⟨w0.heap.size + 1, _, none⟩) (by show w.heap.size ≤ w0.heap.size + 1; omega) _, HS.out.lo⟩
          · have := KK4.out.set_ 3 (.int .i64 ((nC 3 L : Int) + 1))
            have e := cls_set L 3 0 (by omega) (by omega)
            exact e ▸ this
          · rw [rsn_same L _ _ (by decide)]
            exact RR4.out.far (by intro x; simp at x) _
        case measure => simp [intOf]; omega
      · have HP := Lib.hid (show plOf z = ((4 : Int), (ρ : Int) + 1) by unfold plOf; rw [e4]; simp; exact eρ)
        go_wp2_with fail
        refine (accept_any HS.out.bk (by rw [HLk.out]; omega) SZ).mono ?_
        rintro e w2 ⟨rfl, A2, C2, h2, t2, ha2⟩
        rw [HLk.out]
        have b2 := HS.out.bel.trans (Bk.belowT HS.out.bk sB t2)
        have K2 : Blk w2 (w0.heap.size + 1) (clsC L) 27 := HS.out.cls.touch t2 (by rintro (x | x); omega; exact own_ne HS.out.bk.own HS.out.cls (by decide) x.symm)
        have R2 : Blk w2 (w0.heap.size + 1 + 1) (rsnC L) 28 := HS.out.rsn.touch t2 (by rintro (x | x); omega; exact own_ne HS.out.bk.own HS.out.rsn (by decide) x.symm)
        have S2 := Lib.hid h2
        have KK2 := Lib.hid K2
        have RR2 := Lib.hid R2
        have d2 : w2.cell? ⟨b1, off1 + k, none⟩ = some (.int .i64 z) := (b2.cell (p := ⟨b1, off1 + k, none⟩) hb1).trans hcell
        have B2 := Lib.hid b2
        have E2 := Lib.hid (HE.out.below b2 (Nat.le_refl _))
        clear h2 t2 K2 R2 b2
        go_wp2_with fail
        refine (number_any z 4 _ (by omega) (by omega) hwf.1 hwf.2).mono ?_
        rintro e w3 ⟨rfl, rfl⟩
        rw [e4]
        go_wp2_with fail
        refine (number_any (z.tdiv 4) 5 _ (by omega) (by omega) t0 t1).mono ?_
        rintro e w3 ⟨rfl, rfl⟩
        rw [eρ]
        clear d2
        go_wp2_with fail
        refine (move_any S2.out E2.out ((k : Int) + 1) 2).mono ?_
        rintro e w3 ⟨rfl, h3, t3⟩
        rw [(mvL_last HLk.out (1, 0) 2 (by decide) (by decide)).1]
        rw [(mvL_last HLk.out (1, 0) 2 (by decide) (by decide)).2] at h3
        simp only [errO]
        have b3 := B2.out.trans (Bk.belowT S2.out sB t3)
        have K3 : Blk w3 (w0.heap.size + 1) (clsC L) 27 := KK2.out.touch t3 (by rintro (x | x); omega; exact own_ne S2.out.own KK2.out (by decide) x.symm)
        have R3 : Blk w3 (w0.heap.size + 1 + 1) (rsnC L) 28 := RR2.out.touch t3 (by rintro (x | x); omega; exact own_ne S2.out.own RR2.out (by decide) x.symm)
        have S3 := Lib.hid h3; have KK3 := Lib.hid K3; have RR3 := Lib.hid R3; have B3 := Lib.hid b3; have E3 := Lib.hid (HE.out.below b3 (Nat.le_refl _))
        clear h3 t3 K3 R3 b3
        have r3 : w3.cell? ⟨w0.heap.size + 1 + 1, ρ + 1, none⟩ = some (.int .i64 (nR ((ρ : Int) + 1) L)) := (RR3.out.cell _).trans (rsn_get L (ρ + 1) (by omega) (by omega))
        have rf3 := RR3.out.frozen (ρ + 1)
        have rl3 : nR ((ρ : Int) + 1) L ≤ 60 := Nat.le_trans List.countP_le_length (by rw [HLk.out]; omega)
        have hρ5 : ρ + 1 ≤ 5 := by omega
        go_wp2_with fail
        have hnB : w0.heap.size ≠ w0.heap.size + 1 + 1 := by omega
        have hnK : w0.heap.size + 1 ≠ w0.heap.size + 1 + 1 := by omega
        obtain ⟨w4, hw4⟩ : ∃ w4, w4 = w3.setCell ⟨w0.heap.size + 1 + 1, ρ + 1, none⟩ (.int .i64 ((nR ((ρ : Int) + 1) L : Int) + 1)) := ⟨_, rfl⟩
        rw [← hw4]
        have S4 : Hid (Bk w4 w.heap.size w0.heap.size A2 C2 (L ++ [(2, 0)])) := Lib.hid (by rw [hw4]; exact ⟨S3.out.blk.far hnB _, own_far S3.out.own _ (own_ne S3.out.own RR3.out (by decide)) _⟩)
        have KK4 : Hid (Blk w4 (w0.heap.size + 1) (clsC L) 27) := Lib.hid (by rw [hw4]; exact KK3.out.far hnK _)
        have RR4 : Hid (Blk w4 (w0.heap.size + 1 + 1) (rsnC (L ++ [(4, (ρ : Int) + 1)])) 28) := Lib.hid (by rw [hw4]; exact (rsn_set L (ρ + 1) (by omega) (by omega)) ▸ RR3.out.set_ (ρ + 1) _)
        have B4 : Hid (Below w.heap.size w w4) := Lib.hid (by rw [hw4]; exact B3.out.setCell (p := ⟨w0.heap.size + 1 + 1, _, none⟩) (by show w.heap.size ≤ w0.heap.size + 1 + 1; omega) _)
        have E4 := Lib.hid (HE.out.below B4.out (Nat.le_refl _))
        clear hw4 r3 rf3 rl3
        refine (drop_any S4.out E4.out ((k : Int) + 1) ((ρ : Int) + 1)).mono ?_
        rintro e w5 ⟨rfl, h5, t5⟩
        rw [(dpL_last HLk.out (2, 0) ((ρ : Int) + 1) (by omega) rfl).1]
        rw [(dpL_last HLk.out (2, 0) ((ρ : Int) + 1) (by omega) rfl).2] at h5
        simp only [errO]
        have b5 := B4.out.trans (Bk.belowT S4.out sB t5)
        have K5 : Blk w5 (w0.heap.size + 1) (clsC L) 27 := KK4.out.touch t5 (by rintro (x | x); omega; exact own_ne S4.out.own KK4.out (by decide) x.symm)
        have R5 : Blk w5 (w0.heap.size + 1 + 1) (rsnC (L ++ [(4, (ρ : Int) + 1)])) 28 := RR4.out.touch t5 (by rintro (x | x); omega; exact own_ne S4.out.own RR4.out (by decide) x.symm)
        have S5 := Lib.hid h5; have KK5 := Lib.hid K5; have RR5 := Lib.hid R5; have B5 := Lib.hid b5; have E5 := Lib.hid (HE.out.below b5 (Nat.le_refl _))
        clear h5 t5 K5 R5 b5
        have c9 : w5.cell? ⟨w0.heap.size + 1, 4, none⟩ = some (.int .i64 (nC 4 L)) := KK5.out.cell 4
        have cf9 := KK5.out.frozen 4
        have cl9 : nC 4 L ≤ 60 := Nat.le_trans List.countP_le_length (by rw [HLk.out]; omega)
        go_wp2_with fail
        go_roundw
        case rel =>
          refine ⟨k + 1, by omega, by go_num, A2, C2, ?_⟩
          rw [HT.out, HP.out]
          have hnB : w0.heap.size ≠ w0.heap.size + 1 := by omega
          refine ⟨⟨S5.out.blk.far hnB _, own_far S5.out.own _ (own_ne S5.out.own KK5.out (by decide)) _⟩, ?_, ?_, B5.out.setCell (p := ⟨w0.heap.size + 1, _, none⟩) (by show w.heap.size ≤ w0.heap.size + 1; omega) _, HS.out.lo⟩
          · have := KK5.out.set_ 4 (.int .i64 ((nC 4 L : Int) + 1))
            have e := cls_set L 4 ((ρ : Int) + 1) (by omega) (by omega)
            exact e ▸ this
          · skip
            exact RR5.out.far (by intro x; simp at x) _
        case measure => simp [intOf]; omega
    · have hke : k = len := by omega
      subst hke
      have HF := Lib.hid (show zs.take k = zs by rw [List.take_of_length_le]; rw [HL.out]; omega)
      rw [HF.out] at HS
      have hgood : ∀ p ∈ zs.map plOf, good p := by
        intro p hp
        obtain ⟨z, _, rfl⟩ := List.mem_map.1 hp
        exact plOf_good z
      have HG := Lib.hid hgood
      have hLl : (zs.map plOf).length = k := by rw [List.length_map]; exact HL.out
      have HLl := Lib.hid hLl
      clear hgood hLl
      have n0 := nC_zero HG.out
      have n6 := nR_six HG.out
      have lB : w0.heap.size < w0.heap.size + 1 + 1 := by omega
      have SZ := HS.out.bel.size
      have lt1 := HS.out.cls.lt
      have lt2 := HS.out.rsn.lt
      generalize zs.map plOf = L at *
      go_wp2_with fail
      have b0r := HS.out.bel
      refine wp_loop_rounds 5 ?_
      rw [rounds_succ]
      have d1 : wr.cell? ⟨w0.heap.size + 1, 1, none⟩ = some (.int .i64 (nC 1 L)) := (HS.out.cls.below (Below.refl wr.heap.size wr) (Nat.lt_of_lt_of_le lt1 (Nat.le_refl _))).cell 1
      go_wp2_with fail
      go_region_held3 (fun x => x.cell? ⟨w0.heap.size + 1, 1, none⟩ = some (.int .i64 (nC 1 L))) (first | exact d1 | exact (hx1.cell (p := ⟨w0.heap.size + 1, 1, none⟩) (Nat.lt_of_lt_of_le lt1 (Nat.le_refl _))).trans d1) ((go_at_call 11; refine (class_any (bk_drew1 (HS.out.bk.below (Below.refl wr.heap.size wr) (Nat.le_refl _))) 1).mono ?_; rintro e w101 ⟨rfl, hx1⟩))
      have Q1 := Lib.hid (show Below wr.heap.size wr w101 from (Below.drew (Below.refl wr.heap.size wr)).trans hx1)
      clear hx1 d1
      go_wp2_with fail
      rw [rounds_succ]
      have d2 : w101.cell? ⟨w0.heap.size + 1, 2, none⟩ = some (.int .i64 (nC 2 L)) := (HS.out.cls.below Q1.out (Nat.lt_of_lt_of_le lt1 (Nat.le_refl _))).cell 2
      go_wp2_with fail
      go_region_held3 (fun x => x.cell? ⟨w0.heap.size + 1, 2, none⟩ = some (.int .i64 (nC 2 L))) (first | exact d2 | exact (hx2.cell (p := ⟨w0.heap.size + 1, 2, none⟩) (Nat.lt_of_lt_of_le lt1 Q1.out.size)).trans d2) ((go_at_call 11; refine (class_any (bk_drew1 (HS.out.bk.below Q1.out (Nat.le_refl _))) 2).mono ?_; rintro e w102 ⟨rfl, hx2⟩))
      have Q2 := Lib.hid (show Below wr.heap.size wr w102 from (Below.drew Q1.out).trans (hx2.mono Q1.out.size))
      clear hx2 d2
      go_wp2_with fail
      rw [rounds_succ]
      have d3 : w102.cell? ⟨w0.heap.size + 1, 3, none⟩ = some (.int .i64 (nC 3 L)) := (HS.out.cls.below Q2.out (Nat.lt_of_lt_of_le lt1 (Nat.le_refl _))).cell 3
      go_wp2_with fail
      go_region_held3 (fun x => x.cell? ⟨w0.heap.size + 1, 3, none⟩ = some (.int .i64 (nC 3 L))) (first | exact d3 | exact (hx3.cell (p := ⟨w0.heap.size + 1, 3, none⟩) (Nat.lt_of_lt_of_le lt1 Q2.out.size)).trans d3) ((go_at_call 11; refine (class_any (bk_drew1 (HS.out.bk.below Q2.out (Nat.le_refl _))) 3).mono ?_; rintro e w103 ⟨rfl, hx3⟩))
      have Q3 := Lib.hid (show Below wr.heap.size wr w103 from (Below.drew Q2.out).trans (hx3.mono Q2.out.size))
      clear hx3 d3
      go_wp2_with fail
      rw [rounds_succ]
      have d4 : w103.cell? ⟨w0.heap.size + 1, 4, none⟩ = some (.int .i64 (nC 4 L)) := (HS.out.cls.below Q3.out (Nat.lt_of_lt_of_le lt1 (Nat.le_refl _))).cell 4
      go_wp2_with fail
      go_region_held3 (fun x => x.cell? ⟨w0.heap.size + 1, 4, none⟩ = some (.int .i64 (nC 4 L))) (first | exact d4 | exact (hx4.cell (p := ⟨w0.heap.size + 1, 4, none⟩) (Nat.lt_of_lt_of_le lt1 Q3.out.size)).trans d4) ((go_at_call 11; refine (class_any (bk_drew1 (HS.out.bk.below Q3.out (Nat.le_refl _))) 4).mono ?_; rintro e w104 ⟨rfl, hx4⟩))
      have Q4 := Lib.hid (show Below wr.heap.size wr w104 from (Below.drew Q3.out).trans (hx4.mono Q3.out.size))
      clear hx4 d4
      go_wp2_with fail
      rw [rounds_succ]
      go_wp2_with fail
      refine wp_loop_rounds 6 ?_
      rw [rounds_succ]
      have d5 : w104.cell? ⟨w0.heap.size + 1 + 1, 1, none⟩ = some (.int .i64 (nR 1 L)) := (HS.out.rsn.below Q4.out (Nat.lt_of_lt_of_le lt2 (Nat.le_refl _))).cell 1
      go_wp2_with fail
      go_region_held3 (fun x => x.cell? ⟨w0.heap.size + 1 + 1, 1, none⟩ = some (.int .i64 (nR 1 L))) (first | exact d5 | exact (hx5.cell (p := ⟨w0.heap.size + 1 + 1, 1, none⟩) (Nat.lt_of_lt_of_le lt2 Q4.out.size)).trans d5) ((go_at_call 12; refine (reason_any (bk_drew1 (HS.out.bk.below Q4.out (Nat.le_refl _))) 1).mono ?_; rintro e w105 ⟨rfl, hx5⟩))
      have Q5 := Lib.hid (show Below wr.heap.size wr w105 from (Below.drew Q4.out).trans (hx5.mono Q4.out.size))
      clear hx5 d5
      go_wp2_with fail
      rw [rounds_succ]
      have d6 : w105.cell? ⟨w0.heap.size + 1 + 1, 2, none⟩ = some (.int .i64 (nR 2 L)) := (HS.out.rsn.below Q5.out (Nat.lt_of_lt_of_le lt2 (Nat.le_refl _))).cell 2
      go_wp2_with fail
      go_region_held3 (fun x => x.cell? ⟨w0.heap.size + 1 + 1, 2, none⟩ = some (.int .i64 (nR 2 L))) (first | exact d6 | exact (hx6.cell (p := ⟨w0.heap.size + 1 + 1, 2, none⟩) (Nat.lt_of_lt_of_le lt2 Q5.out.size)).trans d6) ((go_at_call 12; refine (reason_any (bk_drew1 (HS.out.bk.below Q5.out (Nat.le_refl _))) 2).mono ?_; rintro e w106 ⟨rfl, hx6⟩))
      have Q6 := Lib.hid (show Below wr.heap.size wr w106 from (Below.drew Q5.out).trans (hx6.mono Q5.out.size))
      clear hx6 d6
      go_wp2_with fail
      rw [rounds_succ]
      have d7 : w106.cell? ⟨w0.heap.size + 1 + 1, 3, none⟩ = some (.int .i64 (nR 3 L)) := (HS.out.rsn.below Q6.out (Nat.lt_of_lt_of_le lt2 (Nat.le_refl _))).cell 3
      go_wp2_with fail
      go_region_held3 (fun x => x.cell? ⟨w0.heap.size + 1 + 1, 3, none⟩ = some (.int .i64 (nR 3 L))) (first | exact d7 | exact (hx7.cell (p := ⟨w0.heap.size + 1 + 1, 3, none⟩) (Nat.lt_of_lt_of_le lt2 Q6.out.size)).trans d7) ((go_at_call 12; refine (reason_any (bk_drew1 (HS.out.bk.below Q6.out (Nat.le_refl _))) 3).mono ?_; rintro e w107 ⟨rfl, hx7⟩))
      have Q7 := Lib.hid (show Below wr.heap.size wr w107 from (Below.drew Q6.out).trans (hx7.mono Q6.out.size))
      clear hx7 d7
      go_wp2_with fail
      rw [rounds_succ]
      have d8 : w107.cell? ⟨w0.heap.size + 1 + 1, 4, none⟩ = some (.int .i64 (nR 4 L)) := (HS.out.rsn.below Q7.out (Nat.lt_of_lt_of_le lt2 (Nat.le_refl _))).cell 4
      go_wp2_with fail
      go_region_held3 (fun x => x.cell? ⟨w0.heap.size + 1 + 1, 4, none⟩ = some (.int .i64 (nR 4 L))) (first | exact d8 | exact (hx8.cell (p := ⟨w0.heap.size + 1 + 1, 4, none⟩) (Nat.lt_of_lt_of_le lt2 Q7.out.size)).trans d8) ((go_at_call 12; refine (reason_any (bk_drew1 (HS.out.bk.below Q7.out (Nat.le_refl _))) 4).mono ?_; rintro e w108 ⟨rfl, hx8⟩))
      have Q8 := Lib.hid (show Below wr.heap.size wr w108 from (Below.drew Q7.out).trans (hx8.mono Q7.out.size))
      clear hx8 d8
      go_wp2_with fail
      rw [rounds_succ]
      have d9 : w108.cell? ⟨w0.heap.size + 1 + 1, 5, none⟩ = some (.int .i64 (nR 5 L)) := (HS.out.rsn.below Q8.out (Nat.lt_of_lt_of_le lt2 (Nat.le_refl _))).cell 5
      go_wp2_with fail
      go_region_held3 (fun x => x.cell? ⟨w0.heap.size + 1 + 1, 5, none⟩ = some (.int .i64 (nR 5 L))) (first | exact d9 | exact (hx9.cell (p := ⟨w0.heap.size + 1 + 1, 5, none⟩) (Nat.lt_of_lt_of_le lt2 Q8.out.size)).trans d9) ((go_at_call 12; refine (reason_any (bk_drew1 (HS.out.bk.below Q8.out (Nat.le_refl _))) 5).mono ?_; rintro e w109 ⟨rfl, hx9⟩))
      have Q9 := Lib.hid (show Below wr.heap.size wr w109 from (Below.drew Q8.out).trans (hx9.mono Q8.out.size))
      clear hx9 d9
      go_wp2_with fail
      rw [rounds_succ]
      go_wp2_with fail
      refine (len_any (HS.out.bk.below Q9.out (Nat.le_refl _))).mono ?_
      rintro e w110 ⟨rfl, rfl⟩
      rw [HLl.out]
      go_wp2_with fail
      refine (ok_any (HS.out.bk.below Q9.out (Nat.le_refl _)) HG.out (by rw [HLl.out]; omega)).mono ?_
      rintro e w120 ⟨rfl, hx10⟩
      have Q10 := Lib.hid (Q9.out.trans (hx10.mono Q9.out.size))
      clear hx10
      go_wp2_with fail
      refine (class_any (HS.out.bk.below Q10.out (Nat.le_refl _)) 0).mono ?_
      rintro e w121 ⟨rfl, hx11⟩
      rw [n0]
      have Q11 := Lib.hid (Q10.out.trans (hx11.mono Q10.out.size))
      clear hx11
      go_wp2_with fail
      refine (reason_any (HS.out.bk.below Q11.out (Nat.le_refl _)) 6).mono ?_
      rintro e w122 ⟨rfl, hx12⟩
      rw [n6]
      have Q12 := Lib.hid (Q11.out.trans (hx12.mono Q11.out.size))
      clear hx12
      go_wp2_with fail
      go_ret
      exact ⟨rfl, HS.out.bel.trans (Q12.out.mono SZ)⟩
end Go.Proofs.YthppbicfemgoaaaDoor
