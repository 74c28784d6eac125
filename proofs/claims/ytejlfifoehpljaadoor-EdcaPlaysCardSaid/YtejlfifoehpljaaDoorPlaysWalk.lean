/-
  The walk of EdcaPlays.
-/
import Derived.Test.YtejlfifoehpljaaDoorDos
import Derived.Test.YtejlfifoehpljaaDoorRefContend
import Derived.Test.YtejlfifoehpljaaDoorEdcaLaw
import Derived.Test.YtejlfifoehpljaaDoorSee
import Derived.Deep.MidRow
namespace Go.Proofs.YtejlfifoehpljaaDoor
open Go.ChangeShapes Go.WideShapes Go.ChangeAt Go.RowKit
open Edca
set_option linter.unusedVariables false

theorem list_load_mid {P : Program} {ops : Array Oper} {rest : List Oper} {op : Oper} {a : Act} {w : World} {Q : Exit → Act → World → Prop} (hgd : Region.wanted op (yielded ops a.tmps) = true) (ty : TypeId) (x : Operand) (ho : op.op = .load ty x)
    (b o : Nat) (hx : a.eval x = .pointer (some ⟨b, o, none⟩)) (cs : List Value) (d : TypeDesc) (hc : w.rangeAt b o cs)
    (hu : P.underlying ty = some d) (hd : d.isRow = true) (hi : (P.info? ty).map (·.size) = some cs.length)
    (h : wpList P ops Q rest (a.put op.dst (.agg cs.toArray)) w) : wpList P ops Q (op :: rest) a w := by
  refine wpList_step fun K hK => ?_
  rw [if_pos hgd]
  exact wp_load_mid ty x ho b o hx cs d hc hu hd hi (hK _ _ h)
theorem Blk.range {w : World} {n : Nat} {cs : Array Value} {t : TypeId} (h : Blk w n cs t) (o : Nat) (l : List Value) (hl : (cs.toList.drop o).take l.length = l) : w.rangeAt n o l := by
  intro j v hv
  rw [h.cell, ← Array.getElem?_toList]
  rw [← hl, List.getElem?_take, List.getElem?_drop] at hv
  split at hv
  · exact hv
  · cases hv
theorem docells_one (x : DoR) : (docells x).all (·.oneCell') = true := by simp [docells, Value.oneCell']
theorem do_range {w : World} {b o : Nat} {x : DoR} (h : ∀ j v, (docells x)[j]? = some v → w.cell? ⟨b, o + j, none⟩ = some v) : w.rangeAt b o (docells x).toList := fun j v hv => h j v (by rw [← Array.getElem?_toList]; exact hv)

/-- what holds of the program's counters and the document's between two things -/
def Both (w : World) (B X : Nat) (s : St) (d : Nat → Int) : Prop :=
  Blk w B (ecells s.h s.l s.g) 30 ∧ Blk w X (rcells d (ctOf s.h s.l)) 46
def Good (s : St) (d : Nat → Int) : Prop := Inv s ∧ ∀ k, k < 4 → max (d k) (fs k) = fs k + s.g k

theorem good_ill {s : St} {d : Nat → Int} (h : Good s d) {k : Nat} (hk : k < 4) : Good { h := s.h, l := s.l, g := upd s.g k (grown s.g k) } (upd d k (min (2 * (fs k + s.g k) + 1) (ms k))) := by
  have hgn := grown_bounds hk (h.1 k hk).2.2.1 (h.1 k hk).2.2.2
  refine ⟨fun i hi => ?_, fun i hi => ?_⟩
  · refine ⟨(h.1 i hi).1, (h.1 i hi).2.1, ?_⟩
    show 0 ≤ upd s.g k (grown s.g k) i ∧ upd s.g k (grown s.g k) i ≤ ms i - fs i
    by_cases e : i = k
    · subst e; rw [upd_at]; exact hgn
    · rw [upd_ne _ _ e]; exact (h.1 i hi).2.2
  · show max (upd d k (min (2 * (fs k + s.g k) + 1) (ms k)) i) (fs i) = fs i + upd s.g k (grown s.g k) i
    by_cases e : i = k
    · subst e
      rw [upd_at, upd_at]
      have hg := (h.1 i hi).2.2
      have : fs i ≤ ms i ∧ 3 ≤ fs i := by rcases (show i = 0 ∨ i = 1 ∨ i = 2 ∨ i = 3 by omega) with rfl | rfl | rfl | rfl <;> decide
      unfold grown win
      omega
    · rw [upd_ne _ _ e, upd_ne _ _ e]; exact h.2 i hi
theorem good_well {s : St} {d : Nat → Int} (h : Good s d) {k : Nat} (hk : k < 4) : Good { h := s.h, l := s.l, g := upd s.g k 0 } (upd d k 0) := by
  refine ⟨fun i hi => ?_, fun i hi => ?_⟩
  · refine ⟨(h.1 i hi).1, (h.1 i hi).2.1, ?_⟩
    show 0 ≤ upd s.g k 0 i ∧ upd s.g k 0 i ≤ ms i - fs i
    by_cases e : i = k
    · subst e; rw [upd_at]
      have : fs i ≤ ms i := by rcases (show i = 0 ∨ i = 1 ∨ i = 2 ∨ i = 3 by omega) with rfl | rfl | rfl | rfl <;> decide
      omega
    · rw [upd_ne _ _ e]; exact (h.1 i hi).2.2
  · show max (upd d k 0 i) (fs i) = fs i + upd s.g k 0 i
    by_cases e : i = k
    · subst e
      rw [upd_at, upd_at]
      have : 3 ≤ fs i := by rcases (show i = 0 ∨ i = 1 ∨ i = 2 ∨ i = 3 by omega) with rfl | rfl | rfl | rfl <;> decide
      omega
    · rw [upd_ne _ _ e, upd_ne _ _ e]; exact h.2 i hi

set_option maxRecDepth 100000 in
set_option maxHeartbeats 4000000 in
theorem edcaPlays_walk (w : World) {E : Nat → Addr} (hE : Errs allErr w E) (A : Option Addr) (len cap : Nat) (F : Nat → DoR) (hd : Dos w A len F) :
    Calls Tryd.prog 4 #[.slice A len cap] w fun e w' => e = .returned (.bool true) ∧ Below w.heap.size w w' := by
  go_enter Tryd.func4, Tryd.ntmps4
  go_wp2_with fail
  refine (first_any _).mono ?_
  rintro en w1 ⟨rfl, hw1⟩
  have h1 := hE.below hw1 (Nat.le_refl _)
  have hd1 := hd.below hw1 (Nat.le_refl _)
  have hs1 := hw1.size
  by_cases hbig : 100 < (len : Int)
  · go_wp2_with fail
    go_ret
    exact ⟨rfl, hw1⟩
  have hkE : Blk ((w1.alloc (.cells (ecells (fun _ => false) (fun _ => 0) (fun _ => 0)) 30)).alloc (.cells (rcells (fun _ => 0) (fun _ => 0)) 46)) w1.heap.size (ecells (fun _ => false) (fun _ => 0) (fun _ => 0)) 30 := (Blk.new w1 _ _).alloc _
  have hkX : Blk ((w1.alloc (.cells (ecells (fun _ => false) (fun _ => 0) (fun _ => 0)) 30)).alloc (.cells (rcells (fun _ => 0) (fun _ => 0)) 46)) (w1.heap.size + 1) (rcells (fun _ => 0) (fun _ => 0)) 46 := by
    have := Blk.new (w1.alloc (.cells (ecells (fun _ => false) (fun _ => 0) (fun _ => 0)) 30)) (rcells (fun _ => 0) (fun _ => 0)) 46
    simpa using this
  have hb0 : Below w1.heap.size w1 ((w1.alloc (.cells (ecells (fun _ => false) (fun _ => 0) (fun _ => 0)) 30)).alloc (.cells (rcells (fun _ => 0) (fun _ => 0)) 46)) := ((Below.refl _ _).alloc (Nat.le_refl _) _).alloc (by simp) _
  unfold ecells rcells at hkE hkX hb0
  have HD1 := Lib.hid hd1
  have HE1 := Lib.hid h1
  have HW1 := Lib.hid hw1
  clear hd hE h1 hd1 hw1
  go_wp2_with fail
  generalize (w1.alloc _).alloc _ = W at *
  replace hkE : Blk W w1.heap.size (ecells s0.h s0.l s0.g) 30 := hkE
  replace hkX : Blk W (w1.heap.size + 1) (rcells (fun _ => 0) (ctOf s0.h s0.l)) 46 := hkX
  go_loopw [6] (fun i wr => ∃ k : Nat, k ≤ len ∧ i = .int .i64 k ∧ ∃ s d, Hid (Good s d) ∧ Hid (Both wr w1.heap.size (w1.heap.size + 1) s d) ∧ Hid (Below w1.heap.size w1 wr)) (fun i _ => len - (intOf i).toNat)
  case atStart => exact ⟨0, by omega, rfl, s0, fun _ => 0, Lib.hid ⟨inv0, by intro k hk; rcases (show k = 0 ∨ k = 1 ∨ k = 2 ∨ k = 3 by omega) with rfl | rfl | rfl | rfl <;> decide⟩, Lib.hid ⟨hkE, hkX⟩, Lib.hid hb0⟩
  case round =>
    obtain ⟨i, hi, rfl, s, d, hG, hBo, hbx⟩ := hrel
    by_cases hlt : (i : Int) < (len : Int)
    · obtain ⟨b, off, hA, hb, hcells, hok⟩ := HD1.out.below hbx.out (Nat.le_refl _) i (by omega)
      subst hA
      generalize F i = x at *
      have i0 : (0 : Int) ≤ (i : Int) := by omega
      have hsx := hbx.out.size
      go_wp2_with (first
        | (refine list_load_mid (by rfl) 48 _ rfl b (off + i * 11) rfl (docells x).toList _ (do_range hcells) Tryd.underlying48 rfl (by kernel_rfl) ?_)
        | (refine wpList_store_blk _ (by rfl) 48 _ _ rfl wr.heap.size (docells x) rfl rfl 48 _ (Blk.new _ _ _) (by kernel_rfl) rfl (docells_one x) ?_; intro w2 hk2 hg2))
      have hb2 := Lib.hid (Below.grown (hbx.out.alloc hsx _) hg2 (by simp; omega) (by simp; omega))
      have hbr2 : Below wr.heap.size wr w2 := Below.grown ((Below.refl _ _).alloc (Nat.le_refl _) _) hg2 (by simp) (by simp)
      have hE2 := hBo.out.1.below hbr2 hBo.out.1.lt
      have hX2 := hBo.out.2.below hbr2 hBo.out.2.lt
      have hlx := hBo.out.2.lt
      have hs2 := hbr2.size
      have hlD := hk2.lt
      clear hcells hbr2 hg2
      refine (eclone_any w1.heap.size s.h s.l s.g _ hE2).mono ?_
      rintro en w3 ⟨rfl, hC3, hw3⟩
      have hE3 := hE2.below hw3 hE2.lt
      have hX3 := hX2.below hw3 hX2.lt
      have hD3 := hk2.below hw3 hk2.lt
      have hb3 := Lib.hid (hb2.out.trans (hw3.mono (by have := hb2.out.size; omega)))
      have hl3 := hC3.lt
      have hg1 : 0 ≤ s.g 1 ∧ s.g 1 ≤ 48 := (hG.out.1 1 (by omega)).2.2
      clear hE2 hX2 hk2 hw3
      go_wp2_with fail
      refine (window_any w2.heap.size 1 (by omega) (s.g 1) hg1.1 (by omega) _ hl3 (hC3.cell 5)).mono ?_
      rintro en w4 ⟨rfl, hw4⟩
      have hE4 := hE3.below hw4 hE3.lt
      have hX4 := hX3.below hw4 hX3.lt
      have hD4 := hD3.below hw4 hD3.lt
      have hC4 := hC3.below hw4 hC3.lt
      have hb4 := Lib.hid (hb3.out.trans (hw4.mono (by have := hb3.out.size; omega)))
      have cD0 : w4.cell? ⟨wr.heap.size, 0, none⟩ = some (.int .i64 x.kind) := hD4.cell 0
      clear hE3 hX3 hD3 hC3 hw4
      by_cases hkind : x.kind = 1
      · have hkind' : (x.kind == 1) = true := by simpa using hkind
        go_wp2_with (first
          | (refine list_load_mid (by rfl) 31 _ rfl wr.heap.size 3 rfl [.bool (x.rd 0), .bool (x.rd 1), .bool (x.rd 2), .bool (x.rd 3)] _ (hD4.range 3 _ (by rfl)) Tryd.underlying31 rfl (by kernel_rfl) ?_)
          | (refine list_load_mid (by rfl) 32 _ rfl wr.heap.size 7 rfl [.int .u32 (x.dr 0), .int .u32 (x.dr 1), .int .u32 (x.dr 2), .int .u32 (x.dr 3)] _ (hD4.range 7 _ (by rfl)) Tryd.underlying32 rfl (by kernel_rfl) ?_))
        refine (contend_any w1.heap.size x.rd x.dr s hG.out.1 hok.2.2 _ hE4).mono ?_
        rintro en w5 ⟨rfl, hE5, hg5⟩
        have hX5 := hX4.grown hg5 (by simp)
        have hD5 := hD4.grown hg5 (by simp; omega)
        have hC5 := hC4.grown hg5 (by simp; omega)
        have hb5 := Lib.hid (Below.grown hb4.out hg5 (by have := hb4.out.size; omega) (by simp))
        clear hX4 hD4 hC4 hE4 hg5 cD0
        go_wp2_with (first
          | (refine list_load_mid (by rfl) 31 _ rfl wr.heap.size 3 rfl [.bool (x.rd 0), .bool (x.rd 1), .bool (x.rd 2), .bool (x.rd 3)] _ (hD5.range 3 _ (by rfl)) Tryd.underlying31 rfl (by kernel_rfl) ?_)
          | (refine list_load_mid (by rfl) 32 _ rfl wr.heap.size 7 rfl [.int .u32 (x.dr 0), .int .u32 (x.dr 1), .int .u32 (x.dr 2), .int .u32 (x.dr 3)] _ (hD5.range 7 _ (by rfl)) Tryd.underlying32 rfl (by kernel_rfl) ?_))
        refine (rcontend_any (w1.heap.size + 1) x.rd x.dr s hG.out.1 hok.2.2 d hG.out.2 _ hX5).mono ?_
        rintro en w6 ⟨rfl, ⟨d', hd', hX6⟩, hg6⟩
        have hE6 := hE5.grown hg6 (by simp)
        have hC6 := hC5.grown hg6 (by simp; omega)
        have hb6 := Lib.hid (Below.grown hb5.out hg6 (by have := hb5.out.size; omega) (by simp))
        have hG6 : Hid (Good (conS x.rd x.dr s) d') := Lib.hid ⟨conS_inv hG.out.1, hd'⟩
        clear hX5 hD5 hC5 hE5 hg6 hd'
        generalize conS x.rd x.dr s = s6 at *
        generalize conW x.rd x.dr s = cw at *
        generalize conT x.rd x.dr s = ct at *
        generalize conB x.rd x.dr s = cb at *
        as_aux_lemma =>
          have HE7 := Lib.hid hE6
          have HX7 := Lib.hid hX6
          have HC7 := Lib.hid hC6
          have hsz7 := hb6.out.size
          have hlE7 := HE7.out.lt
          have hlX7 := HX7.out.lt
          have hlC7 := HC7.out.lt
          go_wp2_with fail
          go_loopw [16] (fun q wr => ∃ m : Nat, m ≤ 6 ∧ q = .int .i64 ((m : Int) - 1) ∧ Hid (Below w6.heap.size w6 wr)) (fun q _ => 6 - (intOf q + 1).toNat)
          case atStart => exact ⟨0, by omega, rfl, Lib.hid (Below.refl _ _)⟩
          case round =>
            obtain ⟨m, hm, rfl, hI⟩ := hrel
            have hszI := hI.out.size
            rcases (show m = 6 ∨ m = 0 ∨ m = 5 ∨ m = 1 ∨ m = 2 ∨ m = 3 ∨ m = 4 by omega) with rfl | rfl | rfl | rfl | rfl | rfl | rfl
            · as_aux_lemma =>
                have hcI := HC7.out.below hI.out hlC7
                go_wp2_with fail
                refine (window_any w2.heap.size 1 (by omega) (s.g 1) hg1.1 (by omega) _ hcI.lt (hcI.cell 5)).mono ?_
                rintro en w8 ⟨rfl, hw8⟩
                have hb8 := hI.out.trans (hw8.mono (by omega))
                go_wp2_with fail
                go_roundw
                case rel => exact ⟨i + 1, by omega, by go_num, s6, d', hG6, Lib.hid ⟨HE7.out.below hb8 hlE7, HX7.out.below hb8 hlX7⟩, Lib.hid (hb6.out.trans (hb8.mono (by omega)))⟩
                case measure => simp [intOf]; omega
            · as_aux_lemma =>
                go_wp2_with fail
                refine (left_bad w1.heap.size (-1) (by omega) _).mono ?_
                rintro en w8 ⟨rfl, rfl⟩
                go_wp2_with fail
                refine (window_bad w1.heap.size (-1) (by omega) _).mono ?_
                rintro en w8 ⟨rfl, rfl⟩
                go_wp2_with fail
                refine (rwindow_bad (w1.heap.size + 1) (-1) (by omega) _).mono ?_
                rintro en w8 ⟨rfl, rfl⟩
                go_wp2_with fail
                go_roundw
                case rel => exact ⟨1, by omega, rfl, hI⟩
                case measure => simp [intOf]
            · as_aux_lemma =>
                go_wp2_with fail
                refine (left_bad w1.heap.size (4) (by omega) _).mono ?_
                rintro en w8 ⟨rfl, rfl⟩
                go_wp2_with fail
                refine (window_bad w1.heap.size (4) (by omega) _).mono ?_
                rintro en w8 ⟨rfl, rfl⟩
                go_wp2_with fail
                refine (rwindow_bad (w1.heap.size + 1) (4) (by omega) _).mono ?_
                rintro en w8 ⟨rfl, rfl⟩
                go_wp2_with fail
                go_roundw
                case rel => exact ⟨6, by omega, rfl, hI⟩
                case measure => simp [intOf]
            · as_aux_lemma =>
                have heI := HE7.out.below hI.out hlE7
                have hxI := HX7.out.below hI.out hlX7
                obtain ⟨hl0, hl1, hgk0, hgk1⟩ := hG6.out.1 0 (by omega)
                have hdk := hG6.out.2 0 (by omega)
                have hgk2 : s6.g 0 ≤ 1020 := by have : ms 0 - fs 0 ≤ 1020 := (by decide); omega
                have cX : wr.cell? ⟨w1.heap.size + 1, 4, none⟩ = some (.int .i64 (ctOf s6.h s6.l 0)) := hxI.cell 4
                have q1 : IntKind.i64.wrap (s6.l 0 + 1 - 1) = s6.l 0 := by rw [show s6.l 0 + 1 - 1 = s6.l 0 by omega]; exact IntWalk.i64_in _ (by omega)
                have q2 : IntKind.i64.wrap (s6.l 0) = s6.l 0 := IntWalk.i64_in _ (by omega)
                have q3 : ¬ s6.l 0 + 1 ≤ 0 := by omega
                have q4 : 0 < s6.l 0 + 1 := by omega
                cases hhk : s6.h 0
                all_goals
                  first
                  | rw [ctOf_yes hhk] at cX
                  | rw [ctOf_no hhk] at cX
                  go_wp2_with fail
                  refine (left_any w1.heap.size 0 (by omega) (s6.h 0) (s6.l 0) _ (heI.cell 0) (heI.cell 1)).mono ?_
                  rintro en w8 ⟨rfl, rfl⟩
                  rw [hhk]
                  go_wp2_with fail
                  refine (window_any w1.heap.size 0 (by omega) (s6.g 0) hgk0 hgk2 _ heI.lt (heI.cell 2)).mono ?_
                  rintro en w8 ⟨rfl, hw8⟩
                  have hx8 := hxI.below hw8 hxI.lt
                  have cX8 := (hw8.cell (p := ⟨w1.heap.size + 1, 4, none⟩) hxI.lt).trans cX
                  go_wp2_with fail
                  refine (rwindow_any (w1.heap.size + 1) 0 (by omega) (d' 0) (s6.g 0) hdk _ hx8.lt (hx8.cell 0)).mono ?_
                  rintro en w9 ⟨rfl, hw9⟩
                  have cX9 := (hw9.cell (p := ⟨w1.heap.size + 1, 4, none⟩) hx8.lt).trans cX8
                  have hI9 := Lib.hid ((hI.out.trans (hw8.mono (by omega))).trans (hw9.mono (by have := hw8.size; omega)))
                  clear hw8 hw9 heI hxI hx8 cX cX8
                  go_wp2_with fail
                  go_roundw
                  case rel => exact ⟨2, by omega, rfl, hI9⟩
                  case measure => simp [intOf]
            · as_aux_lemma =>
                have heI := HE7.out.below hI.out hlE7
                have hxI := HX7.out.below hI.out hlX7
                obtain ⟨hl0, hl1, hgk0, hgk1⟩ := hG6.out.1 1 (by omega)
                have hdk := hG6.out.2 1 (by omega)
                have hgk2 : s6.g 1 ≤ 1020 := by have : ms 1 - fs 1 ≤ 1020 := (by decide); omega
                have cX : wr.cell? ⟨w1.heap.size + 1, 5, none⟩ = some (.int .i64 (ctOf s6.h s6.l 1)) := hxI.cell 5
                have q1 : IntKind.i64.wrap (s6.l 1 + 1 - 1) = s6.l 1 := by rw [show s6.l 1 + 1 - 1 = s6.l 1 by omega]; exact IntWalk.i64_in _ (by omega)
                have q2 : IntKind.i64.wrap (s6.l 1) = s6.l 1 := IntWalk.i64_in _ (by omega)
                have q3 : ¬ s6.l 1 + 1 ≤ 0 := by omega
                have q4 : 0 < s6.l 1 + 1 := by omega
                cases hhk : s6.h 1
                all_goals
                  first
                  | rw [ctOf_yes hhk] at cX
                  | rw [ctOf_no hhk] at cX
                  go_wp2_with fail
                  refine (left_any w1.heap.size 1 (by omega) (s6.h 1) (s6.l 1) _ (heI.cell 3) (heI.cell 4)).mono ?_
                  rintro en w8 ⟨rfl, rfl⟩
                  rw [hhk]
                  go_wp2_with fail
                  refine (window_any w1.heap.size 1 (by omega) (s6.g 1) hgk0 hgk2 _ heI.lt (heI.cell 5)).mono ?_
                  rintro en w8 ⟨rfl, hw8⟩
                  have hx8 := hxI.below hw8 hxI.lt
                  have cX8 := (hw8.cell (p := ⟨w1.heap.size + 1, 5, none⟩) hxI.lt).trans cX
                  go_wp2_with fail
                  refine (rwindow_any (w1.heap.size + 1) 1 (by omega) (d' 1) (s6.g 1) hdk _ hx8.lt (hx8.cell 1)).mono ?_
                  rintro en w9 ⟨rfl, hw9⟩
                  have cX9 := (hw9.cell (p := ⟨w1.heap.size + 1, 5, none⟩) hx8.lt).trans cX8
                  have hI9 := Lib.hid ((hI.out.trans (hw8.mono (by omega))).trans (hw9.mono (by have := hw8.size; omega)))
                  clear hw8 hw9 heI hxI hx8 cX cX8
                  go_wp2_with fail
                  go_roundw
                  case rel => exact ⟨3, by omega, rfl, hI9⟩
                  case measure => simp [intOf]
            · as_aux_lemma =>
                have heI := HE7.out.below hI.out hlE7
                have hxI := HX7.out.below hI.out hlX7
                obtain ⟨hl0, hl1, hgk0, hgk1⟩ := hG6.out.1 2 (by omega)
                have hdk := hG6.out.2 2 (by omega)
                have hgk2 : s6.g 2 ≤ 1020 := by have : ms 2 - fs 2 ≤ 1020 := (by decide); omega
                have cX : wr.cell? ⟨w1.heap.size + 1, 6, none⟩ = some (.int .i64 (ctOf s6.h s6.l 2)) := hxI.cell 6
                have q1 : IntKind.i64.wrap (s6.l 2 + 1 - 1) = s6.l 2 := by rw [show s6.l 2 + 1 - 1 = s6.l 2 by omega]; exact IntWalk.i64_in _ (by omega)
                have q2 : IntKind.i64.wrap (s6.l 2) = s6.l 2 := IntWalk.i64_in _ (by omega)
                have q3 : ¬ s6.l 2 + 1 ≤ 0 := by omega
                have q4 : 0 < s6.l 2 + 1 := by omega
                cases hhk : s6.h 2
                all_goals
                  first
                  | rw [ctOf_yes hhk] at cX
                  | rw [ctOf_no hhk] at cX
                  go_wp2_with fail
                  refine (left_any w1.heap.size 2 (by omega) (s6.h 2) (s6.l 2) _ (heI.cell 6) (heI.cell 7)).mono ?_
                  rintro en w8 ⟨rfl, rfl⟩
                  rw [hhk]
                  go_wp2_with fail
                  refine (window_any w1.heap.size 2 (by omega) (s6.g 2) hgk0 hgk2 _ heI.lt (heI.cell 8)).mono ?_
                  rintro en w8 ⟨rfl, hw8⟩
                  have hx8 := hxI.below hw8 hxI.lt
                  have cX8 := (hw8.cell (p := ⟨w1.heap.size + 1, 6, none⟩) hxI.lt).trans cX
                  go_wp2_with fail
                  refine (rwindow_any (w1.heap.size + 1) 2 (by omega) (d' 2) (s6.g 2) hdk _ hx8.lt (hx8.cell 2)).mono ?_
                  rintro en w9 ⟨rfl, hw9⟩
                  have cX9 := (hw9.cell (p := ⟨w1.heap.size + 1, 6, none⟩) hx8.lt).trans cX8
                  have hI9 := Lib.hid ((hI.out.trans (hw8.mono (by omega))).trans (hw9.mono (by have := hw8.size; omega)))
                  clear hw8 hw9 heI hxI hx8 cX cX8
                  go_wp2_with fail
                  go_roundw
                  case rel => exact ⟨4, by omega, rfl, hI9⟩
                  case measure => simp [intOf]
            · as_aux_lemma =>
                have heI := HE7.out.below hI.out hlE7
                have hxI := HX7.out.below hI.out hlX7
                obtain ⟨hl0, hl1, hgk0, hgk1⟩ := hG6.out.1 3 (by omega)
                have hdk := hG6.out.2 3 (by omega)
                have hgk2 : s6.g 3 ≤ 1020 := by have : ms 3 - fs 3 ≤ 1020 := (by decide); omega
                have cX : wr.cell? ⟨w1.heap.size + 1, 7, none⟩ = some (.int .i64 (ctOf s6.h s6.l 3)) := hxI.cell 7
                have q1 : IntKind.i64.wrap (s6.l 3 + 1 - 1) = s6.l 3 := by rw [show s6.l 3 + 1 - 1 = s6.l 3 by omega]; exact IntWalk.i64_in _ (by omega)
                have q2 : IntKind.i64.wrap (s6.l 3) = s6.l 3 := IntWalk.i64_in _ (by omega)
                have q3 : ¬ s6.l 3 + 1 ≤ 0 := by omega
                have q4 : 0 < s6.l 3 + 1 := by omega
                cases hhk : s6.h 3
                all_goals
                  first
                  | rw [ctOf_yes hhk] at cX
                  | rw [ctOf_no hhk] at cX
                  go_wp2_with fail
                  refine (left_any w1.heap.size 3 (by omega) (s6.h 3) (s6.l 3) _ (heI.cell 9) (heI.cell 10)).mono ?_
                  rintro en w8 ⟨rfl, rfl⟩
                  rw [hhk]
                  go_wp2_with fail
                  refine (window_any w1.heap.size 3 (by omega) (s6.g 3) hgk0 hgk2 _ heI.lt (heI.cell 11)).mono ?_
                  rintro en w8 ⟨rfl, hw8⟩
                  have hx8 := hxI.below hw8 hxI.lt
                  have cX8 := (hw8.cell (p := ⟨w1.heap.size + 1, 7, none⟩) hxI.lt).trans cX
                  go_wp2_with fail
                  refine (rwindow_any (w1.heap.size + 1) 3 (by omega) (d' 3) (s6.g 3) hdk _ hx8.lt (hx8.cell 3)).mono ?_
                  rintro en w9 ⟨rfl, hw9⟩
                  have cX9 := (hw9.cell (p := ⟨w1.heap.size + 1, 7, none⟩) hx8.lt).trans cX8
                  have hI9 := Lib.hid ((hI.out.trans (hw8.mono (by omega))).trans (hw9.mono (by have := hw8.size; omega)))
                  clear hw8 hw9 heI hxI hx8 cX cX8
                  go_wp2_with fail
                  go_roundw
                  case rel => exact ⟨5, by omega, rfl, hI9⟩
                  case measure => simp [intOf]
      · have hkind' : (x.kind == 1) = false := by simpa using hkind
        have d1 : w4.cell? ⟨wr.heap.size, 1, none⟩ = some (.int .i64 x.ac) := hD4.cell 1
        have d2 : w4.cell? ⟨wr.heap.size, 2, none⟩ = some (.bool x.well) := hD4.cell 2
        have h4 := HE1.out.below hb4.out (Nat.le_refl _)
        have hlD4 := hD4.lt
        by_cases hbad : x.ac < 0 ∨ 4 ≤ x.ac
        · have hIs : (errCode (some 2) == 103) = true := rfl
          clear hlD4
          have hlD4 := hD4.lt
          go_wp2_with fail
          go_region_held3 (fun w' => w'.cell? ⟨wr.heap.size, 1, none⟩ = some (.int .i64 x.ac) ∧ w'.cell? ⟨wr.heap.size, 2, none⟩ = some (.bool x.well))
            (first | exact ⟨d1, d2⟩ | exact ⟨(hw6.cell (p := ⟨wr.heap.size, 1, none⟩) hlD4).trans d1, (hw6.cell (p := ⟨wr.heap.size, 2, none⟩) hlD4).trans d2⟩)
            (first
              | (go_at_call 9; refine (end_bad w1.heap.size x.ac hbad x.well w4.drew h4.drew).mono ?_; rintro e w5 ⟨rfl, rfl⟩)
              | (go_at_call 13; refine (rend_bad (w1.heap.size + 1) x.ac hbad x.well w4.drew).mono ?_; rintro e w5 ⟨rfl, rfl⟩)
              | (go_at_call 10; refine (is_any h4.drew (some 2) ?_ 103).mono ?_; (intro i hi; cases hi; decide); rintro e w6 ⟨rfl, hw6⟩))
          have hb6 := Lib.hid (hb4.out.trans (((below_drewN (w := w4) 1).trans hw6).mono hb4.out.size))
          have hE6 := Blk.below (w := w4.drew) hE4 hw6 hE4.lt
          have hX6 := Blk.below (w := w4.drew) hX4 hw6 hX4.lt
          have hC6 := Blk.below (w := w4.drew) hC4 hw6 hC4.lt
          clear hE4 hX4 hC4 hD4 cD0 d1 d2 h4 hw6
          as_aux_lemma =>
            have HE7 := Lib.hid hE6
            have HX7 := Lib.hid hX6
            have HC7 := Lib.hid hC6
            have hsz7 := hb6.out.size
            have hlE7 := HE7.out.lt
            have hlX7 := HX7.out.lt
            have hlC7 := HC7.out.lt
            go_wp2_with fail
            go_loopw [16] (fun q wr => ∃ m : Nat, m ≤ 6 ∧ q = .int .i64 ((m : Int) - 1) ∧ Hid (Below w6.heap.size w6 wr)) (fun q _ => 6 - (intOf q + 1).toNat)
            case atStart => exact ⟨0, by omega, rfl, Lib.hid (Below.refl _ _)⟩
            case round =>
              obtain ⟨m, hm, rfl, hI⟩ := hrel
              have hszI := hI.out.size
              rcases (show m = 6 ∨ m = 0 ∨ m = 5 ∨ m = 1 ∨ m = 2 ∨ m = 3 ∨ m = 4 by omega) with rfl | rfl | rfl | rfl | rfl | rfl | rfl
              · as_aux_lemma =>
                  have hcI := HC7.out.below hI.out hlC7
                  go_wp2_with fail
                  refine (window_any w2.heap.size 1 (by omega) (s.g 1) hg1.1 (by omega) _ hcI.lt (hcI.cell 5)).mono ?_
                  rintro en w8 ⟨rfl, hw8⟩
                  have hb8 := hI.out.trans (hw8.mono (by omega))
                  go_wp2_with fail
                  go_roundw
                  case rel => exact ⟨i + 1, by omega, by go_num, s, d, hG, Lib.hid ⟨HE7.out.below hb8 hlE7, HX7.out.below hb8 hlX7⟩, Lib.hid (hb6.out.trans (hb8.mono (by omega)))⟩
                  case measure => simp [intOf]; omega
              · as_aux_lemma =>
                  go_wp2_with fail
                  refine (left_bad w1.heap.size (-1) (by omega) _).mono ?_
                  rintro en w8 ⟨rfl, rfl⟩
                  go_wp2_with fail
                  refine (window_bad w1.heap.size (-1) (by omega) _).mono ?_
                  rintro en w8 ⟨rfl, rfl⟩
                  go_wp2_with fail
                  refine (rwindow_bad (w1.heap.size + 1) (-1) (by omega) _).mono ?_
                  rintro en w8 ⟨rfl, rfl⟩
                  go_wp2_with fail
                  go_roundw
                  case rel => exact ⟨1, by omega, rfl, hI⟩
                  case measure => simp [intOf]
              · as_aux_lemma =>
                  go_wp2_with fail
                  refine (left_bad w1.heap.size (4) (by omega) _).mono ?_
                  rintro en w8 ⟨rfl, rfl⟩
                  go_wp2_with fail
                  refine (window_bad w1.heap.size (4) (by omega) _).mono ?_
                  rintro en w8 ⟨rfl, rfl⟩
                  go_wp2_with fail
                  refine (rwindow_bad (w1.heap.size + 1) (4) (by omega) _).mono ?_
                  rintro en w8 ⟨rfl, rfl⟩
                  go_wp2_with fail
                  go_roundw
                  case rel => exact ⟨6, by omega, rfl, hI⟩
                  case measure => simp [intOf]
              · as_aux_lemma =>
                  have heI := HE7.out.below hI.out hlE7
                  have hxI := HX7.out.below hI.out hlX7
                  obtain ⟨hl0, hl1, hgk0, hgk1⟩ := hG.out.1 0 (by omega)
                  have hdk := hG.out.2 0 (by omega)
                  have hgk2 : s.g 0 ≤ 1020 := by have : ms 0 - fs 0 ≤ 1020 := (by decide); omega
                  have cX : wr.cell? ⟨w1.heap.size + 1, 4, none⟩ = some (.int .i64 (ctOf s.h s.l 0)) := hxI.cell 4
                  have q1 : IntKind.i64.wrap (s.l 0 + 1 - 1) = s.l 0 := by rw [show s.l 0 + 1 - 1 = s.l 0 by omega]; exact IntWalk.i64_in _ (by omega)
                  have q2 : IntKind.i64.wrap (s.l 0) = s.l 0 := IntWalk.i64_in _ (by omega)
                  have q3 : ¬ s.l 0 + 1 ≤ 0 := by omega
                  have q4 : 0 < s.l 0 + 1 := by omega
                  cases hhk : s.h 0
                  all_goals
                    first
                    | rw [ctOf_yes hhk] at cX
                    | rw [ctOf_no hhk] at cX
                    go_wp2_with fail
                    refine (left_any w1.heap.size 0 (by omega) (s.h 0) (s.l 0) _ (heI.cell 0) (heI.cell 1)).mono ?_
                    rintro en w8 ⟨rfl, rfl⟩
                    rw [hhk]
                    go_wp2_with fail
                    refine (window_any w1.heap.size 0 (by omega) (s.g 0) hgk0 hgk2 _ heI.lt (heI.cell 2)).mono ?_
                    rintro en w8 ⟨rfl, hw8⟩
                    have hx8 := hxI.below hw8 hxI.lt
                    have cX8 := (hw8.cell (p := ⟨w1.heap.size + 1, 4, none⟩) hxI.lt).trans cX
                    go_wp2_with fail
                    refine (rwindow_any (w1.heap.size + 1) 0 (by omega) (d 0) (s.g 0) hdk _ hx8.lt (hx8.cell 0)).mono ?_
                    rintro en w9 ⟨rfl, hw9⟩
                    have cX9 := (hw9.cell (p := ⟨w1.heap.size + 1, 4, none⟩) hx8.lt).trans cX8
                    have hI9 := Lib.hid ((hI.out.trans (hw8.mono (by omega))).trans (hw9.mono (by have := hw8.size; omega)))
                    clear hw8 hw9 heI hxI hx8 cX cX8
                    go_wp2_with fail
                    go_roundw
                    case rel => exact ⟨2, by omega, rfl, hI9⟩
                    case measure => simp [intOf]
              · as_aux_lemma =>
                  have heI := HE7.out.below hI.out hlE7
                  have hxI := HX7.out.below hI.out hlX7
                  obtain ⟨hl0, hl1, hgk0, hgk1⟩ := hG.out.1 1 (by omega)
                  have hdk := hG.out.2 1 (by omega)
                  have hgk2 : s.g 1 ≤ 1020 := by have : ms 1 - fs 1 ≤ 1020 := (by decide); omega
                  have cX : wr.cell? ⟨w1.heap.size + 1, 5, none⟩ = some (.int .i64 (ctOf s.h s.l 1)) := hxI.cell 5
                  have q1 : IntKind.i64.wrap (s.l 1 + 1 - 1) = s.l 1 := by rw [show s.l 1 + 1 - 1 = s.l 1 by omega]; exact IntWalk.i64_in _ (by omega)
                  have q2 : IntKind.i64.wrap (s.l 1) = s.l 1 := IntWalk.i64_in _ (by omega)
                  have q3 : ¬ s.l 1 + 1 ≤ 0 := by omega
                  have q4 : 0 < s.l 1 + 1 := by omega
                  cases hhk : s.h 1
                  all_goals
                    first
                    | rw [ctOf_yes hhk] at cX
                    | rw [ctOf_no hhk] at cX
                    go_wp2_with fail
                    refine (left_any w1.heap.size 1 (by omega) (s.h 1) (s.l 1) _ (heI.cell 3) (heI.cell 4)).mono ?_
                    rintro en w8 ⟨rfl, rfl⟩
                    rw [hhk]
                    go_wp2_with fail
                    refine (window_any w1.heap.size 1 (by omega) (s.g 1) hgk0 hgk2 _ heI.lt (heI.cell 5)).mono ?_
                    rintro en w8 ⟨rfl, hw8⟩
                    have hx8 := hxI.below hw8 hxI.lt
                    have cX8 := (hw8.cell (p := ⟨w1.heap.size + 1, 5, none⟩) hxI.lt).trans cX
                    go_wp2_with fail
                    refine (rwindow_any (w1.heap.size + 1) 1 (by omega) (d 1) (s.g 1) hdk _ hx8.lt (hx8.cell 1)).mono ?_
                    rintro en w9 ⟨rfl, hw9⟩
                    have cX9 := (hw9.cell (p := ⟨w1.heap.size + 1, 5, none⟩) hx8.lt).trans cX8
                    have hI9 := Lib.hid ((hI.out.trans (hw8.mono (by omega))).trans (hw9.mono (by have := hw8.size; omega)))
                    clear hw8 hw9 heI hxI hx8 cX cX8
                    go_wp2_with fail
                    go_roundw
                    case rel => exact ⟨3, by omega, rfl, hI9⟩
                    case measure => simp [intOf]
              · as_aux_lemma =>
                  have heI := HE7.out.below hI.out hlE7
                  have hxI := HX7.out.below hI.out hlX7
                  obtain ⟨hl0, hl1, hgk0, hgk1⟩ := hG.out.1 2 (by omega)
                  have hdk := hG.out.2 2 (by omega)
                  have hgk2 : s.g 2 ≤ 1020 := by have : ms 2 - fs 2 ≤ 1020 := (by decide); omega
                  have cX : wr.cell? ⟨w1.heap.size + 1, 6, none⟩ = some (.int .i64 (ctOf s.h s.l 2)) := hxI.cell 6
                  have q1 : IntKind.i64.wrap (s.l 2 + 1 - 1) = s.l 2 := by rw [show s.l 2 + 1 - 1 = s.l 2 by omega]; exact IntWalk.i64_in _ (by omega)
                  have q2 : IntKind.i64.wrap (s.l 2) = s.l 2 := IntWalk.i64_in _ (by omega)
                  have q3 : ¬ s.l 2 + 1 ≤ 0 := by omega
                  have q4 : 0 < s.l 2 + 1 := by omega
                  cases hhk : s.h 2
                  all_goals
                    first
                    | rw [ctOf_yes hhk] at cX
                    | rw [ctOf_no hhk] at cX
                    go_wp2_with fail
                    refine (left_any w1.heap.size 2 (by omega) (s.h 2) (s.l 2) _ (heI.cell 6) (heI.cell 7)).mono ?_
                    rintro en w8 ⟨rfl, rfl⟩
                    rw [hhk]
                    go_wp2_with fail
                    refine (window_any w1.heap.size 2 (by omega) (s.g 2) hgk0 hgk2 _ heI.lt (heI.cell 8)).mono ?_
                    rintro en w8 ⟨rfl, hw8⟩
                    have hx8 := hxI.below hw8 hxI.lt
                    have cX8 := (hw8.cell (p := ⟨w1.heap.size + 1, 6, none⟩) hxI.lt).trans cX
                    go_wp2_with fail
                    refine (rwindow_any (w1.heap.size + 1) 2 (by omega) (d 2) (s.g 2) hdk _ hx8.lt (hx8.cell 2)).mono ?_
                    rintro en w9 ⟨rfl, hw9⟩
                    have cX9 := (hw9.cell (p := ⟨w1.heap.size + 1, 6, none⟩) hx8.lt).trans cX8
                    have hI9 := Lib.hid ((hI.out.trans (hw8.mono (by omega))).trans (hw9.mono (by have := hw8.size; omega)))
                    clear hw8 hw9 heI hxI hx8 cX cX8
                    go_wp2_with fail
                    go_roundw
                    case rel => exact ⟨4, by omega, rfl, hI9⟩
                    case measure => simp [intOf]
              · as_aux_lemma =>
                  have heI := HE7.out.below hI.out hlE7
                  have hxI := HX7.out.below hI.out hlX7
                  obtain ⟨hl0, hl1, hgk0, hgk1⟩ := hG.out.1 3 (by omega)
                  have hdk := hG.out.2 3 (by omega)
                  have hgk2 : s.g 3 ≤ 1020 := by have : ms 3 - fs 3 ≤ 1020 := (by decide); omega
                  have cX : wr.cell? ⟨w1.heap.size + 1, 7, none⟩ = some (.int .i64 (ctOf s.h s.l 3)) := hxI.cell 7
                  have q1 : IntKind.i64.wrap (s.l 3 + 1 - 1) = s.l 3 := by rw [show s.l 3 + 1 - 1 = s.l 3 by omega]; exact IntWalk.i64_in _ (by omega)
                  have q2 : IntKind.i64.wrap (s.l 3) = s.l 3 := IntWalk.i64_in _ (by omega)
                  have q3 : ¬ s.l 3 + 1 ≤ 0 := by omega
                  have q4 : 0 < s.l 3 + 1 := by omega
                  cases hhk : s.h 3
                  all_goals
                    first
                    | rw [ctOf_yes hhk] at cX
                    | rw [ctOf_no hhk] at cX
                    go_wp2_with fail
                    refine (left_any w1.heap.size 3 (by omega) (s.h 3) (s.l 3) _ (heI.cell 9) (heI.cell 10)).mono ?_
                    rintro en w8 ⟨rfl, rfl⟩
                    rw [hhk]
                    go_wp2_with fail
                    refine (window_any w1.heap.size 3 (by omega) (s.g 3) hgk0 hgk2 _ heI.lt (heI.cell 11)).mono ?_
                    rintro en w8 ⟨rfl, hw8⟩
                    have hx8 := hxI.below hw8 hxI.lt
                    have cX8 := (hw8.cell (p := ⟨w1.heap.size + 1, 7, none⟩) hxI.lt).trans cX
                    go_wp2_with fail
                    refine (rwindow_any (w1.heap.size + 1) 3 (by omega) (d 3) (s.g 3) hdk _ hx8.lt (hx8.cell 3)).mono ?_
                    rintro en w9 ⟨rfl, hw9⟩
                    have cX9 := (hw9.cell (p := ⟨w1.heap.size + 1, 7, none⟩) hx8.lt).trans cX8
                    have hI9 := Lib.hid ((hI.out.trans (hw8.mono (by omega))).trans (hw9.mono (by have := hw8.size; omega)))
                    clear hw8 hw9 heI hxI hx8 cX cX8
                    go_wp2_with fail
                    go_roundw
                    case rel => exact ⟨5, by omega, rfl, hI9⟩
                    case measure => simp [intOf]
        · obtain ⟨k, hk, hke⟩ : ∃ k : Nat, k < 4 ∧ x.ac = (k : Int) := ⟨x.ac.toNat, by omega, by omega⟩
          have hgk := hG.out.1 k hk
          have hgk2 : s.g k ≤ 1020 := by have : ms k - fs k ≤ 1020 := (by rcases (show k = 0 ∨ k = 1 ∨ k = 2 ∨ k = 3 by omega) with rfl | rfl | rfl | rfl <;> decide); omega
          have hdk := hG.out.2 k hk
          have hIs : (errCode none == 0) = true := rfl
          rw [hke] at d1
          have HKE := Lib.hid (congrArg (fun z => some (Value.int .i64 z)) hke)
          clear hbad hke
          cases hwl : x.well
          · rw [hwl] at d2
            have HWL := Lib.hid (congrArg (fun z => some (Value.bool z)) hwl)
            clear hwl
            go_wp2_with fail
            go_region_held3 (fun w' => w'.cell? ⟨wr.heap.size, 1, none⟩ = some (.int .i64 (k : Int)) ∧ w'.cell? ⟨wr.heap.size, 2, none⟩ = some (.bool false))
              (first | exact ⟨d1, d2⟩ | exact ⟨(hD7.cell 1).trans HKE.out, (hD7.cell 2).trans HWL.out⟩ | exact ⟨(hD6.cell 1).trans HKE.out, (hD6.cell 2).trans HWL.out⟩ | exact ⟨(hD5.cell 1).trans HKE.out, (hD5.cell 2).trans HWL.out⟩)
              (first
                | (go_at_call 9; refine (end_ill w1.heap.size k hk s.h s.l s.g hgk.2.2.1 hgk2 w4.drew hE4).mono ?_; rintro e w5 ⟨rfl, hE5, hg5⟩; have hX5 := Blk.grown (w := w4.drew) hX4 hg5 (by simp); have hD5 := Blk.grown (w := w4.drew) hD4 hg5 (by simp; omega); have hC5 := Blk.grown (w := w4.drew) hC4 hg5 (by simp; omega))
                | (go_at_call 13; refine (rend_ill (w1.heap.size + 1) k hk d (ctOf s.h s.l) (s.g k) hdk hgk.2.2.1 hgk2 w5 hX5).mono ?_; rintro e w6 ⟨rfl, hX6, hg6⟩; have hE6 := hE5.grown hg6 (by simp); have hD6 := hD5.grown hg6 (by simp; omega); have hC6 := hC5.grown hg6 (by simp; omega); have hb6 := Below.grown (Below.grown (hb4.out.trans (below_drewN (w := w4) 1)) hg5 (by have := hb4.out.size; exact this) (by simp)) hg6 (by have := hb4.out.size; have := hg5.size; exact Nat.le_trans hb4.out.size hg5.size) (by simp); have h6 := HE1.out.below hb6 (Nat.le_refl _))
                | (go_at_call 10; refine (is_any h6 none ?_ 0).mono ?_; (intro i hi; cases hi); rintro e w7 ⟨rfl, hw7⟩; have hE7' := hE6.below hw7 hE6.lt; have hX7' := hX6.below hw7 hX6.lt; have hD7 := hD6.below hw7 hD6.lt; have hC7' := hC6.below hw7 hC6.lt; have hb7' := Lib.hid (hb6.trans (hw7.mono hb6.size))))
            have hG7 : Hid (Good { h := s.h, l := s.l, g := upd s.g k (grown s.g k) } (upd d k (min (2 * (fs k + s.g k) + 1) (ms k)))) := Lib.hid (good_ill hG.out hk)
            clear hE4 hX4 hC4 hD4 cD0 d1 d2 h4 hE5 hX5 hD5 hC5 hE6 hX6 hD6 hC6 hD7 hg5 hg6 hw7 h6 hb6
            have hE7'' : Blk w7 w1.heap.size (ecells (St.mk s.h s.l (upd s.g k (grown s.g k))).h (St.mk s.h s.l (upd s.g k (grown s.g k))).l (St.mk s.h s.l (upd s.g k (grown s.g k))).g) 30 := hE7'
            have hX7'' : Blk w7 (w1.heap.size + 1) (rcells (upd d k (min (2 * (fs k + s.g k) + 1) (ms k))) (ctOf (St.mk s.h s.l (upd s.g k (grown s.g k))).h (St.mk s.h s.l (upd s.g k (grown s.g k))).l)) 46 := hX7'
            clear hE7' hX7'
            generalize St.mk s.h s.l (upd s.g k (grown s.g k)) = s6 at *
            generalize upd d k (min (2 * (fs k + s.g k) + 1) (ms k)) = d6 at *
            as_aux_lemma =>
              have HE7 := Lib.hid hE7''
              have HX7 := Lib.hid hX7''
              have HC7 := Lib.hid hC7'
              have hsz7 := hb7'.out.size
              have hlE7 := HE7.out.lt
              have hlX7 := HX7.out.lt
              have hlC7 := HC7.out.lt
              go_wp2_with fail
              go_loopw [16] (fun q wr => ∃ m : Nat, m ≤ 6 ∧ q = .int .i64 ((m : Int) - 1) ∧ Hid (Below w7.heap.size w7 wr)) (fun q _ => 6 - (intOf q + 1).toNat)
              case atStart => exact ⟨0, by omega, rfl, Lib.hid (Below.refl _ _)⟩
              case round =>
                obtain ⟨m, hm, rfl, hI⟩ := hrel
                have hszI := hI.out.size
                rcases (show m = 6 ∨ m = 0 ∨ m = 5 ∨ m = 1 ∨ m = 2 ∨ m = 3 ∨ m = 4 by omega) with rfl | rfl | rfl | rfl | rfl | rfl | rfl
                · as_aux_lemma =>
                    have hcI := HC7.out.below hI.out hlC7
                    go_wp2_with fail
                    refine (window_any w2.heap.size 1 (by omega) (s.g 1) hg1.1 (by omega) _ hcI.lt (hcI.cell 5)).mono ?_
                    rintro en w8 ⟨rfl, hw8⟩
                    have hb8 := hI.out.trans (hw8.mono (by omega))
                    go_wp2_with fail
                    go_roundw
                    case rel => exact ⟨i + 1, by omega, by go_num, s6, d6, hG7, Lib.hid ⟨HE7.out.below hb8 hlE7, HX7.out.below hb8 hlX7⟩, Lib.hid (hb7'.out.trans (hb8.mono (by omega)))⟩
                    case measure => simp [intOf]; omega
                · as_aux_lemma =>
                    go_wp2_with fail
                    refine (left_bad w1.heap.size (-1) (by omega) _).mono ?_
                    rintro en w8 ⟨rfl, rfl⟩
                    go_wp2_with fail
                    refine (window_bad w1.heap.size (-1) (by omega) _).mono ?_
                    rintro en w8 ⟨rfl, rfl⟩
                    go_wp2_with fail
                    refine (rwindow_bad (w1.heap.size + 1) (-1) (by omega) _).mono ?_
                    rintro en w8 ⟨rfl, rfl⟩
                    go_wp2_with fail
                    go_roundw
                    case rel => exact ⟨1, by omega, rfl, hI⟩
                    case measure => simp [intOf]
                · as_aux_lemma =>
                    go_wp2_with fail
                    refine (left_bad w1.heap.size (4) (by omega) _).mono ?_
                    rintro en w8 ⟨rfl, rfl⟩
                    go_wp2_with fail
                    refine (window_bad w1.heap.size (4) (by omega) _).mono ?_
                    rintro en w8 ⟨rfl, rfl⟩
                    go_wp2_with fail
                    refine (rwindow_bad (w1.heap.size + 1) (4) (by omega) _).mono ?_
                    rintro en w8 ⟨rfl, rfl⟩
                    go_wp2_with fail
                    go_roundw
                    case rel => exact ⟨6, by omega, rfl, hI⟩
                    case measure => simp [intOf]
                · as_aux_lemma =>
                    have heI := HE7.out.below hI.out hlE7
                    have hxI := HX7.out.below hI.out hlX7
                    obtain ⟨hl0, hl1, hgk0, hgk1⟩ := hG7.out.1 0 (by omega)
                    have hdk := hG7.out.2 0 (by omega)
                    have hgk2 : s6.g 0 ≤ 1020 := by have : ms 0 - fs 0 ≤ 1020 := (by decide); omega
                    have cX : wr.cell? ⟨w1.heap.size + 1, 4, none⟩ = some (.int .i64 (ctOf s6.h s6.l 0)) := hxI.cell 4
                    have q1 : IntKind.i64.wrap (s6.l 0 + 1 - 1) = s6.l 0 := by rw [show s6.l 0 + 1 - 1 = s6.l 0 by omega]; exact IntWalk.i64_in _ (by omega)
                    have q2 : IntKind.i64.wrap (s6.l 0) = s6.l 0 := IntWalk.i64_in _ (by omega)
                    have q3 : ¬ s6.l 0 + 1 ≤ 0 := by omega
                    have q4 : 0 < s6.l 0 + 1 := by omega
                    cases hhk : s6.h 0
                    all_goals
                      first
                      | rw [ctOf_yes hhk] at cX
                      | rw [ctOf_no hhk] at cX
                      go_wp2_with fail
                      refine (left_any w1.heap.size 0 (by omega) (s6.h 0) (s6.l 0) _ (heI.cell 0) (heI.cell 1)).mono ?_
                      rintro en w8 ⟨rfl, rfl⟩
                      rw [hhk]
                      go_wp2_with fail
                      refine (window_any w1.heap.size 0 (by omega) (s6.g 0) hgk0 hgk2 _ heI.lt (heI.cell 2)).mono ?_
                      rintro en w8 ⟨rfl, hw8⟩
                      have hx8 := hxI.below hw8 hxI.lt
                      have cX8 := (hw8.cell (p := ⟨w1.heap.size + 1, 4, none⟩) hxI.lt).trans cX
                      go_wp2_with fail
                      refine (rwindow_any (w1.heap.size + 1) 0 (by omega) (d6 0) (s6.g 0) hdk _ hx8.lt (hx8.cell 0)).mono ?_
                      rintro en w9 ⟨rfl, hw9⟩
                      have cX9 := (hw9.cell (p := ⟨w1.heap.size + 1, 4, none⟩) hx8.lt).trans cX8
                      have hI9 := Lib.hid ((hI.out.trans (hw8.mono (by omega))).trans (hw9.mono (by have := hw8.size; omega)))
                      clear hw8 hw9 heI hxI hx8 cX cX8
                      go_wp2_with fail
                      go_roundw
                      case rel => exact ⟨2, by omega, rfl, hI9⟩
                      case measure => simp [intOf]
                · as_aux_lemma =>
                    have heI := HE7.out.below hI.out hlE7
                    have hxI := HX7.out.below hI.out hlX7
                    obtain ⟨hl0, hl1, hgk0, hgk1⟩ := hG7.out.1 1 (by omega)
                    have hdk := hG7.out.2 1 (by omega)
                    have hgk2 : s6.g 1 ≤ 1020 := by have : ms 1 - fs 1 ≤ 1020 := (by decide); omega
                    have cX : wr.cell? ⟨w1.heap.size + 1, 5, none⟩ = some (.int .i64 (ctOf s6.h s6.l 1)) := hxI.cell 5
                    have q1 : IntKind.i64.wrap (s6.l 1 + 1 - 1) = s6.l 1 := by rw [show s6.l 1 + 1 - 1 = s6.l 1 by omega]; exact IntWalk.i64_in _ (by omega)
                    have q2 : IntKind.i64.wrap (s6.l 1) = s6.l 1 := IntWalk.i64_in _ (by omega)
                    have q3 : ¬ s6.l 1 + 1 ≤ 0 := by omega
                    have q4 : 0 < s6.l 1 + 1 := by omega
                    cases hhk : s6.h 1
                    all_goals
                      first
                      | rw [ctOf_yes hhk] at cX
                      | rw [ctOf_no hhk] at cX
                      go_wp2_with fail
                      refine (left_any w1.heap.size 1 (by omega) (s6.h 1) (s6.l 1) _ (heI.cell 3) (heI.cell 4)).mono ?_
                      rintro en w8 ⟨rfl, rfl⟩
                      rw [hhk]
                      go_wp2_with fail
                      refine (window_any w1.heap.size 1 (by omega) (s6.g 1) hgk0 hgk2 _ heI.lt (heI.cell 5)).mono ?_
                      rintro en w8 ⟨rfl, hw8⟩
                      have hx8 := hxI.below hw8 hxI.lt
                      have cX8 := (hw8.cell (p := ⟨w1.heap.size + 1, 5, none⟩) hxI.lt).trans cX
                      go_wp2_with fail
                      refine (rwindow_any (w1.heap.size + 1) 1 (by omega) (d6 1) (s6.g 1) hdk _ hx8.lt (hx8.cell 1)).mono ?_
                      rintro en w9 ⟨rfl, hw9⟩
                      have cX9 := (hw9.cell (p := ⟨w1.heap.size + 1, 5, none⟩) hx8.lt).trans cX8
                      have hI9 := Lib.hid ((hI.out.trans (hw8.mono (by omega))).trans (hw9.mono (by have := hw8.size; omega)))
                      clear hw8 hw9 heI hxI hx8 cX cX8
                      go_wp2_with fail
                      go_roundw
                      case rel => exact ⟨3, by omega, rfl, hI9⟩
                      case measure => simp [intOf]
                · as_aux_lemma =>
                    have heI := HE7.out.below hI.out hlE7
                    have hxI := HX7.out.below hI.out hlX7
                    obtain ⟨hl0, hl1, hgk0, hgk1⟩ := hG7.out.1 2 (by omega)
                    have hdk := hG7.out.2 2 (by omega)
                    have hgk2 : s6.g 2 ≤ 1020 := by have : ms 2 - fs 2 ≤ 1020 := (by decide); omega
                    have cX : wr.cell? ⟨w1.heap.size + 1, 6, none⟩ = some (.int .i64 (ctOf s6.h s6.l 2)) := hxI.cell 6
                    have q1 : IntKind.i64.wrap (s6.l 2 + 1 - 1) = s6.l 2 := by rw [show s6.l 2 + 1 - 1 = s6.l 2 by omega]; exact IntWalk.i64_in _ (by omega)
                    have q2 : IntKind.i64.wrap (s6.l 2) = s6.l 2 := IntWalk.i64_in _ (by omega)
                    have q3 : ¬ s6.l 2 + 1 ≤ 0 := by omega
                    have q4 : 0 < s6.l 2 + 1 := by omega
                    cases hhk : s6.h 2
                    all_goals
                      first
                      | rw [ctOf_yes hhk] at cX
                      | rw [ctOf_no hhk] at cX
                      go_wp2_with fail
                      refine (left_any w1.heap.size 2 (by omega) (s6.h 2) (s6.l 2) _ (heI.cell 6) (heI.cell 7)).mono ?_
                      rintro en w8 ⟨rfl, rfl⟩
                      rw [hhk]
                      go_wp2_with fail
                      refine (window_any w1.heap.size 2 (by omega) (s6.g 2) hgk0 hgk2 _ heI.lt (heI.cell 8)).mono ?_
                      rintro en w8 ⟨rfl, hw8⟩
                      have hx8 := hxI.below hw8 hxI.lt
                      have cX8 := (hw8.cell (p := ⟨w1.heap.size + 1, 6, none⟩) hxI.lt).trans cX
                      go_wp2_with fail
                      refine (rwindow_any (w1.heap.size + 1) 2 (by omega) (d6 2) (s6.g 2) hdk _ hx8.lt (hx8.cell 2)).mono ?_
                      rintro en w9 ⟨rfl, hw9⟩
                      have cX9 := (hw9.cell (p := ⟨w1.heap.size + 1, 6, none⟩) hx8.lt).trans cX8
                      have hI9 := Lib.hid ((hI.out.trans (hw8.mono (by omega))).trans (hw9.mono (by have := hw8.size; omega)))
                      clear hw8 hw9 heI hxI hx8 cX cX8
                      go_wp2_with fail
                      go_roundw
                      case rel => exact ⟨4, by omega, rfl, hI9⟩
                      case measure => simp [intOf]
                · as_aux_lemma =>
                    have heI := HE7.out.below hI.out hlE7
                    have hxI := HX7.out.below hI.out hlX7
                    obtain ⟨hl0, hl1, hgk0, hgk1⟩ := hG7.out.1 3 (by omega)
                    have hdk := hG7.out.2 3 (by omega)
                    have hgk2 : s6.g 3 ≤ 1020 := by have : ms 3 - fs 3 ≤ 1020 := (by decide); omega
                    have cX : wr.cell? ⟨w1.heap.size + 1, 7, none⟩ = some (.int .i64 (ctOf s6.h s6.l 3)) := hxI.cell 7
                    have q1 : IntKind.i64.wrap (s6.l 3 + 1 - 1) = s6.l 3 := by rw [show s6.l 3 + 1 - 1 = s6.l 3 by omega]; exact IntWalk.i64_in _ (by omega)
                    have q2 : IntKind.i64.wrap (s6.l 3) = s6.l 3 := IntWalk.i64_in _ (by omega)
                    have q3 : ¬ s6.l 3 + 1 ≤ 0 := by omega
                    have q4 : 0 < s6.l 3 + 1 := by omega
                    cases hhk : s6.h 3
                    all_goals
                      first
                      | rw [ctOf_yes hhk] at cX
                      | rw [ctOf_no hhk] at cX
                      go_wp2_with fail
                      refine (left_any w1.heap.size 3 (by omega) (s6.h 3) (s6.l 3) _ (heI.cell 9) (heI.cell 10)).mono ?_
                      rintro en w8 ⟨rfl, rfl⟩
                      rw [hhk]
                      go_wp2_with fail
                      refine (window_any w1.heap.size 3 (by omega) (s6.g 3) hgk0 hgk2 _ heI.lt (heI.cell 11)).mono ?_
                      rintro en w8 ⟨rfl, hw8⟩
                      have hx8 := hxI.below hw8 hxI.lt
                      have cX8 := (hw8.cell (p := ⟨w1.heap.size + 1, 7, none⟩) hxI.lt).trans cX
                      go_wp2_with fail
                      refine (rwindow_any (w1.heap.size + 1) 3 (by omega) (d6 3) (s6.g 3) hdk _ hx8.lt (hx8.cell 3)).mono ?_
                      rintro en w9 ⟨rfl, hw9⟩
                      have cX9 := (hw9.cell (p := ⟨w1.heap.size + 1, 7, none⟩) hx8.lt).trans cX8
                      have hI9 := Lib.hid ((hI.out.trans (hw8.mono (by omega))).trans (hw9.mono (by have := hw8.size; omega)))
                      clear hw8 hw9 heI hxI hx8 cX cX8
                      go_wp2_with fail
                      go_roundw
                      case rel => exact ⟨5, by omega, rfl, hI9⟩
                      case measure => simp [intOf]
          · rw [hwl] at d2
            have HWL := Lib.hid (congrArg (fun z => some (Value.bool z)) hwl)
            clear hwl
            go_wp2_with fail
            go_region_held3 (fun w' => w'.cell? ⟨wr.heap.size, 1, none⟩ = some (.int .i64 (k : Int)) ∧ w'.cell? ⟨wr.heap.size, 2, none⟩ = some (.bool true))
              (first | exact ⟨d1, d2⟩ | exact ⟨(hD7.cell 1).trans HKE.out, (hD7.cell 2).trans HWL.out⟩ | exact ⟨(hD6.cell 1).trans HKE.out, (hD6.cell 2).trans HWL.out⟩ | exact ⟨(hD5.cell 1).trans HKE.out, (hD5.cell 2).trans HWL.out⟩)
              (first
                | (go_at_call 9; refine (end_well w1.heap.size k hk s.h s.l s.g w4.drew hE4).mono ?_; rintro e w5 ⟨rfl, hE5, hg5⟩; have hX5 := Blk.grown (w := w4.drew) hX4 hg5 (by simp); have hD5 := Blk.grown (w := w4.drew) hD4 hg5 (by simp; omega); have hC5 := Blk.grown (w := w4.drew) hC4 hg5 (by simp; omega))
                | (go_at_call 13; refine (rend_well (w1.heap.size + 1) k hk d (ctOf s.h s.l) w5 hX5).mono ?_; rintro e w6 ⟨rfl, hX6, hg6⟩; have hE6 := hE5.grown hg6 (by simp); have hD6 := hD5.grown hg6 (by simp; omega); have hC6 := hC5.grown hg6 (by simp; omega); have hb6 := Below.grown (Below.grown (hb4.out.trans (below_drewN (w := w4) 1)) hg5 (by have := hb4.out.size; exact this) (by simp)) hg6 (Nat.le_trans hb4.out.size hg5.size) (by simp); have h6 := HE1.out.below hb6 (Nat.le_refl _))
                | (go_at_call 10; refine (is_any h6 none ?_ 0).mono ?_; (intro i hi; cases hi); rintro e w7 ⟨rfl, hw7⟩; have hE7' := hE6.below hw7 hE6.lt; have hX7' := hX6.below hw7 hX6.lt; have hD7 := hD6.below hw7 hD6.lt; have hC7' := hC6.below hw7 hC6.lt; have hb7' := Lib.hid (hb6.trans (hw7.mono hb6.size))))
            have hG7 : Hid (Good { h := s.h, l := s.l, g := upd s.g k 0 } (upd d k 0)) := Lib.hid (good_well hG.out hk)
            clear hE4 hX4 hC4 hD4 cD0 d1 d2 h4 hE5 hX5 hD5 hC5 hE6 hX6 hD6 hC6 hD7 hg5 hg6 hw7 h6 hb6
            have hE7'' : Blk w7 w1.heap.size (ecells (St.mk s.h s.l (upd s.g k 0)).h (St.mk s.h s.l (upd s.g k 0)).l (St.mk s.h s.l (upd s.g k 0)).g) 30 := hE7'
            have hX7'' : Blk w7 (w1.heap.size + 1) (rcells (upd d k 0) (ctOf (St.mk s.h s.l (upd s.g k 0)).h (St.mk s.h s.l (upd s.g k 0)).l)) 46 := hX7'
            clear hE7' hX7'
            generalize St.mk s.h s.l (upd s.g k 0) = s6 at *
            generalize upd d k 0 = d6 at *
            as_aux_lemma =>
              have HE7 := Lib.hid hE7''
              have HX7 := Lib.hid hX7''
              have HC7 := Lib.hid hC7'
              have hsz7 := hb7'.out.size
              have hlE7 := HE7.out.lt
              have hlX7 := HX7.out.lt
              have hlC7 := HC7.out.lt
              go_wp2_with fail
              go_loopw [16] (fun q wr => ∃ m : Nat, m ≤ 6 ∧ q = .int .i64 ((m : Int) - 1) ∧ Hid (Below w7.heap.size w7 wr)) (fun q _ => 6 - (intOf q + 1).toNat)
              case atStart => exact ⟨0, by omega, rfl, Lib.hid (Below.refl _ _)⟩
              case round =>
                obtain ⟨m, hm, rfl, hI⟩ := hrel
                have hszI := hI.out.size
                rcases (show m = 6 ∨ m = 0 ∨ m = 5 ∨ m = 1 ∨ m = 2 ∨ m = 3 ∨ m = 4 by omega) with rfl | rfl | rfl | rfl | rfl | rfl | rfl
                · as_aux_lemma =>
                    have hcI := HC7.out.below hI.out hlC7
                    go_wp2_with fail
                    refine (window_any w2.heap.size 1 (by omega) (s.g 1) hg1.1 (by omega) _ hcI.lt (hcI.cell 5)).mono ?_
                    rintro en w8 ⟨rfl, hw8⟩
                    have hb8 := hI.out.trans (hw8.mono (by omega))
                    go_wp2_with fail
                    go_roundw
                    case rel => exact ⟨i + 1, by omega, by go_num, s6, d6, hG7, Lib.hid ⟨HE7.out.below hb8 hlE7, HX7.out.below hb8 hlX7⟩, Lib.hid (hb7'.out.trans (hb8.mono (by omega)))⟩
                    case measure => simp [intOf]; omega
                · as_aux_lemma =>
                    go_wp2_with fail
                    refine (left_bad w1.heap.size (-1) (by omega) _).mono ?_
                    rintro en w8 ⟨rfl, rfl⟩
                    go_wp2_with fail
                    refine (window_bad w1.heap.size (-1) (by omega) _).mono ?_
                    rintro en w8 ⟨rfl, rfl⟩
                    go_wp2_with fail
                    refine (rwindow_bad (w1.heap.size + 1) (-1) (by omega) _).mono ?_
                    rintro en w8 ⟨rfl, rfl⟩
                    go_wp2_with fail
                    go_roundw
                    case rel => exact ⟨1, by omega, rfl, hI⟩
                    case measure => simp [intOf]
                · as_aux_lemma =>
                    go_wp2_with fail
                    refine (left_bad w1.heap.size (4) (by omega) _).mono ?_
                    rintro en w8 ⟨rfl, rfl⟩
                    go_wp2_with fail
                    refine (window_bad w1.heap.size (4) (by omega) _).mono ?_
                    rintro en w8 ⟨rfl, rfl⟩
                    go_wp2_with fail
                    refine (rwindow_bad (w1.heap.size + 1) (4) (by omega) _).mono ?_
                    rintro en w8 ⟨rfl, rfl⟩
                    go_wp2_with fail
                    go_roundw
                    case rel => exact ⟨6, by omega, rfl, hI⟩
                    case measure => simp [intOf]
                · as_aux_lemma =>
                    have heI := HE7.out.below hI.out hlE7
                    have hxI := HX7.out.below hI.out hlX7
                    obtain ⟨hl0, hl1, hgk0, hgk1⟩ := hG7.out.1 0 (by omega)
                    have hdk := hG7.out.2 0 (by omega)
                    have hgk2 : s6.g 0 ≤ 1020 := by have : ms 0 - fs 0 ≤ 1020 := (by decide); omega
                    have cX : wr.cell? ⟨w1.heap.size + 1, 4, none⟩ = some (.int .i64 (ctOf s6.h s6.l 0)) := hxI.cell 4
                    have q1 : IntKind.i64.wrap (s6.l 0 + 1 - 1) = s6.l 0 := by rw [show s6.l 0 + 1 - 1 = s6.l 0 by omega]; exact IntWalk.i64_in _ (by omega)
                    have q2 : IntKind.i64.wrap (s6.l 0) = s6.l 0 := IntWalk.i64_in _ (by omega)
                    have q3 : ¬ s6.l 0 + 1 ≤ 0 := by omega
                    have q4 : 0 < s6.l 0 + 1 := by omega
                    cases hhk : s6.h 0
                    all_goals
                      first
                      | rw [ctOf_yes hhk] at cX
                      | rw [ctOf_no hhk] at cX
                      go_wp2_with fail
                      refine (left_any w1.heap.size 0 (by omega) (s6.h 0) (s6.l 0) _ (heI.cell 0) (heI.cell 1)).mono ?_
                      rintro en w8 ⟨rfl, rfl⟩
                      rw [hhk]
                      go_wp2_with fail
                      refine (window_any w1.heap.size 0 (by omega) (s6.g 0) hgk0 hgk2 _ heI.lt (heI.cell 2)).mono ?_
                      rintro en w8 ⟨rfl, hw8⟩
                      have hx8 := hxI.below hw8 hxI.lt
                      have cX8 := (hw8.cell (p := ⟨w1.heap.size + 1, 4, none⟩) hxI.lt).trans cX
                      go_wp2_with fail
                      refine (rwindow_any (w1.heap.size + 1) 0 (by omega) (d6 0) (s6.g 0) hdk _ hx8.lt (hx8.cell 0)).mono ?_
                      rintro en w9 ⟨rfl, hw9⟩
                      have cX9 := (hw9.cell (p := ⟨w1.heap.size + 1, 4, none⟩) hx8.lt).trans cX8
                      have hI9 := Lib.hid ((hI.out.trans (hw8.mono (by omega))).trans (hw9.mono (by have := hw8.size; omega)))
                      clear hw8 hw9 heI hxI hx8 cX cX8
                      go_wp2_with fail
                      go_roundw
                      case rel => exact ⟨2, by omega, rfl, hI9⟩
                      case measure => simp [intOf]
                · as_aux_lemma =>
                    have heI := HE7.out.below hI.out hlE7
                    have hxI := HX7.out.below hI.out hlX7
                    obtain ⟨hl0, hl1, hgk0, hgk1⟩ := hG7.out.1 1 (by omega)
                    have hdk := hG7.out.2 1 (by omega)
                    have hgk2 : s6.g 1 ≤ 1020 := by have : ms 1 - fs 1 ≤ 1020 := (by decide); omega
                    have cX : wr.cell? ⟨w1.heap.size + 1, 5, none⟩ = some (.int .i64 (ctOf s6.h s6.l 1)) := hxI.cell 5
                    have q1 : IntKind.i64.wrap (s6.l 1 + 1 - 1) = s6.l 1 := by rw [show s6.l 1 + 1 - 1 = s6.l 1 by omega]; exact IntWalk.i64_in _ (by omega)
                    have q2 : IntKind.i64.wrap (s6.l 1) = s6.l 1 := IntWalk.i64_in _ (by omega)
                    have q3 : ¬ s6.l 1 + 1 ≤ 0 := by omega
                    have q4 : 0 < s6.l 1 + 1 := by omega
                    cases hhk : s6.h 1
                    all_goals
                      first
                      | rw [ctOf_yes hhk] at cX
                      | rw [ctOf_no hhk] at cX
                      go_wp2_with fail
                      refine (left_any w1.heap.size 1 (by omega) (s6.h 1) (s6.l 1) _ (heI.cell 3) (heI.cell 4)).mono ?_
                      rintro en w8 ⟨rfl, rfl⟩
                      rw [hhk]
                      go_wp2_with fail
                      refine (window_any w1.heap.size 1 (by omega) (s6.g 1) hgk0 hgk2 _ heI.lt (heI.cell 5)).mono ?_
                      rintro en w8 ⟨rfl, hw8⟩
                      have hx8 := hxI.below hw8 hxI.lt
                      have cX8 := (hw8.cell (p := ⟨w1.heap.size + 1, 5, none⟩) hxI.lt).trans cX
                      go_wp2_with fail
                      refine (rwindow_any (w1.heap.size + 1) 1 (by omega) (d6 1) (s6.g 1) hdk _ hx8.lt (hx8.cell 1)).mono ?_
                      rintro en w9 ⟨rfl, hw9⟩
                      have cX9 := (hw9.cell (p := ⟨w1.heap.size + 1, 5, none⟩) hx8.lt).trans cX8
                      have hI9 := Lib.hid ((hI.out.trans (hw8.mono (by omega))).trans (hw9.mono (by have := hw8.size; omega)))
                      clear hw8 hw9 heI hxI hx8 cX cX8
                      go_wp2_with fail
                      go_roundw
                      case rel => exact ⟨3, by omega, rfl, hI9⟩
                      case measure => simp [intOf]
                · as_aux_lemma =>
                    have heI := HE7.out.below hI.out hlE7
                    have hxI := HX7.out.below hI.out hlX7
                    obtain ⟨hl0, hl1, hgk0, hgk1⟩ := hG7.out.1 2 (by omega)
                    have hdk := hG7.out.2 2 (by omega)
                    have hgk2 : s6.g 2 ≤ 1020 := by have : ms 2 - fs 2 ≤ 1020 := (by decide); omega
                    have cX : wr.cell? ⟨w1.heap.size + 1, 6, none⟩ = some (.int .i64 (ctOf s6.h s6.l 2)) := hxI.cell 6
                    have q1 : IntKind.i64.wrap (s6.l 2 + 1 - 1) = s6.l 2 := by rw [show s6.l 2 + 1 - 1 = s6.l 2 by omega]; exact IntWalk.i64_in _ (by omega)
                    have q2 : IntKind.i64.wrap (s6.l 2) = s6.l 2 := IntWalk.i64_in _ (by omega)
                    have q3 : ¬ s6.l 2 + 1 ≤ 0 := by omega
                    have q4 : 0 < s6.l 2 + 1 := by omega
                    cases hhk : s6.h 2
                    all_goals
                      first
                      | rw [ctOf_yes hhk] at cX
                      | rw [ctOf_no hhk] at cX
                      go_wp2_with fail
                      refine (left_any w1.heap.size 2 (by omega) (s6.h 2) (s6.l 2) _ (heI.cell 6) (heI.cell 7)).mono ?_
                      rintro en w8 ⟨rfl, rfl⟩
                      rw [hhk]
                      go_wp2_with fail
                      refine (window_any w1.heap.size 2 (by omega) (s6.g 2) hgk0 hgk2 _ heI.lt (heI.cell 8)).mono ?_
                      rintro en w8 ⟨rfl, hw8⟩
                      have hx8 := hxI.below hw8 hxI.lt
                      have cX8 := (hw8.cell (p := ⟨w1.heap.size + 1, 6, none⟩) hxI.lt).trans cX
                      go_wp2_with fail
                      refine (rwindow_any (w1.heap.size + 1) 2 (by omega) (d6 2) (s6.g 2) hdk _ hx8.lt (hx8.cell 2)).mono ?_
                      rintro en w9 ⟨rfl, hw9⟩
                      have cX9 := (hw9.cell (p := ⟨w1.heap.size + 1, 6, none⟩) hx8.lt).trans cX8
                      have hI9 := Lib.hid ((hI.out.trans (hw8.mono (by omega))).trans (hw9.mono (by have := hw8.size; omega)))
                      clear hw8 hw9 heI hxI hx8 cX cX8
                      go_wp2_with fail
                      go_roundw
                      case rel => exact ⟨4, by omega, rfl, hI9⟩
                      case measure => simp [intOf]
                · as_aux_lemma =>
                    have heI := HE7.out.below hI.out hlE7
                    have hxI := HX7.out.below hI.out hlX7
                    obtain ⟨hl0, hl1, hgk0, hgk1⟩ := hG7.out.1 3 (by omega)
                    have hdk := hG7.out.2 3 (by omega)
                    have hgk2 : s6.g 3 ≤ 1020 := by have : ms 3 - fs 3 ≤ 1020 := (by decide); omega
                    have cX : wr.cell? ⟨w1.heap.size + 1, 7, none⟩ = some (.int .i64 (ctOf s6.h s6.l 3)) := hxI.cell 7
                    have q1 : IntKind.i64.wrap (s6.l 3 + 1 - 1) = s6.l 3 := by rw [show s6.l 3 + 1 - 1 = s6.l 3 by omega]; exact IntWalk.i64_in _ (by omega)
                    have q2 : IntKind.i64.wrap (s6.l 3) = s6.l 3 := IntWalk.i64_in _ (by omega)
                    have q3 : ¬ s6.l 3 + 1 ≤ 0 := by omega
                    have q4 : 0 < s6.l 3 + 1 := by omega
                    cases hhk : s6.h 3
                    all_goals
                      first
                      | rw [ctOf_yes hhk] at cX
                      | rw [ctOf_no hhk] at cX
                      go_wp2_with fail
                      refine (left_any w1.heap.size 3 (by omega) (s6.h 3) (s6.l 3) _ (heI.cell 9) (heI.cell 10)).mono ?_
                      rintro en w8 ⟨rfl, rfl⟩
                      rw [hhk]
                      go_wp2_with fail
                      refine (window_any w1.heap.size 3 (by omega) (s6.g 3) hgk0 hgk2 _ heI.lt (heI.cell 11)).mono ?_
                      rintro en w8 ⟨rfl, hw8⟩
                      have hx8 := hxI.below hw8 hxI.lt
                      have cX8 := (hw8.cell (p := ⟨w1.heap.size + 1, 7, none⟩) hxI.lt).trans cX
                      go_wp2_with fail
                      refine (rwindow_any (w1.heap.size + 1) 3 (by omega) (d6 3) (s6.g 3) hdk _ hx8.lt (hx8.cell 3)).mono ?_
                      rintro en w9 ⟨rfl, hw9⟩
                      have cX9 := (hw9.cell (p := ⟨w1.heap.size + 1, 7, none⟩) hx8.lt).trans cX8
                      have hI9 := Lib.hid ((hI.out.trans (hw8.mono (by omega))).trans (hw9.mono (by have := hw8.size; omega)))
                      clear hw8 hw9 heI hxI hx8 cX cX8
                      go_wp2_with fail
                      go_roundw
                      case rel => exact ⟨5, by omega, rfl, hI9⟩
                      case measure => simp [intOf]
    · have hie : i = len := by omega
      go_wp2_with fail
      go_ret
      exact ⟨rfl, HW1.out.trans (hbx.out.mono hs1)⟩
end Go.Proofs.YtejlfifoehpljaaDoor
