/-
  count.Book: Class, Reason (a loop that calls a closure), Ok, Clone.
-/
import Derived.Test.YthppbicfemgoaaaDoorCount
namespace Go.Proofs.YthppbicfemgoaaaDoor
open Go.ChangeShapes Go.WideShapes Go.ChangeAt Go.RowKit
open Count
set_option linter.unusedVariables false

set_option maxHeartbeats 400000 in
theorem cloC_any (bx : Nat) (c : Int) (p : Pl) (w : World) (hc : w.cell? ⟨bx, 0, none⟩ = some (.int .i64 c)) :
    Calls Tryd.prog 25 #[.agg #[.int .i64 p.1, .int .i64 p.2], .pointer (some ⟨bx, 0, none⟩)] w fun e w' => e = .returned (.bool (isC c p)) ∧ Below w.heap.size w w' := by
  have hlt := World.block_lt_of_cell? w _ hc
  have hc2 : (w.alloc (.cells #[.int .i64 p.1, .int .i64 p.2] 51)).cell? ⟨bx, 0, none⟩ = some (.int .i64 c) := by rw [World.cell?_alloc_past _ _ _ hlt]; exact hc
  go_enter Tryd.func25, Tryd.ntmps25
  go_wp2_with fail
  all_goals go_ret
  all_goals exact ⟨ret_bool (by simp_all [isC]), (Below.refl _ _).alloc (Nat.le_refl _) _⟩

set_option maxHeartbeats 1600000 in
theorem countC_any {w : World} {base B C : Nat} {A : Option Addr} {L : List Pl} (h : Bk w base B A C L) (bx : Nat) (c : Int) (hc : w.cell? ⟨bx, 0, none⟩ = some (.int .i64 c)) :
    Calls Tryd.prog 24 #[.pointer (some ⟨B, 0, none⟩), .func (.func 25) #[] #[.pointer (some ⟨bx, 0, none⟩)]] w fun e w' => e = .returned (.int .i64 (nC c L)) ∧ Below w.heap.size w w' := by
  have hB := h.cell
  have hl := h.len
  have hlt := World.block_lt_of_cell? w _ hc
  have H := Lib.hid h
  have HC := Lib.hid hc
  go_enter Tryd.func24, Tryd.ntmps24
  go_wp2_with fail
  go_loopw [5, 13] (fun n i wr => ∃ k : Nat, k ≤ L.length ∧ i = .int .i64 k ∧ n = .int .i64 (nC c (L.take k)) ∧ Below w.heap.size w wr) (fun _ i _ => L.length - (intOf i).toNat)
  case atStart => exact ⟨0, Nat.zero_le _, rfl, by simp [nC], Below.refl _ _⟩
  case round =>
    obtain ⟨k, hk, rfl, rfl, hbw⟩ := hrel
    clear h hc hB
    by_cases hkl : k < L.length
    · obtain ⟨p, hp⟩ : ∃ p, L[k]? = some p := ⟨_, List.getElem?_eq_getElem hkl⟩
      obtain ⟨g, rfl, hg1, hg2, hC, hcell, hfr⟩ := bk_at H.out hkl
      obtain ⟨c0, c1⟩ := hcell p hp
      have hcl := count_le (isC c) L k
      have hct := count_take (f := isC c) hp
      clear hcell hfr hp
      have e0 : wr.cell? ⟨g, k * 2, none⟩ = some (.int .i64 p.1) := (hbw.cell (p := ⟨g, k * 2, none⟩) hg2).trans c0
      have e1 : wr.cell? ⟨g, k * 2 + 1, none⟩ = some (.int .i64 p.2) := (hbw.cell (p := ⟨g, k * 2 + 1, none⟩) hg2).trans c1
      clear c0 c1
      have hcr : wr.cell? ⟨bx, 0, none⟩ = some (.int .i64 c) := (hbw.cell (p := ⟨bx, 0, none⟩) hlt).trans HC.out
      have hltr := Nat.lt_of_lt_of_le hlt hbw.size
      have hcr2 : (wr.alloc (.cells #[.int .i64 p.1, .int .i64 p.2] 51)).cell? ⟨bx, 0, none⟩ = some (.int .i64 c) := by rw [World.cell?_alloc_past _ _ _ hltr]; exact hcr
      have hbw2 : Below w.heap.size w (wr.alloc (.cells #[.int .i64 p.1, .int .i64 p.2] 51)) := hbw.alloc hbw.size _
      have hsz2 := hbw2.size
      have hcnt : nC c (L.take (k + 1)) = nC c (L.take k) + if isC c p = true then 1 else 0 := hct
      have hcn : nC c (L.take k) ≤ k := hcl
      have HT := Lib.hid hcnt
      clear hct hcl hcnt
      generalize nC c (L.take k) = N at *
      have hNl : N < 9223372036854775807 := by omega
      go_wp2_with fail
      refine (cloC_any bx c p _ hcr2).mono ?_
      rintro e w3 ⟨rfl, hb3⟩
      have hbw3 := hbw2.trans (hb3.mono hsz2)
      rcases hi : isC c p
      · have HT2 := Lib.hid (show nC c (L.take (k + 1)) = N by rw [HT.out, hi]; simp)
        go_wp2_with fail
        go_roundw
        case rel => exact ⟨k + 1, by omega, by go_num, by rw [HT2.out], hbw3⟩
        case measure => simp [intOf]; omega
      · have HT2 := Lib.hid (show nC c (L.take (k + 1)) = N + 1 by rw [HT.out, hi]; simp)
        go_wp2_with fail
        go_roundw
        case rel => exact ⟨k + 1, by omega, by go_num, by rw [HT2.out]; go_num, hbw3⟩
        case measure => simp [intOf]; omega
    · have hke : k = L.length := by omega
      have HF := Lib.hid (show nC c (L.take k) = nC c L by rw [hke, List.take_length])
      clear hke
      go_wp2_with fail
      go_ret
      exact ⟨ret_i64 (by rw [HF.out]), hbw⟩

set_option maxHeartbeats 800000 in
theorem class_any {w : World} {base B C : Nat} {A : Option Addr} {L : List Pl} (h : Bk w base B A C L) (c : Int) :
    Calls Tryd.prog 11 #[.pointer (some ⟨B, 0, none⟩), .int .i64 c] w fun e w' => e = .returned (.int .i64 (nC c L)) ∧ Below w.heap.size w w' := by
  have hmf : ∀ (fn : Fn) (first cap : Array Value) (w : World), (Instr.makeFunc fn first cap).run Tryd.prog w = .ok (.func fn first cap) w := fun _ _ _ _ => rfl
  have H := Lib.hid (h.alloc (.cells #[.int .i64 c] 3))
  have HC := Lib.hid (show (w.alloc (.cells #[.int .i64 c] 3)).cell? ⟨w.heap.size, 0, none⟩ = some (.int .i64 c) from (Blk.new w #[.int .i64 c] 3).cell 0)
  clear h
  go_enter Tryd.func11, Tryd.ntmps11
  go_wp2_with fail
  refine (countC_any H.out w.heap.size c HC.out).mono ?_
  rintro e w1 ⟨rfl, hb1⟩
  go_wp2_with fail
  go_ret
  exact ⟨rfl, ((Below.refl _ _).alloc (Nat.le_refl _) _).trans (hb1.mono (by simp))⟩

set_option maxHeartbeats 400000 in
theorem cloR_any (bx : Nat) (c : Int) (p : Pl) (w : World) (hc : w.cell? ⟨bx, 0, none⟩ = some (.int .i64 c)) :
    Calls Tryd.prog 26 #[.agg #[.int .i64 p.1, .int .i64 p.2], .pointer (some ⟨bx, 0, none⟩)] w fun e w' => e = .returned (.bool (isR c p)) ∧ Below w.heap.size w w' := by
  have hlt := World.block_lt_of_cell? w _ hc
  have hc2 : (w.alloc (.cells #[.int .i64 p.1, .int .i64 p.2] 51)).cell? ⟨bx, 0, none⟩ = some (.int .i64 c) := by rw [World.cell?_alloc_past _ _ _ hlt]; exact hc
  go_enter Tryd.func26, Tryd.ntmps26
  go_wp2_with fail
  all_goals go_ret
  all_goals exact ⟨ret_bool (by simp_all [isR]), (Below.refl _ _).alloc (Nat.le_refl _) _⟩

set_option maxHeartbeats 1600000 in
theorem countR_any {w : World} {base B C : Nat} {A : Option Addr} {L : List Pl} (h : Bk w base B A C L) (bx : Nat) (c : Int) (hc : w.cell? ⟨bx, 0, none⟩ = some (.int .i64 c)) :
    Calls Tryd.prog 24 #[.pointer (some ⟨B, 0, none⟩), .func (.func 26) #[] #[.pointer (some ⟨bx, 0, none⟩)]] w fun e w' => e = .returned (.int .i64 (nR c L)) ∧ Below w.heap.size w w' := by
  have hB := h.cell
  have hl := h.len
  have hlt := World.block_lt_of_cell? w _ hc
  have H := Lib.hid h
  have HC := Lib.hid hc
  go_enter Tryd.func24, Tryd.ntmps24
  go_wp2_with fail
  go_loopw [5, 13] (fun n i wr => ∃ k : Nat, k ≤ L.length ∧ i = .int .i64 k ∧ n = .int .i64 (nR c (L.take k)) ∧ Below w.heap.size w wr) (fun _ i _ => L.length - (intOf i).toNat)
  case atStart => exact ⟨0, Nat.zero_le _, rfl, by simp [nR], Below.refl _ _⟩
  case round =>
    obtain ⟨k, hk, rfl, rfl, hbw⟩ := hrel
    clear h hc hB
    by_cases hkl : k < L.length
    · obtain ⟨p, hp⟩ : ∃ p, L[k]? = some p := ⟨_, List.getElem?_eq_getElem hkl⟩
      obtain ⟨g, rfl, hg1, hg2, hC, hcell, hfr⟩ := bk_at H.out hkl
      obtain ⟨c0, c1⟩ := hcell p hp
      have hcl := count_le (isR c) L k
      have hct := count_take (f := isR c) hp
      clear hcell hfr hp
      have e0 : wr.cell? ⟨g, k * 2, none⟩ = some (.int .i64 p.1) := (hbw.cell (p := ⟨g, k * 2, none⟩) hg2).trans c0
      have e1 : wr.cell? ⟨g, k * 2 + 1, none⟩ = some (.int .i64 p.2) := (hbw.cell (p := ⟨g, k * 2 + 1, none⟩) hg2).trans c1
      clear c0 c1
      have hcr : wr.cell? ⟨bx, 0, none⟩ = some (.int .i64 c) := (hbw.cell (p := ⟨bx, 0, none⟩) hlt).trans HC.out
      have hltr := Nat.lt_of_lt_of_le hlt hbw.size
      have hcr2 : (wr.alloc (.cells #[.int .i64 p.1, .int .i64 p.2] 51)).cell? ⟨bx, 0, none⟩ = some (.int .i64 c) := by rw [World.cell?_alloc_past _ _ _ hltr]; exact hcr
      have hbw2 : Below w.heap.size w (wr.alloc (.cells #[.int .i64 p.1, .int .i64 p.2] 51)) := hbw.alloc hbw.size _
      have hsz2 := hbw2.size
      have hcnt : nR c (L.take (k + 1)) = nR c (L.take k) + if isR c p = true then 1 else 0 := hct
      have hcn : nR c (L.take k) ≤ k := hcl
      have HT := Lib.hid hcnt
      clear hct hcl hcnt
      generalize nR c (L.take k) = N at *
      have hNl : N < 9223372036854775807 := by omega
      go_wp2_with fail
      refine (cloR_any bx c p _ hcr2).mono ?_
      rintro e w3 ⟨rfl, hb3⟩
      have hbw3 := hbw2.trans (hb3.mono hsz2)
      rcases hi : isR c p
      · have HT2 := Lib.hid (show nR c (L.take (k + 1)) = N by rw [HT.out, hi]; simp)
        go_wp2_with fail
        go_roundw
        case rel => exact ⟨k + 1, by omega, by go_num, by rw [HT2.out], hbw3⟩
        case measure => simp [intOf]; omega
      · have HT2 := Lib.hid (show nR c (L.take (k + 1)) = N + 1 by rw [HT.out, hi]; simp)
        go_wp2_with fail
        go_roundw
        case rel => exact ⟨k + 1, by omega, by go_num, by rw [HT2.out]; go_num, hbw3⟩
        case measure => simp [intOf]; omega
    · have hke : k = L.length := by omega
      have HF := Lib.hid (show nR c (L.take k) = nR c L by rw [hke, List.take_length])
      clear hke
      go_wp2_with fail
      go_ret
      exact ⟨ret_i64 (by rw [HF.out]), hbw⟩

set_option maxHeartbeats 800000 in
theorem reason_any {w : World} {base B C : Nat} {A : Option Addr} {L : List Pl} (h : Bk w base B A C L) (c : Int) :
    Calls Tryd.prog 12 #[.pointer (some ⟨B, 0, none⟩), .int .i64 c] w fun e w' => e = .returned (.int .i64 (nR c L)) ∧ Below w.heap.size w w' := by
  have hmf : ∀ (fn : Fn) (first cap : Array Value) (w : World), (Instr.makeFunc fn first cap).run Tryd.prog w = .ok (.func fn first cap) w := fun _ _ _ _ => rfl
  have H := Lib.hid (h.alloc (.cells #[.int .i64 c] 3))
  have HC := Lib.hid (show (w.alloc (.cells #[.int .i64 c] 3)).cell? ⟨w.heap.size, 0, none⟩ = some (.int .i64 c) from (Blk.new w #[.int .i64 c] 3).cell 0)
  clear h
  go_enter Tryd.func12, Tryd.ntmps12
  go_wp2_with fail
  refine (countR_any H.out w.heap.size c HC.out).mono ?_
  rintro e w1 ⟨rfl, hb1⟩
  go_wp2_with fail
  go_ret
  exact ⟨rfl, ((Below.refl _ _).alloc (Nat.le_refl _) _).trans (hb1.mono (by simp))⟩

theorem ok_sum {L : List Pl} (hg : ∀ p ∈ L, good p) : ((nC 1 L : Int) + nC 2 L + nC 3 L + nC 4 L = L.length) ∧ ((nR 1 L : Int) + nR 2 L + nR 3 L + nR 4 L + nR 5 L = nC 4 L) := by
  have h1 := nC_sum L hg
  have h2 := nR_sum L hg
  omega

set_option maxHeartbeats 3200000 in
theorem ok_any {w : World} {base B C : Nat} {A : Option Addr} {L : List Pl} (h : Bk w base B A C L) (hg : ∀ p ∈ L, good p) (hl : L.length ≤ 1000000) :
    Calls Tryd.prog 14 #[.pointer (some ⟨B, 0, none⟩)] w fun e w' => e = .returned (.bool true) ∧ Below w.heap.size w w' := by
  obtain ⟨s1, s2⟩ := ok_sum hg
  have hle : ∀ (f : Pl → Bool), L.countP f ≤ L.length := fun f => List.countP_le_length
  have l1 : nC 1 L ≤ L.length := hle _
  have l2 : nC 2 L ≤ L.length := hle _
  have l3 : nC 3 L ≤ L.length := hle _
  have l4 : nC 4 L ≤ L.length := hle _
  have m1 : nR 1 L ≤ L.length := hle _
  have m2 : nR 2 L ≤ L.length := hle _
  have m3 : nR 3 L ≤ L.length := hle _
  have m4 : nR 4 L ≤ L.length := hle _
  have m5 : nR 5 L ≤ L.length := hle _
  have H := Lib.hid h
  clear h hg hle
  go_enter Tryd.func14, Tryd.ntmps14
  go_wp2_with fail
  have hb0 : Below w.heap.size w w := Below.refl _ _
  have z0 := Nat.le_refl w.heap.size
  refine wp_loop_rounds 5 ?_
  rw [rounds_succ]
  go_wp2_with fail
  refine (class_any (H.out.below hb0 (Nat.le_refl _)) 1).mono ?_
  rintro e w1 ⟨rfl, hx1⟩
  have hb1 : Below w.heap.size w w1 := hb0.trans (hx1.mono z0)
  have z1 := hb1.size
  go_wp2_with fail
  rw [rounds_succ]
  go_wp2_with fail
  refine (class_any (H.out.below hb1 (Nat.le_refl _)) 2).mono ?_
  rintro e w2 ⟨rfl, hx2⟩
  have hb2 : Below w.heap.size w w2 := hb1.trans (hx2.mono z1)
  have z2 := hb2.size
  go_wp2_with fail
  rw [rounds_succ]
  go_wp2_with fail
  refine (class_any (H.out.below hb2 (Nat.le_refl _)) 3).mono ?_
  rintro e w3 ⟨rfl, hx3⟩
  have hb3 : Below w.heap.size w w3 := hb2.trans (hx3.mono z2)
  have z3 := hb3.size
  go_wp2_with fail
  rw [rounds_succ]
  go_wp2_with fail
  refine (class_any (H.out.below hb3 (Nat.le_refl _)) 4).mono ?_
  rintro e w4 ⟨rfl, hx4⟩
  have hb4 : Below w.heap.size w w4 := hb3.trans (hx4.mono z3)
  have z4 := hb4.size
  go_wp2_with fail
  rw [rounds_succ]
  go_wp2_with fail
  refine wp_loop_rounds 6 ?_
  rw [rounds_succ]
  go_wp2_with fail
  refine (reason_any (H.out.below hb4 (Nat.le_refl _)) 1).mono ?_
  rintro e w5 ⟨rfl, hx5⟩
  have hb5 : Below w.heap.size w w5 := hb4.trans (hx5.mono z4)
  have z5 := hb5.size
  go_wp2_with fail
  rw [rounds_succ]
  go_wp2_with fail
  refine (reason_any (H.out.below hb5 (Nat.le_refl _)) 2).mono ?_
  rintro e w6 ⟨rfl, hx6⟩
  have hb6 : Below w.heap.size w w6 := hb5.trans (hx6.mono z5)
  have z6 := hb6.size
  go_wp2_with fail
  rw [rounds_succ]
  go_wp2_with fail
  refine (reason_any (H.out.below hb6 (Nat.le_refl _)) 3).mono ?_
  rintro e w7 ⟨rfl, hx7⟩
  have hb7 : Below w.heap.size w w7 := hb6.trans (hx7.mono z6)
  have z7 := hb7.size
  go_wp2_with fail
  rw [rounds_succ]
  go_wp2_with fail
  refine (reason_any (H.out.below hb7 (Nat.le_refl _)) 4).mono ?_
  rintro e w8 ⟨rfl, hx8⟩
  have hb8 : Below w.heap.size w w8 := hb7.trans (hx8.mono z7)
  have z8 := hb8.size
  go_wp2_with fail
  rw [rounds_succ]
  go_wp2_with fail
  refine (reason_any (H.out.below hb8 (Nat.le_refl _)) 5).mono ?_
  rintro e w9 ⟨rfl, hx9⟩
  have hb9 : Below w.heap.size w w9 := hb8.trans (hx9.mono z8)
  have z9 := hb9.size
  go_wp2_with fail
  rw [rounds_succ]
  go_wp2_with fail
  refine (len_any (H.out.below hb9 (Nat.le_refl _))).mono ?_
  rintro e w10 ⟨rfl, rfl⟩
  go_wp2_with fail
  refine (class_any (H.out.below hb9 (Nat.le_refl _)) 4).mono ?_
  rintro e w10 ⟨rfl, hx10⟩
  have hb10 : Below w.heap.size w w10 := hb9.trans (hx10.mono z9)
  have z10 := hb10.size
  go_wp2_with fail
  go_ret
  exact ⟨rfl, hb10⟩

end Go.Proofs.YthppbicfemgoaaaDoor
