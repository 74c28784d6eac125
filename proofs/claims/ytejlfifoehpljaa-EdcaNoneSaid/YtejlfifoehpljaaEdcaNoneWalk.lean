/-
  The walk of EdcaNone.
-/
import Derived.Test.YtejlfifoehpljaaEdcaLaw
namespace Go.Proofs.Ytejlfifoehpljaa
open Go.ChangeShapes Go.WideShapes Go.ChangeAt Go.RowKit
open Edca
set_option linter.unusedVariables false

theorem none_mid (dr : Nat → Int) (s : St) : mid (b4 false false false false) dr s = { h := s.h, l := s.l, w := -1, t := 0 } := rfl
theorem none_S (dr : Nat → Int) (s : St) : conS (b4 false false false false) dr s = s := rfl
theorem none_B (dr : Nat → Int) (s : St) : conB (b4 false false false false) dr s = false := rfl
theorem conT_bounds {rd : Nat → Bool} {dr : Nat → Int} {s : St} (h : Inv s) : 0 ≤ conT rd dr s ∧ conT rd dr s ≤ 1030 := by
  have hm := mid_inv (rd := rd) (dr := dr) h
  unfold conT
  cases decide ((mid rd dr s).w < 0)
  · exact ⟨hm.2.2.2.1, hm.2.2.2.2⟩
  · simp

set_option maxRecDepth 100000 in
set_option maxHeartbeats 2000000 in
theorem edcaNone_walk (w : World) (a : Int) (wa : (Lit.int .u32 a).wf = true) (b : Int) (wb : (Lit.int .u32 b).wf = true) (c : Int) (wc : (Lit.int .u32 c).wf = true) :
    Calls Try.prog 4 #[.int .u32 a, .int .u32 b, .int .u32 c] w fun e w' => e = .returned (.bool true) ∧ Below w.heap.size w w' := by
  obtain ⟨ha0, ha1⟩ := bounds_u32 wa
  obtain ⟨hb0, hb1⟩ := bounds_u32 wb
  obtain ⟨hc0, hc1⟩ := bounds_u32 wc
  clear wa wb wc
  obtain ⟨x, hx, hxe⟩ := number_nat a 16 (by omega)
  obtain ⟨y, hy, hye⟩ := number_nat b 16 (by omega)
  obtain ⟨z, hz, hze⟩ := number_nat c 4 (by omega)
  have hxt : a.tmod 16 = (x : Int) := by rw [Int.tmod_eq_emod_of_nonneg ha0]; exact hxe
  have hyt : b.tmod 16 = (y : Int) := by rw [Int.tmod_eq_emod_of_nonneg hb0]; exact hye
  have hzt : c.tmod 4 = (z : Int) := by rw [Int.tmod_eq_emod_of_nonneg hc0]; exact hze
  replace hxe : a % 16 = (x : Int) := hxe
  replace hye : b % 16 = (y : Int) := hye
  replace hze : c % 4 = (z : Int) := hze
  have HZ := Lib.hid hze
  obtain ⟨hB, hrest⟩ := none_fin1 ⟨x, hx⟩ ⟨y, hy⟩
  have hfin2 := none_fin2 ⟨x, hx⟩ ⟨y, hy⟩ ⟨z, hz⟩
  dsimp only at hB hrest hfin2
  have HB := Lib.hid hB
  have HR1 := Lib.hid hrest
  have HR2 := Lib.hid hfin2
  clear hB hrest hfin2
  have u7 : IntKind.u32.wrap (7 + (x : Int)) = 7 + x := by rw [IntKind.wrap_u32]; omega
  have u3 : IntKind.u32.wrap (3 + (y : Int)) = 3 + y := by rw [IntKind.wrap_u32]; omega
  go_enter Try.func4, Try.ntmps4
  go_wp2_with fail
  refine (first_any _).mono ?_
  rintro en w1 ⟨rfl, hw1⟩
  have hs1 := hw1.size
  go_wp2_with fail
  refine (contend_any w1.heap.size (b4 false false false false) (i4 a b c a) s0 inv0 (i4_bounds ⟨by omega, by omega⟩ ⟨by omega, by omega⟩ ⟨by omega, by omega⟩ ⟨by omega, by omega⟩) _ (Blk.new w1 _ _)).mono ?_
  rintro en w2' ⟨rfl, hk2, hg2⟩
  rw [none_S] at hk2
  rw [none_B]
  have hb2 : Below w.heap.size w w2' := Below.grown (hw1.alloc hs1 _) hg2 (by simp; omega) (by simp; omega)
  have hl2 := hk2.lt
  clear hg2
  go_wp2_with fail
  refine (contend_any w1.heap.size (b4 true true false false) (i4 (x : Int) (y : Int) 0 0) s0 inv0 (i4_bounds ⟨by omega, by omega⟩ ⟨by omega, by omega⟩ (by decide) (by decide)) _ hk2).mono ?_
  rintro en w3 ⟨rfl, hk3, hg3⟩
  rw [HB.out]
  have hb3 : Below w.heap.size w w3 := Below.grown hb2 hg3 (by omega) (by simp; omega)
  have hl3 := hk3.lt
  have hinv3 := Lib.hid (conS_inv (rd := b4 true true false false) (dr := i4 (x : Int) (y : Int) 0 0) inv0)
  obtain ⟨hT0, hT1⟩ := conT_bounds (rd := b4 true true false false) (dr := i4 (x : Int) (y : Int) 0 0) inv0
  clear hg3 hk2 hb2
  by_cases hq : 7 + (x : Int) = 3 + (y : Int)
  · have hq' : (7 + (x : Int) == 3 + (y : Int)) = true := by simpa using hq
    go_wp2_with fail
    go_ret
    exact ⟨rfl, hb3⟩
  have hq' : (7 + (x : Int) == 3 + (y : Int)) = false := by simpa using hq
  obtain ⟨hw01, hlt, hh, hl, hg3', hh3⟩ := HR1.out hq
  obtain ⟨f1, f2, f3, f4, f5, f6, f7, f8⟩ := HR2.out hq
  have F1 := Lib.hid f1
  have F2 := Lib.hid f2
  have F3 := Lib.hid f3
  have F4 := Lib.hid f4
  have F5 := Lib.hid f5
  have F6 := Lib.hid f6
  have F7 := Lib.hid f7
  have F8 := Lib.hid f8
  have HLT := Lib.hid hlt
  have HH := Lib.hid hh
  have HL := Lib.hid hl
  have HG := Lib.hid hg3'
  have HK3 := Lib.hid hk3
  clear f1 f2 f3 f4 f5 f6 f7 f8 hlt hh hl hg3' hh3 HR1 HR2 HB hk3
  have hcg := con_congr (rd := b4 false false false true) (dr := i4 0 0 0 c) (dr' := i4 0 0 0 (z : Int)) (s := s2 (x : Int) (y : Int)) (by
    intro k hk hr
    rcases (show k = 0 ∨ k = 1 ∨ k = 2 ∨ k = 3 by omega) with rfl | rfl | rfl | rfl
    · cases hr
    · cases hr
    · cases hr
    · right
      rw [HG.out]
      show c % 4 = (z : Int) % 4
      rw [HZ.out]; omega)
  have HCG := Lib.hid hcg
  clear hcg
  have q1 : IntKind.i64.wrap (2 + (z : Int)) = 2 + z := IntWalk.i64_in _ (by omega)
  have q3 : IntKind.i64.wrap (x : Int) = x := IntWalk.i64_in _ (by omega)
  have q4 : IntKind.i64.wrap (y : Int) = y := IntWalk.i64_in _ (by omega)
  have q5 : IntKind.i64.wrap (z : Int) = z := IntWalk.i64_in _ (by omega)
  have hT : conT (b4 true true false false) (i4 (x : Int) (y : Int) 0 0) s0 = t2 (x : Int) (y : Int) := rfl
  rw [show conW (b4 true true false false) (i4 (x : Int) (y : Int) 0 0) s0 = w2 (x : Int) (y : Int) from rfl, hT]
  rw [hT] at hT0 hT1
  clear hT
  rcases hw01 with hw | hw
  · have ho : o2 (x : Int) (y : Int) = 1 := by unfold o2; rw [hw]; rfl
    have hr4 : rd4 (x : Int) (y : Int) = b4 false true false false := by unfold rd4; rw [hw]; rfl
    have hlt := HLT.out
    have hl := HL.out
    have f5 := F5.out
    have f8 := F8.out
    have f7 := F7.out
    have f6 := F6.out
    have hh := HH.out
    have f4 := F4.out
    rw [ho] at hl f5 f8 f7 hh f4
    rw [hr4] at f6 f7 f8
    rw [hw] at hlt hl ⊢
    have hl' : (s2 (x : Int) (y : Int)).l 1 = max ((y : Int) - max (t2 (x : Int) (y : Int) - 3) 0) 0 := hl
    have hcmp : decide (3 + (y : Int) < 7 + (x : Int)) = false := hlt.symm
    have HH' := Lib.hid hh
    have HS3l := Lib.hid f5
    have HS3h := Lib.hid f4
    have hW4 := Lib.hid f7
    have hT4 : Hid (conT (b4 false true false false) (fun _ => 0) (s3 (x : Int) (y : Int) (z : Int)) = 3 + (s2 (x : Int) (y : Int)).l 1) := Lib.hid f8
    have hB4 := Lib.hid f6
    clear hl f5 f8 f7 f6 hh f4 hr4 ho HLT HL F4 F5 F6 F7 F8 hlt
    obtain ⟨k0, hk0⟩ : ∃ k0, (s2 (x : Int) (y : Int)).l 1 = k0 := ⟨_, rfl⟩
    have hbl := hinv3.out 1 (by omega)
    rw [show (conS (b4 true true false false) (i4 (x : Int) (y : Int) 0 0) s0).l 1 = k0 from hk0] at hbl
    rw [hk0] at hl'
    have HK0 := Lib.hid hk0
    clear hk0
    generalize t2 (x : Int) (y : Int) = T at *
    have p1 : IntKind.i64.wrap (T - 3) = T - 3 := IntWalk.i64_in _ (by omega)
    have p2 : IntKind.i64.wrap ((y : Int) - (T - 3)) = (y : Int) - (T - 3) := IntWalk.i64_in _ (by omega)
    have p3 : IntKind.i64.wrap (3 + k0) = 3 + k0 := IntWalk.i64_in _ (by omega)
    have c0 : ¬ (y : Int) < 0 := by omega
    have hyx : ¬ 3 + (y : Int) < 7 + (x : Int) := by simpa using hcmp
    have key : (T - 3 < 0 ∧ (k0 != (y : Int)) = false ∧ (k0 == (y : Int)) = true) ∨ (¬ T - 3 < 0 ∧ (y : Int) - (T - 3) < 0 ∧ (k0 != 0) = false ∧ (k0 == 0) = true) ∨
        (¬ T - 3 < 0 ∧ ¬ (y : Int) - (T - 3) < 0 ∧ (k0 != (y : Int) - (T - 3)) = false ∧ (k0 == (y : Int) - (T - 3)) = true) := by
      by_cases c1 : T - 3 < 0
      · left
        have : k0 = y := by rw [hl']; omega
        exact ⟨c1, by simp [this], by simp [this]⟩
      · right
        by_cases c2 : (y : Int) - (T - 3) < 0
        · left
          have : k0 = 0 := by rw [hl']; omega
          exact ⟨c1, c2, by simp [this], by simp [this]⟩
        · right
          have : k0 = (y : Int) - (T - 3) := by rw [hl']; omega
          exact ⟨c1, c2, by rw [this]; simp, by rw [this]; simp⟩
    have hkA0 := HK3.out.alloc (.cells #[.int .i64 7, .int .i64 3] 3)
    have hwA0 := Blk.new w3 #[.int .i64 7, .int .i64 3] 3
    have hsz3 := hb3.size
    have hbA0 := hb3.alloc hsz3 (.cells #[.int .i64 7, .int .i64 3] 3)
    have HKA0 := Lib.hid hkA0
    have HWA0 := Lib.hid hwA0
    have HBA0 := Lib.hid hbA0
    clear hl' hcmp hkA0 hwA0 hbA0
    have hcg4 := con_congr (rd := b4 false true false false) (dr := i4 c c c c) (dr' := fun _ => 0) (s := s3 (x : Int) (y : Int) (z : Int)) (by
      intro k hk hr
      rcases (show k = 0 ∨ k = 1 ∨ k = 2 ∨ k = 3 by omega) with rfl | rfl | rfl | rfl
      · first | exact Or.inl HS3h.out | cases hr
      · first | exact Or.inl HS3h.out | cases hr
      · cases hr
      · cases hr)
    have HCG4 := Lib.hid hcg4
    clear hcg4
    rcases key with ⟨c1, hne, heq⟩ | ⟨c1, c2, hne, heq⟩ | ⟨c1, c2, hne, heq⟩
    all_goals
      go_wp2_with fail
      have hkA := HKA0.out
      have hwA := HWA0.out
      have hbA := HBA0.out
      generalize w3.alloc _ = WA at *
      have cA : WA.cell? ⟨w1.heap.size, 3, none⟩ = some (.bool true) := (hkA.cell 3).trans (congrArg (fun v => some (Value.bool v)) HH'.out)
      have lA : WA.cell? ⟨w1.heap.size, 4, none⟩ = some (.int .i64 k0) := (hkA.cell 4).trans (by rw [← HK0.out]; rfl)
      refine (left_any w1.heap.size 1 (by omega) true k0 _ cA lA).mono ?_
      rintro en w4 ⟨rfl, rfl⟩
      go_wp2_with fail
      refine (contend_any w1.heap.size (b4 false false false true) (i4 0 0 0 c) (s2 (x : Int) (y : Int)) hinv3.out (i4_bounds (by decide) (by decide) (by decide) ⟨by omega, by omega⟩) _ hkA).mono ?_
      rintro en w5 ⟨rfl, hk5, hg5⟩
      rw [HCG.out.2.1, HCG.out.2.2.1, HCG.out.2.2.2, F2.out, F3.out, F1.out]
      rw [HCG.out.1] at hk5
      have hw5 := hwA.grown hg5 (by simp; omega)
      have hb5 : Below w.heap.size w w5 := Below.grown hbA hg5 (by have := hbA.size; omega) (by simp; omega)
      have c5 : w5.cell? ⟨w1.heap.size, 3, none⟩ = some (.bool true) := (hk5.cell 3).trans (congrArg (fun v => some (Value.bool v)) HS3h.out)
      have l5 : w5.cell? ⟨w1.heap.size, 4, none⟩ = some (.int .i64 k0) := (hk5.cell 4).trans (by rw [← HK0.out, ← HS3l.out]; rfl)
      clear hkA hwA hbA cA lA hg5
      go_wp2_with fail
      refine (left_any w1.heap.size 1 (by omega) true k0 _ c5 l5).mono ?_
      rintro en w6 ⟨rfl, rfl⟩
      go_wp2_with fail
      refine (contend_any w1.heap.size (b4 false true false false) (i4 c c c c) (s3 (x : Int) (y : Int) (z : Int)) (conS_inv hinv3.out) (i4_bounds ⟨by omega, by omega⟩ ⟨by omega, by omega⟩ ⟨by omega, by omega⟩ ⟨by omega, by omega⟩) _ hk5).mono ?_
      rintro en w7 ⟨rfl, hk7, hg7⟩
      rw [HCG4.out.2.1, HCG4.out.2.2.1, HCG4.out.2.2.2, hW4.out, hT4.out, hB4.out, HK0.out]
      have hw7 := hw5.grown hg7 (by simp; omega)
      have d7 : w7.cell? ⟨w3.heap.size, 1, none⟩ = some (.int .i64 3) := hw7.cell 1
      have hb7 : Below w.heap.size w w7 := Below.grown hb5 hg7 (by have := hb5.size; omega) (by simp; omega)
      clear c5 l5 hk5 hk7 hg7 hw5 hw7
      go_wp2_with fail
      go_ret
      exact ⟨rfl, hb7⟩
  · have ho : o2 (x : Int) (y : Int) = 0 := by unfold o2; rw [hw]; rfl
    have hr4 : rd4 (x : Int) (y : Int) = b4 true false false false := by unfold rd4; rw [hw]; rfl
    have hlt := HLT.out
    have hl := HL.out
    have f5 := F5.out
    have f8 := F8.out
    have f7 := F7.out
    have f6 := F6.out
    have hh := HH.out
    have f4 := F4.out
    rw [ho] at hl f5 f8 f7 hh f4
    rw [hr4] at f6 f7 f8
    rw [hw] at hlt hl ⊢
    have hl' : (s2 (x : Int) (y : Int)).l 0 = max ((x : Int) - max (t2 (x : Int) (y : Int) - 7) 0) 0 := hl
    have hcmp : decide (3 + (y : Int) < 7 + (x : Int)) = true := hlt.symm
    have HH' := Lib.hid hh
    have HS3l := Lib.hid f5
    have HS3h := Lib.hid f4
    have hW4 := Lib.hid f7
    have hT4 : Hid (conT (b4 true false false false) (fun _ => 0) (s3 (x : Int) (y : Int) (z : Int)) = 7 + (s2 (x : Int) (y : Int)).l 0) := Lib.hid f8
    have hB4 := Lib.hid f6
    clear hl f5 f8 f7 f6 hh f4 hr4 ho HLT HL F4 F5 F6 F7 F8 hlt
    obtain ⟨k0, hk0⟩ : ∃ k0, (s2 (x : Int) (y : Int)).l 0 = k0 := ⟨_, rfl⟩
    have hbl := hinv3.out 0 (by omega)
    rw [show (conS (b4 true true false false) (i4 (x : Int) (y : Int) 0 0) s0).l 0 = k0 from hk0] at hbl
    rw [hk0] at hl'
    have HK0 := Lib.hid hk0
    clear hk0
    generalize t2 (x : Int) (y : Int) = T at *
    have p1 : IntKind.i64.wrap (T - 7) = T - 7 := IntWalk.i64_in _ (by omega)
    have p2 : IntKind.i64.wrap ((x : Int) - (T - 7)) = (x : Int) - (T - 7) := IntWalk.i64_in _ (by omega)
    have p3 : IntKind.i64.wrap (7 + k0) = 7 + k0 := IntWalk.i64_in _ (by omega)
    have c0 : ¬ (x : Int) < 0 := by omega
    have hyx : 3 + (y : Int) < 7 + (x : Int) := by simpa using hcmp
    have key : (T - 7 < 0 ∧ (k0 != (x : Int)) = false ∧ (k0 == (x : Int)) = true) ∨ (¬ T - 7 < 0 ∧ (x : Int) - (T - 7) < 0 ∧ (k0 != 0) = false ∧ (k0 == 0) = true) ∨
        (¬ T - 7 < 0 ∧ ¬ (x : Int) - (T - 7) < 0 ∧ (k0 != (x : Int) - (T - 7)) = false ∧ (k0 == (x : Int) - (T - 7)) = true) := by
      by_cases c1 : T - 7 < 0
      · left
        have : k0 = x := by rw [hl']; omega
        exact ⟨c1, by simp [this], by simp [this]⟩
      · right
        by_cases c2 : (x : Int) - (T - 7) < 0
        · left
          have : k0 = 0 := by rw [hl']; omega
          exact ⟨c1, c2, by simp [this], by simp [this]⟩
        · right
          have : k0 = (x : Int) - (T - 7) := by rw [hl']; omega
          exact ⟨c1, c2, by rw [this]; simp, by rw [this]; simp⟩
    have hkA0 := HK3.out.alloc (.cells #[.int .i64 7, .int .i64 3] 3)
    have hwA0 := Blk.new w3 #[.int .i64 7, .int .i64 3] 3
    have hsz3 := hb3.size
    have hbA0 := hb3.alloc hsz3 (.cells #[.int .i64 7, .int .i64 3] 3)
    have HKA0 := Lib.hid hkA0
    have HWA0 := Lib.hid hwA0
    have HBA0 := Lib.hid hbA0
    clear hl' hcmp hkA0 hwA0 hbA0
    have hcg4 := con_congr (rd := b4 true false false false) (dr := i4 c c c c) (dr' := fun _ => 0) (s := s3 (x : Int) (y : Int) (z : Int)) (by
      intro k hk hr
      rcases (show k = 0 ∨ k = 1 ∨ k = 2 ∨ k = 3 by omega) with rfl | rfl | rfl | rfl
      · first | exact Or.inl HS3h.out | cases hr
      · first | exact Or.inl HS3h.out | cases hr
      · cases hr
      · cases hr)
    have HCG4 := Lib.hid hcg4
    clear hcg4
    rcases key with ⟨c1, hne, heq⟩ | ⟨c1, c2, hne, heq⟩ | ⟨c1, c2, hne, heq⟩
    all_goals
      go_wp2_with fail
      have hkA := HKA0.out
      have hwA := HWA0.out
      have hbA := HBA0.out
      generalize w3.alloc _ = WA at *
      have cA : WA.cell? ⟨w1.heap.size, 0, none⟩ = some (.bool true) := (hkA.cell 0).trans (congrArg (fun v => some (Value.bool v)) HH'.out)
      have lA : WA.cell? ⟨w1.heap.size, 1, none⟩ = some (.int .i64 k0) := (hkA.cell 1).trans (by rw [← HK0.out]; rfl)
      refine (left_any w1.heap.size 0 (by omega) true k0 _ cA lA).mono ?_
      rintro en w4 ⟨rfl, rfl⟩
      go_wp2_with fail
      refine (contend_any w1.heap.size (b4 false false false true) (i4 0 0 0 c) (s2 (x : Int) (y : Int)) hinv3.out (i4_bounds (by decide) (by decide) (by decide) ⟨by omega, by omega⟩) _ hkA).mono ?_
      rintro en w5 ⟨rfl, hk5, hg5⟩
      rw [HCG.out.2.1, HCG.out.2.2.1, HCG.out.2.2.2, F2.out, F3.out, F1.out]
      rw [HCG.out.1] at hk5
      have hw5 := hwA.grown hg5 (by simp; omega)
      have hb5 : Below w.heap.size w w5 := Below.grown hbA hg5 (by have := hbA.size; omega) (by simp; omega)
      have c5 : w5.cell? ⟨w1.heap.size, 0, none⟩ = some (.bool true) := (hk5.cell 0).trans (congrArg (fun v => some (Value.bool v)) HS3h.out)
      have l5 : w5.cell? ⟨w1.heap.size, 1, none⟩ = some (.int .i64 k0) := (hk5.cell 1).trans (by rw [← HK0.out, ← HS3l.out]; rfl)
      clear hkA hwA hbA cA lA hg5
      go_wp2_with fail
      refine (left_any w1.heap.size 0 (by omega) true k0 _ c5 l5).mono ?_
      rintro en w6 ⟨rfl, rfl⟩
      go_wp2_with fail
      refine (contend_any w1.heap.size (b4 true false false false) (i4 c c c c) (s3 (x : Int) (y : Int) (z : Int)) (conS_inv hinv3.out) (i4_bounds ⟨by omega, by omega⟩ ⟨by omega, by omega⟩ ⟨by omega, by omega⟩ ⟨by omega, by omega⟩) _ hk5).mono ?_
      rintro en w7 ⟨rfl, hk7, hg7⟩
      rw [HCG4.out.2.1, HCG4.out.2.2.1, HCG4.out.2.2.2, hW4.out, hT4.out, hB4.out, HK0.out]
      have hw7 := hw5.grown hg7 (by simp; omega)
      have d7 : w7.cell? ⟨w3.heap.size, 0, none⟩ = some (.int .i64 7) := hw7.cell 0
      have hb7 : Below w.heap.size w w7 := Below.grown hb5 hg7 (by have := hb5.size; omega) (by simp; omega)
      clear c5 l5 hk5 hk7 hg7 hw5 hw7
      go_wp2_with fail
      go_ret
      exact ⟨rfl, hb7⟩
end Go.Proofs.Ytejlfifoehpljaa
