/-
  The walk of EdcaFirst.
-/
import Derived.Test.YtejlfifoehpljaaEdcaLaw
namespace Go.Proofs.Ytejlfifoehpljaa
open Go.ChangeShapes Go.WideShapes Go.ChangeAt Go.RowKit
open Edca
set_option linter.unusedVariables false

set_option maxRecDepth 100000 in
set_option maxHeartbeats 1000000 in
theorem edcaFirst_walk (w : World) (a : Int) (wa : (Lit.int .u32 a).wf = true) (b : Int) (wb : (Lit.int .u32 b).wf = true) :
    Calls Try.prog 3 #[.int .u32 a, .int .u32 b] w fun e w' => e = .returned (.bool true) ∧ Below w.heap.size w w' := by
  obtain ⟨ha0, ha1⟩ := bounds_u32 wa
  obtain ⟨hb0, hb1⟩ := bounds_u32 wb
  clear wa wb
  obtain ⟨x, hx, hxe⟩ := number_nat a 4 (by omega)
  obtain ⟨y, hy, hye⟩ := number_nat b 8 (by omega)
  have hxt : a.tmod 4 = (x : Int) := by rw [Int.tmod_eq_emod_of_nonneg ha0]; exact hxe
  have hyt : b.tmod 8 = (y : Int) := by rw [Int.tmod_eq_emod_of_nonneg hb0]; exact hye
  replace hxe : a % 4 = (x : Int) := hxe
  replace hye : b % 8 = (y : Int) := hye
  obtain ⟨hB, hlt, heq, hgt⟩ := first_fin ⟨x, hx⟩ ⟨y, hy⟩
  dsimp only at hB hlt heq hgt
  have HB := Lib.hid hB
  have HLT := Lib.hid hlt
  have HEQ := Lib.hid heq
  have HGT := Lib.hid hgt
  clear hB hlt heq hgt
  go_enter Try.func3, Try.ntmps3
  go_wp2_with fail
  refine (first_any _).mono ?_
  rintro en w1 ⟨rfl, hw1⟩
  go_wp2_with fail
  refine (contend_any w1.heap.size r2 (i4 0 0 (y : Int) (x : Int)) s0 inv0 (i4_bounds (by decide) (by decide) ⟨by omega, by omega⟩ ⟨by omega, by omega⟩) _ (Blk.new w1 _ _)).mono ?_
  rintro en w2 ⟨rfl, hk2, hg2⟩
  rw [HB.out]
  have hs1 := hw1.size
  have hb2 : Below w.heap.size w w2 := Below.grown (hw1.alloc hs1 _) hg2 (by simp; omega) (by simp; omega)
  have hinv := conS_inv (rd := r2) (dr := i4 0 0 (y : Int) (x : Int)) inv0
  have hl2 := hk2.lt
  have c6 : w2.cell? ⟨w1.heap.size, 6, none⟩ = some (.bool ((conS r2 (i4 0 0 (y : Int) (x : Int)) s0).h 2)) := hk2.cell 6
  have c7 : w2.cell? ⟨w1.heap.size, 7, none⟩ = some (.int .i64 ((conS r2 (i4 0 0 (y : Int) (x : Int)) s0).l 2)) := hk2.cell 7
  have c8 : w2.cell? ⟨w1.heap.size, 8, none⟩ = some (.int .i64 ((conS r2 (i4 0 0 (y : Int) (x : Int)) s0).g 2)) := hk2.cell 8
  have c9 : w2.cell? ⟨w1.heap.size, 9, none⟩ = some (.bool ((conS r2 (i4 0 0 (y : Int) (x : Int)) s0).h 3)) := hk2.cell 9
  have c10 : w2.cell? ⟨w1.heap.size, 10, none⟩ = some (.int .i64 ((conS r2 (i4 0 0 (y : Int) (x : Int)) s0).l 3)) := hk2.cell 10
  have c11 : w2.cell? ⟨w1.heap.size, 11, none⟩ = some (.int .i64 ((conS r2 (i4 0 0 (y : Int) (x : Int)) s0).g 3)) := hk2.cell 11
  have g2 := (hinv 2 (by omega)).2.2
  have g3 := (hinv 3 (by omega)).2.2
  have m2 : ms 2 - fs 2 = 8 := by decide
  have m3 : ms 3 - fs 3 = 4 := by decide
  rw [m2] at g2
  rw [m3] at g3
  generalize conS r2 (i4 0 0 (y : Int) (x : Int)) s0 = S at *
  generalize conW r2 (i4 0 0 (y : Int) (x : Int)) s0 = cw at *
  generalize conT r2 (i4 0 0 (y : Int) (x : Int)) s0 = ct at *
  have C6 := Lib.hid c6
  have C7 := Lib.hid c7
  have C8 := Lib.hid c8
  have C9 := Lib.hid c9
  have C10 := Lib.hid c10
  have C11 := Lib.hid c11
  clear c6 c7 c8 c9 c10 c11 hinv hg2 hk2 HB m2 m3
  have q1 : IntKind.i64.wrap (2 + (x : Int)) = 2 + x := IntWalk.i64_in _ (by omega)
  have q2 : IntKind.i64.wrap (2 + (y : Int)) = 2 + y := IntWalk.i64_in _ (by omega)
  have q3 : IntKind.i64.wrap (x : Int) = x := IntWalk.i64_in _ (by omega)
  have q4 : IntKind.i64.wrap (y : Int) = y := IntWalk.i64_in _ (by omega)
  rcases Nat.lt_trichotomy y x with h | h | h
  · obtain ⟨rfl, rfl, e3, e4⟩ := HLT.out h
    have q5 : IntKind.u32.wrap ((x : Int) - y) = (x : Int) - y := by rw [IntKind.wrap_u32]; omega
    have q6 : IntKind.i64.wrap ((x : Int) - y) = (x : Int) - y := IntWalk.i64_in _ (by omega)
    have hyx : (y : Int) < x := by omega
    clear HLT HEQ HGT
    go_wp2_with fail
    refine (left_any w1.heap.size 2 (by omega) (S.h 2) (S.l 2) _ C6.out C7.out).mono ?_
    rintro en w3 ⟨rfl, rfl⟩
    go_wp2_with fail
    refine (left_any w1.heap.size 3 (by omega) (S.h 3) (S.l 3) _ C9.out C10.out).mono ?_
    rintro en w3 ⟨rfl, rfl⟩
    rw [e3, e4]
    go_wp2_with fail
    go_ret
    exact ⟨rfl, hb2⟩
  · subst h
    obtain ⟨rfl, rfl, e3, e4, e5⟩ := HEQ.out rfl
    clear HLT HEQ HGT
    go_wp2_with fail
    refine (left_any w1.heap.size 2 (by omega) (S.h 2) (S.l 2) _ C6.out C7.out).mono ?_
    rintro en w3 ⟨rfl, rfl⟩
    rw [e3]
    go_wp2_with fail
    refine (window_any w1.heap.size 2 (by omega) (S.g 2) g2.1 (by omega) _ hl2 C8.out).mono ?_
    rintro en w3 ⟨rfl, hb3⟩
    rw [show fs 2 + S.g 2 = 15 from e4]
    have hs3 := hb3.size
    go_wp2_with fail
    refine (window_any w1.heap.size 3 (by omega) (S.g 3) g3.1 (by omega) _ (by omega) ((hb3.cell (p := ⟨w1.heap.size, 11, none⟩) hl2).trans C11.out)).mono ?_
    rintro en w4 ⟨rfl, hb4⟩
    rw [show fs 3 + S.g 3 = 3 from e5]
    have hs2 := hb2.size
    go_wp2_with fail
    go_ret
    exact ⟨rfl, (hb2.trans (hb3.mono (by omega))).trans (hb4.mono (by omega))⟩
  · obtain ⟨rfl, rfl, e3, e4, e5⟩ := HGT.out h
    have q5 : IntKind.u32.wrap ((y : Int) - x) = (y : Int) - x := by rw [IntKind.wrap_u32]; omega
    have q6 : IntKind.i64.wrap ((y : Int) - x) = (y : Int) - x := IntWalk.i64_in _ (by omega)
    have hyx : ¬ (y : Int) < x := by omega
    have hne : ((x : Int) == (y : Int)) = false := by simp; omega
    clear HLT HEQ HGT
    go_wp2_with fail
    refine (left_any w1.heap.size 2 (by omega) (S.h 2) (S.l 2) _ C6.out C7.out).mono ?_
    rintro en w3 ⟨rfl, rfl⟩
    rw [e3, e4]
    go_wp2_with fail
    refine (window_any w1.heap.size 2 (by omega) (S.g 2) g2.1 (by omega) _ hl2 C8.out).mono ?_
    rintro en w3 ⟨rfl, hb3⟩
    rw [show fs 2 + S.g 2 = 7 from e5]
    have hs2 := hb2.size
    go_wp2_with fail
    go_ret
    exact ⟨rfl, hb2.trans (hb3.mono (by omega))⟩
end Go.Proofs.Ytejlfifoehpljaa
