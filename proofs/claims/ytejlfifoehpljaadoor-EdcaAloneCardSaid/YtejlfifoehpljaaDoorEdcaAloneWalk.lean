/-
  The walk of EdcaAlone.
-/
import Derived.Test.YtejlfifoehpljaaDoorEdcaEnd
import Derived.Test.YtejlfifoehpljaaDoorEdcaLaw
import Derived.Test.YtejlfifoehpljaaDoorEdcaAlonePlain
import Derived.Test.YtejlfifoehpljaaDoorSee
import Derived.Test.YtejlfifoehpljaaDoorNumber
namespace Go.Proofs.YtejlfifoehpljaaDoor
open Go.ChangeShapes Go.WideShapes Go.ChangeAt Go.RowKit
open Edca
set_option linter.unusedVariables false

theorem three_new (W : World) (c1 c2 c3 : Array Value) (t1 t2 t3 : TypeId) : Blk (((W.alloc (.cells c1 t1)).alloc (.cells c2 t2)).alloc (.cells c3 t3)) W.heap.size c1 t1 ∧ Blk (((W.alloc (.cells c1 t1)).alloc (.cells c2 t2)).alloc (.cells c3 t3)) (W.heap.size + 1) c2 t2 ∧ Blk (((W.alloc (.cells c1 t1)).alloc (.cells c2 t2)).alloc (.cells c3 t3)) (W.heap.size + 2) c3 t3 := by
  refine ⟨((Blk.new W c1 t1).alloc _).alloc _, ?_, ?_⟩
  · have := (Blk.new (W.alloc (.cells c1 t1)) c2 t2).alloc (.cells c3 t3)
    simpa using this
  · have := Blk.new ((W.alloc (.cells c1 t1)).alloc (.cells c2 t2)) c3 t3
    simpa using this
def gSt (g : Nat → Int) : St := { h := fun _ => false, l := fun _ => 0, g := g }
theorem gSt_inv {g : Nat → Int} (h : ∀ k, k < 4 → 0 ≤ g k ∧ g k ≤ ms k - fs k) : Inv (gSt g) := fun k hk => ⟨by show (0 : Int) ≤ 0; omega, by show (0 : Int) ≤ 1023; omega, (h k hk).1, (h k hk).2⟩
theorem upd_range {g : Nat → Int} (h : ∀ k, k < 4 → 0 ≤ g k ∧ g k ≤ ms k - fs k) {j : Nat} {v : Int} (hv : 0 ≤ v ∧ v ≤ ms j - fs j) : ∀ k, k < 4 → 0 ≤ upd g j v k ∧ upd g j v k ≤ ms k - fs k := by
  intro k hk
  by_cases e : k = j
  · subst e; rw [upd_at]; exact hv
  · rw [upd_ne _ _ e]; exact h k hk

theorem alone_at0 (g : Nat → Int) (d : Int) : conS (b4 true false false false) (i4 d 0 0 0) (gSt g) = gSt g ∧ conW (b4 true false false false) (i4 d 0 0 0) (gSt g) = 0 ∧ conT (b4 true false false false) (i4 d 0 0 0) (gSt g) = 7 + d % (fs 0 + g 0 + 1) ∧ conB (b4 true false false false) (i4 d 0 0 0) (gSt g) = true := by
  have := alone_law (rd := b4 true false false false) (dr := i4 d 0 0 0) (s := gSt g) (ac := 0) (by omega) (by
    intro k hk hne
    rcases (show k = 0 ∨ k = 1 ∨ k = 2 ∨ k = 3 by omega) with rfl | rfl | rfl | rfl <;> first | rfl | exact absurd rfl hne) rfl rfl rfl
  exact this

theorem alone_at1 (g : Nat → Int) (d : Int) : conS (b4 false true false false) (i4 0 d 0 0) (gSt g) = gSt g ∧ conW (b4 false true false false) (i4 0 d 0 0) (gSt g) = 1 ∧ conT (b4 false true false false) (i4 0 d 0 0) (gSt g) = 3 + d % (fs 1 + g 1 + 1) ∧ conB (b4 false true false false) (i4 0 d 0 0) (gSt g) = true := by
  have := alone_law (rd := b4 false true false false) (dr := i4 0 d 0 0) (s := gSt g) (ac := 1) (by omega) (by
    intro k hk hne
    rcases (show k = 0 ∨ k = 1 ∨ k = 2 ∨ k = 3 by omega) with rfl | rfl | rfl | rfl <;> first | rfl | exact absurd rfl hne) rfl rfl rfl
  exact this

theorem alone_at2 (g : Nat → Int) (d : Int) : conS (b4 false false true false) (i4 0 0 d 0) (gSt g) = gSt g ∧ conW (b4 false false true false) (i4 0 0 d 0) (gSt g) = 2 ∧ conT (b4 false false true false) (i4 0 0 d 0) (gSt g) = 2 + d % (fs 2 + g 2 + 1) ∧ conB (b4 false false true false) (i4 0 0 d 0) (gSt g) = true := by
  have := alone_law (rd := b4 false false true false) (dr := i4 0 0 d 0) (s := gSt g) (ac := 2) (by omega) (by
    intro k hk hne
    rcases (show k = 0 ∨ k = 1 ∨ k = 2 ∨ k = 3 by omega) with rfl | rfl | rfl | rfl <;> first | rfl | exact absurd rfl hne) rfl rfl rfl
  exact this

theorem alone_at3 (g : Nat → Int) (d : Int) : conS (b4 false false false true) (i4 0 0 0 d) (gSt g) = gSt g ∧ conW (b4 false false false true) (i4 0 0 0 d) (gSt g) = 3 ∧ conT (b4 false false false true) (i4 0 0 0 d) (gSt g) = 2 + d % (fs 3 + g 3 + 1) ∧ conB (b4 false false false true) (i4 0 0 0 d) (gSt g) = true := by
  have := alone_law (rd := b4 false false false true) (dr := i4 0 0 0 d) (s := gSt g) (ac := 3) (by omega) (by
    intro k hk hne
    rcases (show k = 0 ∨ k = 1 ∨ k = 2 ∨ k = 3 by omega) with rfl | rfl | rfl | rfl <;> first | rfl | exact absurd rfl hne) rfl rfl rfl
  exact this

set_option maxRecDepth 100000 in
set_option maxHeartbeats 2000000 in
theorem alone_walk0 (w : World) {E : Nat → Addr} (hE : Errs allErr w E) (a0 : Int) (hk : a0 % 4 = 0) (ha0 : -9223372036854775808 ≤ a0) (ha1 : a0 ≤ 9223372036854775807) (a1 : Int) (m : Nat) (hm : m < 12) (hme : a1 % 12 = (m : Int)) (hb0 : -9223372036854775808 ≤ a1) (hb1 : a1 ≤ 9223372036854775807) (d : Int) (hd0 : 0 ≤ d) (hd1 : d ≤ 4294967295) :
    Calls Tryd.prog 3 #[.int .i64 a0, .int .i64 a1, .int .u32 d] w fun e w' => e = .returned (.bool true) ∧ Below w.heap.size w w' := by
  have HKE := Lib.hid hk
  have HME := Lib.hid hme
  clear hk hme
  go_enter Tryd.func3, Tryd.ntmps3
  go_wp2_with fail
  refine (first_any _).mono ?_
  rintro en w1 ⟨rfl, hw1⟩
  have h1 := hE.below hw1 (Nat.le_refl _)
  have hs1 := hw1.size
  go_wp2_with fail
  refine (number_any a0 4 _ (by omega) (by omega) ha0 ha1).mono ?_
  rintro en w2 ⟨rfl, rfl⟩
  rw [HKE.out]
  go_wp2_with fail
  refine (number_any a1 12 _ (by omega) (by omega) hb0 hb1).mono ?_
  rintro en w2 ⟨rfl, rfl⟩
  rw [HME.out]
  have HE := Lib.hid hE
  clear hE
  have hsz : (((w1.alloc (.cells #[.int .i64 7, .int .i64 3, .int .i64 2, .int .i64 2] 3)).alloc (.cells #[.int .i64 15, .int .i64 15, .int .i64 7, .int .i64 3] 3)).alloc (.cells #[.int .i64 1023, .int .i64 63, .int .i64 15, .int .i64 7] 3)).heap.size = w1.heap.size + 3 := by simp
  have hbA : Below w.heap.size w (((w1.alloc (.cells #[.int .i64 7, .int .i64 3, .int .i64 2, .int .i64 2] 3)).alloc (.cells #[.int .i64 15, .int .i64 15, .int .i64 7, .int .i64 3] 3)).alloc (.cells #[.int .i64 1023, .int .i64 63, .int .i64 15, .int .i64 7] 3)) :=
    ((hw1.alloc hs1 _).alloc (by simp; omega) _).alloc (by simp; omega) _
  have hb3 := three_new (((w1.alloc (.cells #[.int .i64 7, .int .i64 3, .int .i64 2, .int .i64 2] 3)).alloc (.cells #[.int .i64 15, .int .i64 15, .int .i64 7, .int .i64 3] 3)).alloc (.cells #[.int .i64 1023, .int .i64 63, .int .i64 15, .int .i64 7] 3)) #[.bool false, .int .i64 0, .int .i64 0, .bool false, .int .i64 0, .int .i64 0, .bool false, .int .i64 0, .int .i64 0, .bool false, .int .i64 0, .int .i64 0] #[.bool true, .bool false, .bool false, .bool false] #[.int .u32 d, .int .u32 0, .int .u32 0, .int .u32 0] 30 31 32
  rw [hsz] at hb3
  obtain ⟨hB, hR, hD⟩ := hb3
  have hb4 := ((hbA.alloc (by rw [hsz]; omega) (.cells #[.bool false, .int .i64 0, .int .i64 0, .bool false, .int .i64 0, .int .i64 0, .bool false, .int .i64 0, .int .i64 0, .bool false, .int .i64 0, .int .i64 0] 30)).alloc (by simp; omega) (.cells #[.bool true, .bool false, .bool false, .bool false] 31)).alloc (by simp; omega) (.cells #[.int .u32 d, .int .u32 0, .int .u32 0, .int .u32 0] 32)
  have HBw := Lib.hid hb4
  have HB := Lib.hid hB
  have HR := Lib.hid hR
  have HD := Lib.hid hD
  clear hb4 hbA hB hR hD hsz hw1 h1
  go_wp2_with fail
  have hBW := HBw.out
  have hB := HB.out
  have hR := HR.out
  have hD := HD.out
  clear HBw HB HR HD
  generalize (((((w1.alloc (.cells #[.int .i64 7, .int .i64 3, .int .i64 2, .int .i64 2] 3)).alloc (.cells #[.int .i64 15, .int .i64 15, .int .i64 7, .int .i64 3] 3)).alloc (.cells #[.int .i64 1023, .int .i64 63, .int .i64 15, .int .i64 7] 3)).alloc _).alloc _).alloc _ = W at *
  generalize w1.heap.size = n at *
  replace hB : Blk W (n + 3) (ecells (fun _ => false) (fun _ => 0) (fun _ => 0)) 30 := hB
  replace hR : Blk W (n + 4) (bv (b4 true false false false)) 31 := hR
  replace hD : Blk W (n + 5) (uv (i4 d 0 0 0)) 32 := hD
  go_loopw [15, 9] (fun i wv wr => ∃ j : Nat, j ≤ m ∧ i = .int .i64 j ∧ ∃ g : Nat → Int, Hid (∀ k, k < 4 → 0 ≤ g k ∧ g k ≤ ms k - fs k) ∧ wv = .int .i64 (fs 0 + g 0) ∧ Blk wr (n + 3) (ecells (fun _ => false) (fun _ => 0) g) 30 ∧
    Blk wr (n + 4) (bv (b4 true false false false)) 31 ∧ Blk wr (n + 5) (uv (i4 d 0 0 0)) 32 ∧ Hid (Below w.heap.size w wr)) (fun i _ _ => m - (intOf i).toNat)
  case atStart => exact ⟨0, by omega, rfl, fun _ => 0, Lib.hid (by intro k hk; rcases (show k = 0 ∨ k = 1 ∨ k = 2 ∨ k = 3 by omega) with rfl | rfl | rfl | rfl <;> decide), rfl, hB, hR, hD, Lib.hid hBW⟩
  case round =>
    obtain ⟨j, hj, rfl, g, hgr, rfl, hBx, hRx, hDx, hbx⟩ := hrel
    have hgK := hgr.out 0 (by omega)
    have hfs : fs 0 = 15 := rfl
    have hms : ms 0 = 1023 := rfl
    rw [hfs, hms] at hgK
    have hlB := hBx.lt
    by_cases hjm : (j : Int) < (m : Int)
    · obtain ⟨M, hM⟩ : ∃ M, fs 0 + g 0 + 1 = M := ⟨_, rfl⟩
      have hM4 : 4 ≤ M ∧ M ≤ 1024 := by rw [← hM, hfs]; omega
      have q1 : IntKind.i64.wrap (fs 0 + g 0 + 1) = M := by rw [hM]; exact IntWalk.i64_in _ (by omega)
      have q2 : IntKind.u32.wrap M = M := by rw [IntKind.wrap_u32]; omega
      have q3 : ¬ M = 0 := by omega
      have q4 := Int.emod_nonneg d q3
      have q5 := Int.emod_lt_of_pos d (show 0 < M by omega)
      have q6 : IntKind.i64.wrap (d.tmod M) = d % M := by rw [Int.tmod_eq_emod_of_nonneg hd0]; exact IntWalk.i64_in _ (by omega)
      have q7 : IntKind.i64.wrap (7 + d % M) = 7 + d % M := IntWalk.i64_in _ (by omega)
      have p1 : IntKind.i64.wrap (2 * (fs 0 + g 0)) = 2 * (fs 0 + g 0) := IntWalk.i64_in _ (by rw [hfs]; omega)
      have p2 : IntKind.i64.wrap (2 * (fs 0 + g 0) + 1) = 2 * (fs 0 + g 0) + 1 := IntWalk.i64_in _ (by rw [hfs]; omega)
      have hgw := grown_win g 0
      unfold win at hgw
      have hgn := grown_bounds (g := g) (k := 0) (by omega) (hgr.out 0 (by omega)).1 (hgr.out 0 (by omega)).2
      have HGW := Lib.hid hgw
      have HM := Lib.hid hM
      have HMS := Lib.hid hms
      have ni : ∀ w, (binOp .neq 37 .nilIface .nilIface).run Tryd.prog w = .ok (.bool false) w := fun w => err_nonnil E none w
      clear hgw hM hfs hms
      go_wp2_with (first
        | (refine wpList_load_blk _ (by rfl) 31 _ rfl (n + 4) rfl 31 _ _ hRx Tryd.underlying31 rfl (by kernel_rfl) ?_)
        | (refine wpList_load_blk _ (by rfl) 32 _ rfl (n + 5) rfl 32 _ _ hDx Tryd.underlying32 rfl (by kernel_rfl) ?_))
      refine (contend_any (n + 3) (b4 true false false false) (i4 d 0 0 0) (gSt g) (gSt_inv hgr.out) (i4_bounds ⟨by omega, by omega⟩ (by decide) (by decide) (by decide)) _ hBx).mono ?_
      rintro en w3 ⟨rfl, hk3, hg3⟩
      rw [(alone_at0 g d).2.1, (alone_at0 g d).2.2.1, (alone_at0 g d).2.2.2, HM.out]
      rw [(alone_at0 g d).1] at hk3
      have hk3 : Blk w3 (n + 3) (ecells (fun _ => false) (fun _ => 0) g) 30 := hk3
      have hR3 := hRx.grown hg3 (by simp)
      have hD3 := hDx.grown hg3 (by simp)
      have hb3 := Lib.hid (Below.grown hbx.out hg3 (by have := hbx.out.size; omega) (by simp; omega))
      have hl3 := hk3.lt
      clear hBx hRx hDx hg3
      go_wp2_with fail
      refine (window_any (n + 3) 0 (by omega) (g 0) hgK.1 (by omega) _ hl3 (hk3.cell 2)).mono ?_
      rintro en w4 ⟨rfl, hw4⟩
      have hk4 := hk3.below hw4 hl3
      have hl4 := hk4.lt
      have hR4 := hR3.below hw4 hR3.lt
      have hD4 := hD3.below hw4 hD3.lt
      have hb4 := Lib.hid (hb3.out.trans (hw4.mono (by have := hb3.out.size; omega)))
      clear hk3 hR3 hD3
      go_wp2_with fail
      refine (end_ill (n + 3) 0 (by omega) (fun _ => false) (fun _ => 0) g hgK.1 (by omega) _ hk4).mono ?_
      rintro en w5 ⟨rfl, hk5, hg5⟩
      have hR5 := hR4.grown hg5 (by simp)
      have hD5 := hD4.grown hg5 (by simp)
      have hb5 := Lib.hid (Below.grown hb4.out hg5 (by have := hb4.out.size; omega) (by simp; omega))
      clear hk4 hR4 hD4 hg5 hw4
      by_cases hmm : 2 * (fs 0 + g 0) + 1 ≤ 1023
      all_goals
        go_wp2_with fail
        all_goals
          go_roundw
          case rel =>
            refine ⟨j + 1, by omega, by go_num, upd g 0 (grown g 0), Lib.hid (upd_range hgr.out hgn), ?_, hk5, hR5, hD5, hb5⟩
            rw [HGW.out, HMS.out]
            congr 1
            omega
          case measure => simp [intOf]; omega
    · have hjm' : j = m := by omega
      subst hjm'
      have ni : ∀ w, (binOp .neq 37 .nilIface .nilIface).run Tryd.prog w = .ok (.bool false) w := fun w => err_nonnil E none w
      clear hfs hms
      go_wp2_with fail
      refine (window_any (n + 3) 0 (by omega) (g 0) hgK.1 (by omega) _ hlB (hBx.cell 2)).mono ?_
      rintro en w4 ⟨rfl, hw4⟩
      have hk4 := hBx.below hw4 hlB
      have hb4 := Lib.hid (hbx.out.trans (hw4.mono (by have := hbx.out.size; omega)))
      clear hBx hRx hDx hw4
      go_wp2_with fail
      refine (end_well (n + 3) 0 (by omega) (fun _ => false) (fun _ => 0) g _ hk4).mono ?_
      rintro en w5 ⟨rfl, hk5, hg5⟩
      have hb5 := Lib.hid (Below.grown hb4.out hg5 (by have := hb4.out.size; omega) (by simp; omega))
      have hl5 := hk5.lt
      clear hk4 hg5
      go_wp2_with fail
      refine (window_any (n + 3) 0 (by omega) 0 (by omega) (by omega) _ hl5 (hk5.cell 2)).mono ?_
      rintro en w6 ⟨rfl, hw6⟩
      rw [show fs 0 + 0 = 15 from rfl]
      have hb6 := hb5.out.trans (hw6.mono (by have := hb5.out.size; omega))
      have h6 := HE.out.below hb6 (Nat.le_refl _)
      clear hk5 hw6
      go_wp2_with fail
      refine (end_four (n + 3) true _ h6).mono ?_
      rintro en w7 ⟨rfl, rfl⟩
      go_wp2_with fail
      refine (is_any h6 (some 2) (by intro i h; cases h; decide) 103).mono ?_
      rintro en w8 ⟨rfl, hw8⟩
      rw [show (errCode (some 2) == 103) = true from rfl]
      have hs6 := hb6.size
      go_wp2_with fail
      refine (window_none (n + 3) _).mono ?_
      rintro en w9 ⟨rfl, rfl⟩
      go_wp2_with fail
      go_ret
      exact ⟨rfl, hb6.trans (hw8.mono (by omega))⟩

set_option maxRecDepth 100000 in
set_option maxHeartbeats 2000000 in
theorem alone_walk1 (w : World) {E : Nat → Addr} (hE : Errs allErr w E) (a0 : Int) (hk : a0 % 4 = 1) (ha0 : -9223372036854775808 ≤ a0) (ha1 : a0 ≤ 9223372036854775807) (a1 : Int) (m : Nat) (hm : m < 12) (hme : a1 % 12 = (m : Int)) (hb0 : -9223372036854775808 ≤ a1) (hb1 : a1 ≤ 9223372036854775807) (d : Int) (hd0 : 0 ≤ d) (hd1 : d ≤ 4294967295) :
    Calls Tryd.prog 3 #[.int .i64 a0, .int .i64 a1, .int .u32 d] w fun e w' => e = .returned (.bool true) ∧ Below w.heap.size w w' := by
  have HKE := Lib.hid hk
  have HME := Lib.hid hme
  clear hk hme
  go_enter Tryd.func3, Tryd.ntmps3
  go_wp2_with fail
  refine (first_any _).mono ?_
  rintro en w1 ⟨rfl, hw1⟩
  have h1 := hE.below hw1 (Nat.le_refl _)
  have hs1 := hw1.size
  go_wp2_with fail
  refine (number_any a0 4 _ (by omega) (by omega) ha0 ha1).mono ?_
  rintro en w2 ⟨rfl, rfl⟩
  rw [HKE.out]
  go_wp2_with fail
  refine (number_any a1 12 _ (by omega) (by omega) hb0 hb1).mono ?_
  rintro en w2 ⟨rfl, rfl⟩
  rw [HME.out]
  have HE := Lib.hid hE
  clear hE
  have hsz : (((w1.alloc (.cells #[.int .i64 7, .int .i64 3, .int .i64 2, .int .i64 2] 3)).alloc (.cells #[.int .i64 15, .int .i64 15, .int .i64 7, .int .i64 3] 3)).alloc (.cells #[.int .i64 1023, .int .i64 63, .int .i64 15, .int .i64 7] 3)).heap.size = w1.heap.size + 3 := by simp
  have hbA : Below w.heap.size w (((w1.alloc (.cells #[.int .i64 7, .int .i64 3, .int .i64 2, .int .i64 2] 3)).alloc (.cells #[.int .i64 15, .int .i64 15, .int .i64 7, .int .i64 3] 3)).alloc (.cells #[.int .i64 1023, .int .i64 63, .int .i64 15, .int .i64 7] 3)) :=
    ((hw1.alloc hs1 _).alloc (by simp; omega) _).alloc (by simp; omega) _
  have hb3 := three_new (((w1.alloc (.cells #[.int .i64 7, .int .i64 3, .int .i64 2, .int .i64 2] 3)).alloc (.cells #[.int .i64 15, .int .i64 15, .int .i64 7, .int .i64 3] 3)).alloc (.cells #[.int .i64 1023, .int .i64 63, .int .i64 15, .int .i64 7] 3)) #[.bool false, .int .i64 0, .int .i64 0, .bool false, .int .i64 0, .int .i64 0, .bool false, .int .i64 0, .int .i64 0, .bool false, .int .i64 0, .int .i64 0] #[.bool false, .bool true, .bool false, .bool false] #[.int .u32 0, .int .u32 d, .int .u32 0, .int .u32 0] 30 31 32
  rw [hsz] at hb3
  obtain ⟨hB, hR, hD⟩ := hb3
  have hb4 := ((hbA.alloc (by rw [hsz]; omega) (.cells #[.bool false, .int .i64 0, .int .i64 0, .bool false, .int .i64 0, .int .i64 0, .bool false, .int .i64 0, .int .i64 0, .bool false, .int .i64 0, .int .i64 0] 30)).alloc (by simp; omega) (.cells #[.bool false, .bool true, .bool false, .bool false] 31)).alloc (by simp; omega) (.cells #[.int .u32 0, .int .u32 d, .int .u32 0, .int .u32 0] 32)
  have HBw := Lib.hid hb4
  have HB := Lib.hid hB
  have HR := Lib.hid hR
  have HD := Lib.hid hD
  clear hb4 hbA hB hR hD hsz hw1 h1
  go_wp2_with fail
  have hBW := HBw.out
  have hB := HB.out
  have hR := HR.out
  have hD := HD.out
  clear HBw HB HR HD
  generalize (((((w1.alloc (.cells #[.int .i64 7, .int .i64 3, .int .i64 2, .int .i64 2] 3)).alloc (.cells #[.int .i64 15, .int .i64 15, .int .i64 7, .int .i64 3] 3)).alloc (.cells #[.int .i64 1023, .int .i64 63, .int .i64 15, .int .i64 7] 3)).alloc _).alloc _).alloc _ = W at *
  generalize w1.heap.size = n at *
  replace hB : Blk W (n + 3) (ecells (fun _ => false) (fun _ => 0) (fun _ => 0)) 30 := hB
  replace hR : Blk W (n + 4) (bv (b4 false true false false)) 31 := hR
  replace hD : Blk W (n + 5) (uv (i4 0 d 0 0)) 32 := hD
  go_loopw [15, 9] (fun i wv wr => ∃ j : Nat, j ≤ m ∧ i = .int .i64 j ∧ ∃ g : Nat → Int, Hid (∀ k, k < 4 → 0 ≤ g k ∧ g k ≤ ms k - fs k) ∧ wv = .int .i64 (fs 1 + g 1) ∧ Blk wr (n + 3) (ecells (fun _ => false) (fun _ => 0) g) 30 ∧
    Blk wr (n + 4) (bv (b4 false true false false)) 31 ∧ Blk wr (n + 5) (uv (i4 0 d 0 0)) 32 ∧ Hid (Below w.heap.size w wr)) (fun i _ _ => m - (intOf i).toNat)
  case atStart => exact ⟨0, by omega, rfl, fun _ => 0, Lib.hid (by intro k hk; rcases (show k = 0 ∨ k = 1 ∨ k = 2 ∨ k = 3 by omega) with rfl | rfl | rfl | rfl <;> decide), rfl, hB, hR, hD, Lib.hid hBW⟩
  case round =>
    obtain ⟨j, hj, rfl, g, hgr, rfl, hBx, hRx, hDx, hbx⟩ := hrel
    have hgK := hgr.out 1 (by omega)
    have hfs : fs 1 = 15 := rfl
    have hms : ms 1 = 63 := rfl
    rw [hfs, hms] at hgK
    have hlB := hBx.lt
    by_cases hjm : (j : Int) < (m : Int)
    · obtain ⟨M, hM⟩ : ∃ M, fs 1 + g 1 + 1 = M := ⟨_, rfl⟩
      have hM4 : 4 ≤ M ∧ M ≤ 1024 := by rw [← hM, hfs]; omega
      have q1 : IntKind.i64.wrap (fs 1 + g 1 + 1) = M := by rw [hM]; exact IntWalk.i64_in _ (by omega)
      have q2 : IntKind.u32.wrap M = M := by rw [IntKind.wrap_u32]; omega
      have q3 : ¬ M = 0 := by omega
      have q4 := Int.emod_nonneg d q3
      have q5 := Int.emod_lt_of_pos d (show 0 < M by omega)
      have q6 : IntKind.i64.wrap (d.tmod M) = d % M := by rw [Int.tmod_eq_emod_of_nonneg hd0]; exact IntWalk.i64_in _ (by omega)
      have q7 : IntKind.i64.wrap (3 + d % M) = 3 + d % M := IntWalk.i64_in _ (by omega)
      have p1 : IntKind.i64.wrap (2 * (fs 1 + g 1)) = 2 * (fs 1 + g 1) := IntWalk.i64_in _ (by rw [hfs]; omega)
      have p2 : IntKind.i64.wrap (2 * (fs 1 + g 1) + 1) = 2 * (fs 1 + g 1) + 1 := IntWalk.i64_in _ (by rw [hfs]; omega)
      have hgw := grown_win g 1
      unfold win at hgw
      have hgn := grown_bounds (g := g) (k := 1) (by omega) (hgr.out 1 (by omega)).1 (hgr.out 1 (by omega)).2
      have HGW := Lib.hid hgw
      have HM := Lib.hid hM
      have HMS := Lib.hid hms
      have ni : ∀ w, (binOp .neq 37 .nilIface .nilIface).run Tryd.prog w = .ok (.bool false) w := fun w => err_nonnil E none w
      clear hgw hM hfs hms
      go_wp2_with (first
        | (refine wpList_load_blk _ (by rfl) 31 _ rfl (n + 4) rfl 31 _ _ hRx Tryd.underlying31 rfl (by kernel_rfl) ?_)
        | (refine wpList_load_blk _ (by rfl) 32 _ rfl (n + 5) rfl 32 _ _ hDx Tryd.underlying32 rfl (by kernel_rfl) ?_))
      refine (contend_any (n + 3) (b4 false true false false) (i4 0 d 0 0) (gSt g) (gSt_inv hgr.out) (i4_bounds (by decide) ⟨by omega, by omega⟩ (by decide) (by decide)) _ hBx).mono ?_
      rintro en w3 ⟨rfl, hk3, hg3⟩
      rw [(alone_at1 g d).2.1, (alone_at1 g d).2.2.1, (alone_at1 g d).2.2.2, HM.out]
      rw [(alone_at1 g d).1] at hk3
      have hk3 : Blk w3 (n + 3) (ecells (fun _ => false) (fun _ => 0) g) 30 := hk3
      have hR3 := hRx.grown hg3 (by simp)
      have hD3 := hDx.grown hg3 (by simp)
      have hb3 := Lib.hid (Below.grown hbx.out hg3 (by have := hbx.out.size; omega) (by simp; omega))
      have hl3 := hk3.lt
      clear hBx hRx hDx hg3
      go_wp2_with fail
      refine (window_any (n + 3) 1 (by omega) (g 1) hgK.1 (by omega) _ hl3 (hk3.cell 5)).mono ?_
      rintro en w4 ⟨rfl, hw4⟩
      have hk4 := hk3.below hw4 hl3
      have hl4 := hk4.lt
      have hR4 := hR3.below hw4 hR3.lt
      have hD4 := hD3.below hw4 hD3.lt
      have hb4 := Lib.hid (hb3.out.trans (hw4.mono (by have := hb3.out.size; omega)))
      clear hk3 hR3 hD3
      go_wp2_with fail
      refine (end_ill (n + 3) 1 (by omega) (fun _ => false) (fun _ => 0) g hgK.1 (by omega) _ hk4).mono ?_
      rintro en w5 ⟨rfl, hk5, hg5⟩
      have hR5 := hR4.grown hg5 (by simp)
      have hD5 := hD4.grown hg5 (by simp)
      have hb5 := Lib.hid (Below.grown hb4.out hg5 (by have := hb4.out.size; omega) (by simp; omega))
      clear hk4 hR4 hD4 hg5 hw4
      by_cases hmm : 2 * (fs 1 + g 1) + 1 ≤ 63
      all_goals
        go_wp2_with fail
        all_goals
          go_roundw
          case rel =>
            refine ⟨j + 1, by omega, by go_num, upd g 1 (grown g 1), Lib.hid (upd_range hgr.out hgn), ?_, hk5, hR5, hD5, hb5⟩
            rw [HGW.out, HMS.out]
            congr 1
            omega
          case measure => simp [intOf]; omega
    · have hjm' : j = m := by omega
      subst hjm'
      have ni : ∀ w, (binOp .neq 37 .nilIface .nilIface).run Tryd.prog w = .ok (.bool false) w := fun w => err_nonnil E none w
      clear hfs hms
      go_wp2_with fail
      refine (window_any (n + 3) 1 (by omega) (g 1) hgK.1 (by omega) _ hlB (hBx.cell 5)).mono ?_
      rintro en w4 ⟨rfl, hw4⟩
      have hk4 := hBx.below hw4 hlB
      have hb4 := Lib.hid (hbx.out.trans (hw4.mono (by have := hbx.out.size; omega)))
      clear hBx hRx hDx hw4
      go_wp2_with fail
      refine (end_well (n + 3) 1 (by omega) (fun _ => false) (fun _ => 0) g _ hk4).mono ?_
      rintro en w5 ⟨rfl, hk5, hg5⟩
      have hb5 := Lib.hid (Below.grown hb4.out hg5 (by have := hb4.out.size; omega) (by simp; omega))
      have hl5 := hk5.lt
      clear hk4 hg5
      go_wp2_with fail
      refine (window_any (n + 3) 1 (by omega) 0 (by omega) (by omega) _ hl5 (hk5.cell 5)).mono ?_
      rintro en w6 ⟨rfl, hw6⟩
      rw [show fs 1 + 0 = 15 from rfl]
      have hb6 := hb5.out.trans (hw6.mono (by have := hb5.out.size; omega))
      have h6 := HE.out.below hb6 (Nat.le_refl _)
      clear hk5 hw6
      go_wp2_with fail
      refine (end_four (n + 3) true _ h6).mono ?_
      rintro en w7 ⟨rfl, rfl⟩
      go_wp2_with fail
      refine (is_any h6 (some 2) (by intro i h; cases h; decide) 103).mono ?_
      rintro en w8 ⟨rfl, hw8⟩
      rw [show (errCode (some 2) == 103) = true from rfl]
      have hs6 := hb6.size
      go_wp2_with fail
      refine (window_none (n + 3) _).mono ?_
      rintro en w9 ⟨rfl, rfl⟩
      go_wp2_with fail
      go_ret
      exact ⟨rfl, hb6.trans (hw8.mono (by omega))⟩

set_option maxRecDepth 100000 in
set_option maxHeartbeats 2000000 in
theorem alone_walk2 (w : World) {E : Nat → Addr} (hE : Errs allErr w E) (a0 : Int) (hk : a0 % 4 = 2) (ha0 : -9223372036854775808 ≤ a0) (ha1 : a0 ≤ 9223372036854775807) (a1 : Int) (m : Nat) (hm : m < 12) (hme : a1 % 12 = (m : Int)) (hb0 : -9223372036854775808 ≤ a1) (hb1 : a1 ≤ 9223372036854775807) (d : Int) (hd0 : 0 ≤ d) (hd1 : d ≤ 4294967295) :
    Calls Tryd.prog 3 #[.int .i64 a0, .int .i64 a1, .int .u32 d] w fun e w' => e = .returned (.bool true) ∧ Below w.heap.size w w' := by
  have HKE := Lib.hid hk
  have HME := Lib.hid hme
  clear hk hme
  go_enter Tryd.func3, Tryd.ntmps3
  go_wp2_with fail
  refine (first_any _).mono ?_
  rintro en w1 ⟨rfl, hw1⟩
  have h1 := hE.below hw1 (Nat.le_refl _)
  have hs1 := hw1.size
  go_wp2_with fail
  refine (number_any a0 4 _ (by omega) (by omega) ha0 ha1).mono ?_
  rintro en w2 ⟨rfl, rfl⟩
  rw [HKE.out]
  go_wp2_with fail
  refine (number_any a1 12 _ (by omega) (by omega) hb0 hb1).mono ?_
  rintro en w2 ⟨rfl, rfl⟩
  rw [HME.out]
  have HE := Lib.hid hE
  clear hE
  have hsz : (((w1.alloc (.cells #[.int .i64 7, .int .i64 3, .int .i64 2, .int .i64 2] 3)).alloc (.cells #[.int .i64 15, .int .i64 15, .int .i64 7, .int .i64 3] 3)).alloc (.cells #[.int .i64 1023, .int .i64 63, .int .i64 15, .int .i64 7] 3)).heap.size = w1.heap.size + 3 := by simp
  have hbA : Below w.heap.size w (((w1.alloc (.cells #[.int .i64 7, .int .i64 3, .int .i64 2, .int .i64 2] 3)).alloc (.cells #[.int .i64 15, .int .i64 15, .int .i64 7, .int .i64 3] 3)).alloc (.cells #[.int .i64 1023, .int .i64 63, .int .i64 15, .int .i64 7] 3)) :=
    ((hw1.alloc hs1 _).alloc (by simp; omega) _).alloc (by simp; omega) _
  have hb3 := three_new (((w1.alloc (.cells #[.int .i64 7, .int .i64 3, .int .i64 2, .int .i64 2] 3)).alloc (.cells #[.int .i64 15, .int .i64 15, .int .i64 7, .int .i64 3] 3)).alloc (.cells #[.int .i64 1023, .int .i64 63, .int .i64 15, .int .i64 7] 3)) #[.bool false, .int .i64 0, .int .i64 0, .bool false, .int .i64 0, .int .i64 0, .bool false, .int .i64 0, .int .i64 0, .bool false, .int .i64 0, .int .i64 0] #[.bool false, .bool false, .bool true, .bool false] #[.int .u32 0, .int .u32 0, .int .u32 d, .int .u32 0] 30 31 32
  rw [hsz] at hb3
  obtain ⟨hB, hR, hD⟩ := hb3
  have hb4 := ((hbA.alloc (by rw [hsz]; omega) (.cells #[.bool false, .int .i64 0, .int .i64 0, .bool false, .int .i64 0, .int .i64 0, .bool false, .int .i64 0, .int .i64 0, .bool false, .int .i64 0, .int .i64 0] 30)).alloc (by simp; omega) (.cells #[.bool false, .bool false, .bool true, .bool false] 31)).alloc (by simp; omega) (.cells #[.int .u32 0, .int .u32 0, .int .u32 d, .int .u32 0] 32)
  have HBw := Lib.hid hb4
  have HB := Lib.hid hB
  have HR := Lib.hid hR
  have HD := Lib.hid hD
  clear hb4 hbA hB hR hD hsz hw1 h1
  go_wp2_with fail
  have hBW := HBw.out
  have hB := HB.out
  have hR := HR.out
  have hD := HD.out
  clear HBw HB HR HD
  generalize (((((w1.alloc (.cells #[.int .i64 7, .int .i64 3, .int .i64 2, .int .i64 2] 3)).alloc (.cells #[.int .i64 15, .int .i64 15, .int .i64 7, .int .i64 3] 3)).alloc (.cells #[.int .i64 1023, .int .i64 63, .int .i64 15, .int .i64 7] 3)).alloc _).alloc _).alloc _ = W at *
  generalize w1.heap.size = n at *
  replace hB : Blk W (n + 3) (ecells (fun _ => false) (fun _ => 0) (fun _ => 0)) 30 := hB
  replace hR : Blk W (n + 4) (bv (b4 false false true false)) 31 := hR
  replace hD : Blk W (n + 5) (uv (i4 0 0 d 0)) 32 := hD
  go_loopw [15, 9] (fun i wv wr => ∃ j : Nat, j ≤ m ∧ i = .int .i64 j ∧ ∃ g : Nat → Int, Hid (∀ k, k < 4 → 0 ≤ g k ∧ g k ≤ ms k - fs k) ∧ wv = .int .i64 (fs 2 + g 2) ∧ Blk wr (n + 3) (ecells (fun _ => false) (fun _ => 0) g) 30 ∧
    Blk wr (n + 4) (bv (b4 false false true false)) 31 ∧ Blk wr (n + 5) (uv (i4 0 0 d 0)) 32 ∧ Hid (Below w.heap.size w wr)) (fun i _ _ => m - (intOf i).toNat)
  case atStart => exact ⟨0, by omega, rfl, fun _ => 0, Lib.hid (by intro k hk; rcases (show k = 0 ∨ k = 1 ∨ k = 2 ∨ k = 3 by omega) with rfl | rfl | rfl | rfl <;> decide), rfl, hB, hR, hD, Lib.hid hBW⟩
  case round =>
    obtain ⟨j, hj, rfl, g, hgr, rfl, hBx, hRx, hDx, hbx⟩ := hrel
    have hgK := hgr.out 2 (by omega)
    have hfs : fs 2 = 7 := rfl
    have hms : ms 2 = 15 := rfl
    rw [hfs, hms] at hgK
    have hlB := hBx.lt
    by_cases hjm : (j : Int) < (m : Int)
    · obtain ⟨M, hM⟩ : ∃ M, fs 2 + g 2 + 1 = M := ⟨_, rfl⟩
      have hM4 : 4 ≤ M ∧ M ≤ 1024 := by rw [← hM, hfs]; omega
      have q1 : IntKind.i64.wrap (fs 2 + g 2 + 1) = M := by rw [hM]; exact IntWalk.i64_in _ (by omega)
      have q2 : IntKind.u32.wrap M = M := by rw [IntKind.wrap_u32]; omega
      have q3 : ¬ M = 0 := by omega
      have q4 := Int.emod_nonneg d q3
      have q5 := Int.emod_lt_of_pos d (show 0 < M by omega)
      have q6 : IntKind.i64.wrap (d.tmod M) = d % M := by rw [Int.tmod_eq_emod_of_nonneg hd0]; exact IntWalk.i64_in _ (by omega)
      have q7 : IntKind.i64.wrap (2 + d % M) = 2 + d % M := IntWalk.i64_in _ (by omega)
      have p1 : IntKind.i64.wrap (2 * (fs 2 + g 2)) = 2 * (fs 2 + g 2) := IntWalk.i64_in _ (by rw [hfs]; omega)
      have p2 : IntKind.i64.wrap (2 * (fs 2 + g 2) + 1) = 2 * (fs 2 + g 2) + 1 := IntWalk.i64_in _ (by rw [hfs]; omega)
      have hgw := grown_win g 2
      unfold win at hgw
      have hgn := grown_bounds (g := g) (k := 2) (by omega) (hgr.out 2 (by omega)).1 (hgr.out 2 (by omega)).2
      have HGW := Lib.hid hgw
      have HM := Lib.hid hM
      have HMS := Lib.hid hms
      have ni : ∀ w, (binOp .neq 37 .nilIface .nilIface).run Tryd.prog w = .ok (.bool false) w := fun w => err_nonnil E none w
      clear hgw hM hfs hms
      go_wp2_with (first
        | (refine wpList_load_blk _ (by rfl) 31 _ rfl (n + 4) rfl 31 _ _ hRx Tryd.underlying31 rfl (by kernel_rfl) ?_)
        | (refine wpList_load_blk _ (by rfl) 32 _ rfl (n + 5) rfl 32 _ _ hDx Tryd.underlying32 rfl (by kernel_rfl) ?_))
      refine (contend_any (n + 3) (b4 false false true false) (i4 0 0 d 0) (gSt g) (gSt_inv hgr.out) (i4_bounds (by decide) (by decide) ⟨by omega, by omega⟩ (by decide)) _ hBx).mono ?_
      rintro en w3 ⟨rfl, hk3, hg3⟩
      rw [(alone_at2 g d).2.1, (alone_at2 g d).2.2.1, (alone_at2 g d).2.2.2, HM.out]
      rw [(alone_at2 g d).1] at hk3
      have hk3 : Blk w3 (n + 3) (ecells (fun _ => false) (fun _ => 0) g) 30 := hk3
      have hR3 := hRx.grown hg3 (by simp)
      have hD3 := hDx.grown hg3 (by simp)
      have hb3 := Lib.hid (Below.grown hbx.out hg3 (by have := hbx.out.size; omega) (by simp; omega))
      have hl3 := hk3.lt
      clear hBx hRx hDx hg3
      go_wp2_with fail
      refine (window_any (n + 3) 2 (by omega) (g 2) hgK.1 (by omega) _ hl3 (hk3.cell 8)).mono ?_
      rintro en w4 ⟨rfl, hw4⟩
      have hk4 := hk3.below hw4 hl3
      have hl4 := hk4.lt
      have hR4 := hR3.below hw4 hR3.lt
      have hD4 := hD3.below hw4 hD3.lt
      have hb4 := Lib.hid (hb3.out.trans (hw4.mono (by have := hb3.out.size; omega)))
      clear hk3 hR3 hD3
      go_wp2_with fail
      refine (end_ill (n + 3) 2 (by omega) (fun _ => false) (fun _ => 0) g hgK.1 (by omega) _ hk4).mono ?_
      rintro en w5 ⟨rfl, hk5, hg5⟩
      have hR5 := hR4.grown hg5 (by simp)
      have hD5 := hD4.grown hg5 (by simp)
      have hb5 := Lib.hid (Below.grown hb4.out hg5 (by have := hb4.out.size; omega) (by simp; omega))
      clear hk4 hR4 hD4 hg5 hw4
      by_cases hmm : 2 * (fs 2 + g 2) + 1 ≤ 15
      all_goals
        go_wp2_with fail
        all_goals
          go_roundw
          case rel =>
            refine ⟨j + 1, by omega, by go_num, upd g 2 (grown g 2), Lib.hid (upd_range hgr.out hgn), ?_, hk5, hR5, hD5, hb5⟩
            rw [HGW.out, HMS.out]
            congr 1
            omega
          case measure => simp [intOf]; omega
    · have hjm' : j = m := by omega
      subst hjm'
      have ni : ∀ w, (binOp .neq 37 .nilIface .nilIface).run Tryd.prog w = .ok (.bool false) w := fun w => err_nonnil E none w
      clear hfs hms
      go_wp2_with fail
      refine (window_any (n + 3) 2 (by omega) (g 2) hgK.1 (by omega) _ hlB (hBx.cell 8)).mono ?_
      rintro en w4 ⟨rfl, hw4⟩
      have hk4 := hBx.below hw4 hlB
      have hb4 := Lib.hid (hbx.out.trans (hw4.mono (by have := hbx.out.size; omega)))
      clear hBx hRx hDx hw4
      go_wp2_with fail
      refine (end_well (n + 3) 2 (by omega) (fun _ => false) (fun _ => 0) g _ hk4).mono ?_
      rintro en w5 ⟨rfl, hk5, hg5⟩
      have hb5 := Lib.hid (Below.grown hb4.out hg5 (by have := hb4.out.size; omega) (by simp; omega))
      have hl5 := hk5.lt
      clear hk4 hg5
      go_wp2_with fail
      refine (window_any (n + 3) 2 (by omega) 0 (by omega) (by omega) _ hl5 (hk5.cell 8)).mono ?_
      rintro en w6 ⟨rfl, hw6⟩
      rw [show fs 2 + 0 = 7 from rfl]
      have hb6 := hb5.out.trans (hw6.mono (by have := hb5.out.size; omega))
      have h6 := HE.out.below hb6 (Nat.le_refl _)
      clear hk5 hw6
      go_wp2_with fail
      refine (end_four (n + 3) true _ h6).mono ?_
      rintro en w7 ⟨rfl, rfl⟩
      go_wp2_with fail
      refine (is_any h6 (some 2) (by intro i h; cases h; decide) 103).mono ?_
      rintro en w8 ⟨rfl, hw8⟩
      rw [show (errCode (some 2) == 103) = true from rfl]
      have hs6 := hb6.size
      go_wp2_with fail
      refine (window_none (n + 3) _).mono ?_
      rintro en w9 ⟨rfl, rfl⟩
      go_wp2_with fail
      go_ret
      exact ⟨rfl, hb6.trans (hw8.mono (by omega))⟩

set_option maxRecDepth 100000 in
set_option maxHeartbeats 2000000 in
theorem alone_walk3 (w : World) {E : Nat → Addr} (hE : Errs allErr w E) (a0 : Int) (hk : a0 % 4 = 3) (ha0 : -9223372036854775808 ≤ a0) (ha1 : a0 ≤ 9223372036854775807) (a1 : Int) (m : Nat) (hm : m < 12) (hme : a1 % 12 = (m : Int)) (hb0 : -9223372036854775808 ≤ a1) (hb1 : a1 ≤ 9223372036854775807) (d : Int) (hd0 : 0 ≤ d) (hd1 : d ≤ 4294967295) :
    Calls Tryd.prog 3 #[.int .i64 a0, .int .i64 a1, .int .u32 d] w fun e w' => e = .returned (.bool true) ∧ Below w.heap.size w w' := by
  have HKE := Lib.hid hk
  have HME := Lib.hid hme
  clear hk hme
  go_enter Tryd.func3, Tryd.ntmps3
  go_wp2_with fail
  refine (first_any _).mono ?_
  rintro en w1 ⟨rfl, hw1⟩
  have h1 := hE.below hw1 (Nat.le_refl _)
  have hs1 := hw1.size
  go_wp2_with fail
  refine (number_any a0 4 _ (by omega) (by omega) ha0 ha1).mono ?_
  rintro en w2 ⟨rfl, rfl⟩
  rw [HKE.out]
  go_wp2_with fail
  refine (number_any a1 12 _ (by omega) (by omega) hb0 hb1).mono ?_
  rintro en w2 ⟨rfl, rfl⟩
  rw [HME.out]
  have HE := Lib.hid hE
  clear hE
  have hsz : (((w1.alloc (.cells #[.int .i64 7, .int .i64 3, .int .i64 2, .int .i64 2] 3)).alloc (.cells #[.int .i64 15, .int .i64 15, .int .i64 7, .int .i64 3] 3)).alloc (.cells #[.int .i64 1023, .int .i64 63, .int .i64 15, .int .i64 7] 3)).heap.size = w1.heap.size + 3 := by simp
  have hbA : Below w.heap.size w (((w1.alloc (.cells #[.int .i64 7, .int .i64 3, .int .i64 2, .int .i64 2] 3)).alloc (.cells #[.int .i64 15, .int .i64 15, .int .i64 7, .int .i64 3] 3)).alloc (.cells #[.int .i64 1023, .int .i64 63, .int .i64 15, .int .i64 7] 3)) :=
    ((hw1.alloc hs1 _).alloc (by simp; omega) _).alloc (by simp; omega) _
  have hb3 := three_new (((w1.alloc (.cells #[.int .i64 7, .int .i64 3, .int .i64 2, .int .i64 2] 3)).alloc (.cells #[.int .i64 15, .int .i64 15, .int .i64 7, .int .i64 3] 3)).alloc (.cells #[.int .i64 1023, .int .i64 63, .int .i64 15, .int .i64 7] 3)) #[.bool false, .int .i64 0, .int .i64 0, .bool false, .int .i64 0, .int .i64 0, .bool false, .int .i64 0, .int .i64 0, .bool false, .int .i64 0, .int .i64 0] #[.bool false, .bool false, .bool false, .bool true] #[.int .u32 0, .int .u32 0, .int .u32 0, .int .u32 d] 30 31 32
  rw [hsz] at hb3
  obtain ⟨hB, hR, hD⟩ := hb3
  have hb4 := ((hbA.alloc (by rw [hsz]; omega) (.cells #[.bool false, .int .i64 0, .int .i64 0, .bool false, .int .i64 0, .int .i64 0, .bool false, .int .i64 0, .int .i64 0, .bool false, .int .i64 0, .int .i64 0] 30)).alloc (by simp; omega) (.cells #[.bool false, .bool false, .bool false, .bool true] 31)).alloc (by simp; omega) (.cells #[.int .u32 0, .int .u32 0, .int .u32 0, .int .u32 d] 32)
  have HBw := Lib.hid hb4
  have HB := Lib.hid hB
  have HR := Lib.hid hR
  have HD := Lib.hid hD
  clear hb4 hbA hB hR hD hsz hw1 h1
  go_wp2_with fail
  have hBW := HBw.out
  have hB := HB.out
  have hR := HR.out
  have hD := HD.out
  clear HBw HB HR HD
  generalize (((((w1.alloc (.cells #[.int .i64 7, .int .i64 3, .int .i64 2, .int .i64 2] 3)).alloc (.cells #[.int .i64 15, .int .i64 15, .int .i64 7, .int .i64 3] 3)).alloc (.cells #[.int .i64 1023, .int .i64 63, .int .i64 15, .int .i64 7] 3)).alloc _).alloc _).alloc _ = W at *
  generalize w1.heap.size = n at *
  replace hB : Blk W (n + 3) (ecells (fun _ => false) (fun _ => 0) (fun _ => 0)) 30 := hB
  replace hR : Blk W (n + 4) (bv (b4 false false false true)) 31 := hR
  replace hD : Blk W (n + 5) (uv (i4 0 0 0 d)) 32 := hD
  go_loopw [15, 9] (fun i wv wr => ∃ j : Nat, j ≤ m ∧ i = .int .i64 j ∧ ∃ g : Nat → Int, Hid (∀ k, k < 4 → 0 ≤ g k ∧ g k ≤ ms k - fs k) ∧ wv = .int .i64 (fs 3 + g 3) ∧ Blk wr (n + 3) (ecells (fun _ => false) (fun _ => 0) g) 30 ∧
    Blk wr (n + 4) (bv (b4 false false false true)) 31 ∧ Blk wr (n + 5) (uv (i4 0 0 0 d)) 32 ∧ Hid (Below w.heap.size w wr)) (fun i _ _ => m - (intOf i).toNat)
  case atStart => exact ⟨0, by omega, rfl, fun _ => 0, Lib.hid (by intro k hk; rcases (show k = 0 ∨ k = 1 ∨ k = 2 ∨ k = 3 by omega) with rfl | rfl | rfl | rfl <;> decide), rfl, hB, hR, hD, Lib.hid hBW⟩
  case round =>
    obtain ⟨j, hj, rfl, g, hgr, rfl, hBx, hRx, hDx, hbx⟩ := hrel
    have hgK := hgr.out 3 (by omega)
    have hfs : fs 3 = 3 := rfl
    have hms : ms 3 = 7 := rfl
    rw [hfs, hms] at hgK
    have hlB := hBx.lt
    by_cases hjm : (j : Int) < (m : Int)
    · obtain ⟨M, hM⟩ : ∃ M, fs 3 + g 3 + 1 = M := ⟨_, rfl⟩
      have hM4 : 4 ≤ M ∧ M ≤ 1024 := by rw [← hM, hfs]; omega
      have q1 : IntKind.i64.wrap (fs 3 + g 3 + 1) = M := by rw [hM]; exact IntWalk.i64_in _ (by omega)
      have q2 : IntKind.u32.wrap M = M := by rw [IntKind.wrap_u32]; omega
      have q3 : ¬ M = 0 := by omega
      have q4 := Int.emod_nonneg d q3
      have q5 := Int.emod_lt_of_pos d (show 0 < M by omega)
      have q6 : IntKind.i64.wrap (d.tmod M) = d % M := by rw [Int.tmod_eq_emod_of_nonneg hd0]; exact IntWalk.i64_in _ (by omega)
      have q7 : IntKind.i64.wrap (2 + d % M) = 2 + d % M := IntWalk.i64_in _ (by omega)
      have p1 : IntKind.i64.wrap (2 * (fs 3 + g 3)) = 2 * (fs 3 + g 3) := IntWalk.i64_in _ (by rw [hfs]; omega)
      have p2 : IntKind.i64.wrap (2 * (fs 3 + g 3) + 1) = 2 * (fs 3 + g 3) + 1 := IntWalk.i64_in _ (by rw [hfs]; omega)
      have hgw := grown_win g 3
      unfold win at hgw
      have hgn := grown_bounds (g := g) (k := 3) (by omega) (hgr.out 3 (by omega)).1 (hgr.out 3 (by omega)).2
      have HGW := Lib.hid hgw
      have HM := Lib.hid hM
      have HMS := Lib.hid hms
      have ni : ∀ w, (binOp .neq 37 .nilIface .nilIface).run Tryd.prog w = .ok (.bool false) w := fun w => err_nonnil E none w
      clear hgw hM hfs hms
      go_wp2_with (first
        | (refine wpList_load_blk _ (by rfl) 31 _ rfl (n + 4) rfl 31 _ _ hRx Tryd.underlying31 rfl (by kernel_rfl) ?_)
        | (refine wpList_load_blk _ (by rfl) 32 _ rfl (n + 5) rfl 32 _ _ hDx Tryd.underlying32 rfl (by kernel_rfl) ?_))
      refine (contend_any (n + 3) (b4 false false false true) (i4 0 0 0 d) (gSt g) (gSt_inv hgr.out) (i4_bounds (by decide) (by decide) (by decide) ⟨by omega, by omega⟩) _ hBx).mono ?_
      rintro en w3 ⟨rfl, hk3, hg3⟩
      rw [(alone_at3 g d).2.1, (alone_at3 g d).2.2.1, (alone_at3 g d).2.2.2, HM.out]
      rw [(alone_at3 g d).1] at hk3
      have hk3 : Blk w3 (n + 3) (ecells (fun _ => false) (fun _ => 0) g) 30 := hk3
      have hR3 := hRx.grown hg3 (by simp)
      have hD3 := hDx.grown hg3 (by simp)
      have hb3 := Lib.hid (Below.grown hbx.out hg3 (by have := hbx.out.size; omega) (by simp; omega))
      have hl3 := hk3.lt
      clear hBx hRx hDx hg3
      go_wp2_with fail
      refine (window_any (n + 3) 3 (by omega) (g 3) hgK.1 (by omega) _ hl3 (hk3.cell 11)).mono ?_
      rintro en w4 ⟨rfl, hw4⟩
      have hk4 := hk3.below hw4 hl3
      have hl4 := hk4.lt
      have hR4 := hR3.below hw4 hR3.lt
      have hD4 := hD3.below hw4 hD3.lt
      have hb4 := Lib.hid (hb3.out.trans (hw4.mono (by have := hb3.out.size; omega)))
      clear hk3 hR3 hD3
      go_wp2_with fail
      refine (end_ill (n + 3) 3 (by omega) (fun _ => false) (fun _ => 0) g hgK.1 (by omega) _ hk4).mono ?_
      rintro en w5 ⟨rfl, hk5, hg5⟩
      have hR5 := hR4.grown hg5 (by simp)
      have hD5 := hD4.grown hg5 (by simp)
      have hb5 := Lib.hid (Below.grown hb4.out hg5 (by have := hb4.out.size; omega) (by simp; omega))
      clear hk4 hR4 hD4 hg5 hw4
      by_cases hmm : 2 * (fs 3 + g 3) + 1 ≤ 7
      all_goals
        go_wp2_with fail
        all_goals
          go_roundw
          case rel =>
            refine ⟨j + 1, by omega, by go_num, upd g 3 (grown g 3), Lib.hid (upd_range hgr.out hgn), ?_, hk5, hR5, hD5, hb5⟩
            rw [HGW.out, HMS.out]
            congr 1
            omega
          case measure => simp [intOf]; omega
    · have hjm' : j = m := by omega
      subst hjm'
      have ni : ∀ w, (binOp .neq 37 .nilIface .nilIface).run Tryd.prog w = .ok (.bool false) w := fun w => err_nonnil E none w
      clear hfs hms
      go_wp2_with fail
      refine (window_any (n + 3) 3 (by omega) (g 3) hgK.1 (by omega) _ hlB (hBx.cell 11)).mono ?_
      rintro en w4 ⟨rfl, hw4⟩
      have hk4 := hBx.below hw4 hlB
      have hb4 := Lib.hid (hbx.out.trans (hw4.mono (by have := hbx.out.size; omega)))
      clear hBx hRx hDx hw4
      go_wp2_with fail
      refine (end_well (n + 3) 3 (by omega) (fun _ => false) (fun _ => 0) g _ hk4).mono ?_
      rintro en w5 ⟨rfl, hk5, hg5⟩
      have hb5 := Lib.hid (Below.grown hb4.out hg5 (by have := hb4.out.size; omega) (by simp; omega))
      have hl5 := hk5.lt
      clear hk4 hg5
      go_wp2_with fail
      refine (window_any (n + 3) 3 (by omega) 0 (by omega) (by omega) _ hl5 (hk5.cell 11)).mono ?_
      rintro en w6 ⟨rfl, hw6⟩
      rw [show fs 3 + 0 = 3 from rfl]
      have hb6 := hb5.out.trans (hw6.mono (by have := hb5.out.size; omega))
      have h6 := HE.out.below hb6 (Nat.le_refl _)
      clear hk5 hw6
      go_wp2_with fail
      refine (end_four (n + 3) true _ h6).mono ?_
      rintro en w7 ⟨rfl, rfl⟩
      go_wp2_with fail
      refine (is_any h6 (some 2) (by intro i h; cases h; decide) 103).mono ?_
      rintro en w8 ⟨rfl, hw8⟩
      rw [show (errCode (some 2) == 103) = true from rfl]
      have hs6 := hb6.size
      go_wp2_with fail
      refine (window_none (n + 3) _).mono ?_
      rintro en w9 ⟨rfl, rfl⟩
      go_wp2_with fail
      go_ret
      exact ⟨rfl, hb6.trans (hw8.mono (by omega))⟩

theorem edcaAlone_walk (w : World) {E : Nat → Addr} (hE : Errs allErr w E) (a0 : Int) (w0 : (Lit.int .i64 a0).wf = true) (a1 : Int) (w1 : (Lit.int .i64 a1).wf = true) (d : Int) (wd : (Lit.int .u32 d).wf = true) :
    Calls Tryd.prog 3 #[.int .i64 a0, .int .i64 a1, .int .u32 d] w fun e w' => e = .returned (.bool true) ∧ Below w.heap.size w w' := by
  obtain ⟨ha0, ha1⟩ := bounds_i64 w0
  obtain ⟨hb0, hb1⟩ := bounds_i64 w1
  obtain ⟨hd0, hd1⟩ := bounds_u32 wd
  obtain ⟨m, hm, hme⟩ := number_nat a1 12 (by omega)
  obtain ⟨k, hk, hke⟩ := number_nat a0 4 (by omega)
  rcases (show k = 0 ∨ k = 1 ∨ k = 2 ∨ k = 3 by omega) with rfl | rfl | rfl | rfl
  · exact alone_walk0 w hE a0 hke ha0 ha1 a1 m hm hme hb0 hb1 d hd0 hd1
  · exact alone_walk1 w hE a0 hke ha0 ha1 a1 m hm hme hb0 hb1 d hd0 hd1
  · exact alone_walk2 w hE a0 hke ha0 ha1 a1 m hm hme hb0 hb1 d hd0 hd1
  · exact alone_walk3 w hE a0 hke ha0 ha1 a1 m hm hme hb0 hb1 d hd0 hd1
end Go.Proofs.YtejlfifoehpljaaDoor
