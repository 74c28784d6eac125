/-
  qos.Len and qos.Bytes.
-/
import Derived.Test.YtidgomffmeplaaaDoorQosBase
namespace Go.Proofs.YtidgomffmeplaaaDoor
open Go.ChangeShapes Go.WideShapes Go.ChangeAt Go.RowKit
set_option linter.unusedVariables false

theorem qosLen_any (n : Int) (w : World) (h : n ≤ 1048576) : Calls Tryd.prog 19 #[.int .i64 n] w fun e w' => e = .returned (.int .i64 (26 + max n 0)) ∧ w = w' := by
  by_cases h0 : n < 0
  · go_enter Tryd.func19, Tryd.ntmps19
    go_wp2_with fail
    go_ret
    exact ⟨ret_i64 (by omega), rfl⟩
  · go_enter Tryd.func19, Tryd.ntmps19
    go_wp2_with fail
    go_ret
    exact ⟨ret_i64 (by omega), rfl⟩

set_option maxRecDepth 100000 in
set_option maxHeartbeats 1000000 in
theorem qosBytes_no (a : Nat → UInt8) (tid seq : Int) (r m e : Bool) (A : Option Addr) (n C : Nat) (w : World) {E : Nat → Addr} (hE : Errs [2] w E) (hno : ¬ qok tid seq n) :
    Calls Tryd.prog 11 #[qv a tid seq r m e A n C] w fun e w' => e = .returned (.tuple #[.slice none 0 0, errV E 2]) ∧ Below w.heap.size w w' := by
  unfold qv qcells
  have hc := (hE.alloc (.cells (qcells a tid seq r m e A n C) 32)).at_ 2 0 (by decide) rfl
  unfold qcells at hc
  by_cases h1 : tid < 0
  · go_enter Tryd.func11, Tryd.ntmps11
    go_wp2_with fail
    go_quiet (fail)
    go_wp2_with fail
    go_ret2
    exact ⟨rfl, ((Below.refl _ _).alloc (Nat.le_refl _) _).trans (below_drewN _)⟩
  by_cases h2 : 8 ≤ tid
  · go_enter Tryd.func11, Tryd.ntmps11
    go_wp2_with fail
    go_quiet (fail)
    go_wp2_with fail
    go_ret2
    exact ⟨rfl, ((Below.refl _ _).alloc (Nat.le_refl _) _).trans (below_drewN _)⟩
  by_cases h3 : seq < 0
  · go_enter Tryd.func11, Tryd.ntmps11
    go_wp2_with fail
    go_quiet (fail)
    go_wp2_with fail
    go_ret2
    exact ⟨rfl, ((Below.refl _ _).alloc (Nat.le_refl _) _).trans (below_drewN _)⟩
  by_cases h4 : 4096 ≤ seq
  · go_enter Tryd.func11, Tryd.ntmps11
    go_wp2_with fail
    go_quiet (fail)
    go_wp2_with fail
    go_ret2
    exact ⟨rfl, ((Below.refl _ _).alloc (Nat.le_refl _) _).trans (below_drewN _)⟩
  have h5 : 1500 < n := by unfold qok at hno; omega
  clear hno
  go_enter Tryd.func11, Tryd.ntmps11
  go_wp2_with fail
  go_quiet (fail)
  go_wp2_with fail
  go_ret2
  exact ⟨rfl, ((Below.refl _ _).alloc (Nat.le_refl _) _).trans (below_drewN _)⟩

set_option maxRecDepth 100000 in
set_option maxHeartbeats 2000000 in
theorem qosBytes_yes (a : Nat → UInt8) (tid seq : Int) (r m e : Bool) (A : Option Addr) (n C : Nat) (body : List UInt8) (w : World) (hb : Row w 1 A n C (body.map u8v)) (hok : qok tid seq n) :
    Calls Tryd.prog 11 #[qv a tid seq r m e A n C] w fun en w' => ∃ A2 n2 C2, en = .returned (.tuple #[.slice A2 n2 C2, .nilIface]) ∧ OwnU8 w' w.heap.size A2 n2 C2 (qbytes a tid seq r m e body) ∧ Below w.heap.size w w' := by
  obtain ⟨h1, h2, h3, h4, h5⟩ := hok
  have hlc := hb.len_cap
  unfold qv qcells
  go_enter Tryd.func11, Tryd.ntmps11
  go_wp2_with fail
  go_quiet (fail)
  go_upto_if 39 with (fail)
  go_cut [4] (fun fl wc => fl = .int .u8 (qflags r false : Nat) ∧ wc = (w.alloc (.cells (qcells a tid seq r m e A n C) 32)).drewN nq)
  case first =>
    cases r
    · go_wp2_with fail
      go_meet
      case rel => exact ⟨rfl, rfl⟩
    · go_wp2_with fail
      go_meet
      case rel => exact ⟨rfl, rfl⟩
  case rest =>
    obtain ⟨rfl, rfl⟩ := hcut
    unfold qcells
    go_upto_if 43 with (fail)
    go_cut [4] (fun fl wc => fl = .int .u8 (qflags r m : Nat) ∧ wc = (w.alloc (.cells (qcells a tid seq r m e A n C) 32)).drewN nq)
    case first =>
      cases m
      · go_wp2_with fail
        go_meet
        case rel => exact ⟨by cases r <;> rfl, rfl⟩
      · go_wp2_with fail
        go_meet
        case rel => exact ⟨by cases r <;> rfl, rfl⟩
    case rest =>
      obtain ⟨rfl, rfl⟩ := hcut
      unfold qcells
      go_upto_if 47 with (fail)
      go_cut [5] (fun fl wc => fl = .int .u8 (qtid tid e : Nat) ∧ wc = (w.alloc (.cells (qcells a tid seq r m e A n C) 32)).drewN nq)
      case first =>
        cases e
        · go_wp2_with fail
          go_meet
          case rel => exact ⟨congrArg (Value.int .u8) (qtid_no h1), rfl⟩
        · go_wp2_with fail
          go_meet
          case rel => exact ⟨congrArg (Value.int .u8) (qtid_yes h1 h2), rfl⟩
      case rest =>
        obtain ⟨rfl, rfl⟩ := hcut
        unfold qcells
        obtain ⟨own0, bk0, bx0, bw0⟩ := qW_facts w a tid seq r m e A n C nq
        unfold qW qcells acells at own0 bw0
        unfold qW at bk0 bx0
        go_wp2_with fail
        go_loopw [6, 8, 60] (fun out p i wr => ∃ k : Nat, k ≤ 3 ∧ i = .int .i64 k ∧ ∃ A1 C1, out = .slice A1 (4 + 6 * k) C1 ∧ OwnU8 wr w.heap.size A1 (4 + 6 * k) C1 ([0x88, UInt8.ofNat (qflags r m), 0, 0] ++ (addrs a).take (6 * k)) ∧
            Blk wr (w.heap.size + 2) (acells a) 30 ∧ Blk wr w.heap.size (qcells a tid seq r m e A n C) 32 ∧ Below w.heap.size w wr) (fun _ _ i _ => 3 - (intOf i).toNat)
        case atStart => exact ⟨0, by omega, rfl, _, _, rfl, own0, bk0, bx0, bw0⟩
        case round =>
          obtain ⟨k, hk, rfl, A1, C1, rfl, hown, hk18, hkx, hbw⟩ := hrel
          have hszr := hk18.lt
          rcases (show k = 3 ∨ k = 0 ∨ k = 1 ∨ k = 2 by omega) with h3 | h0 | h1 | h2
          · subst h3
            have x19 : wr.cell? ⟨w.heap.size, 19, none⟩ = some (.int .i64 seq) := hkx.cell 19
            have x23 : wr.cell? ⟨w.heap.size, 23, none⟩ = some (.slice A n C) := hkx.cell 23
            have hbA : Below w.heap.size w (wr.alloc (.cells #[.int .u8 (seq * 16 % 256), .int .u8 (seq * 16 / 256), .int .u8 (qtid tid e : Nat), .int .u8 0] 5)) := hbw.alloc (by omega) _
            go_wp2_with (first
              | (at_builtin; refine append_u8 _ rfl (.tmp 71) (.tmp 78) rfl w.heap.size A1 (4 + 6 * 3) C1 _ rfl (hown.alloc _) _ 4 4 (qtail tid seq e) rfl (row_tail _ _ _ _ _ h1 h2 h3 h4) (by omega) (by simp; omega) ?_; intro A2 C2 w2 hown2 hg2 hat2; have y23 : w2.cell? ⟨w.heap.size, 23, none⟩ = some (.slice A n C) := ((hkx.alloc _).grown hg2 (hown.ne_blk hkx (by decide))).cell 23; have hb2 := below_grown hbA (hown.alloc _) (Nat.le_refl _) (by simp; omega) hg2; have hbody := hb.below hb2 (Nat.le_refl _); have hsz2 := hb2.size)
              | (at_builtin; refine append_u8 _ rfl (.tmp 80) (.tmp 82) rfl w.heap.size A2 _ C2 _ rfl hown2 A n C body rfl hbody (by omega) hsz2 ?_; intro A3 C3 w3 hown3 hg3 hat3))

            go_ret2
            refine ⟨A3, _, C3, rfl, ?_, below_grown hb2 hown2 (Nat.le_refl _) hsz2 hg3⟩
            rw [← qbytes_eq]
            exact hown3
          · subst h0
            have d0 : wr.cell? ⟨w.heap.size + 2, 0, none⟩ = some (.int .u8 ((a 0).toNat : Int)) := hk18.cell 0
            have d1 : wr.cell? ⟨w.heap.size + 2, 1, none⟩ = some (.int .u8 ((a 1).toNat : Int)) := hk18.cell 1
            have d2 : wr.cell? ⟨w.heap.size + 2, 2, none⟩ = some (.int .u8 ((a 2).toNat : Int)) := hk18.cell 2
            have d3 : wr.cell? ⟨w.heap.size + 2, 3, none⟩ = some (.int .u8 ((a 3).toNat : Int)) := hk18.cell 3
            have d4 : wr.cell? ⟨w.heap.size + 2, 4, none⟩ = some (.int .u8 ((a 4).toNat : Int)) := hk18.cell 4
            have d5 : wr.cell? ⟨w.heap.size + 2, 5, none⟩ = some (.int .u8 ((a 5).toNat : Int)) := hk18.cell 5
            go_wp2_with (at_builtin; refine append_u8 _ rfl (.tmp 64) (.tmp 65) rfl w.heap.size A1 (4 + 6 * 0) C1 _ rfl (hown.alloc _) _ 6 6 [a 0, a 1, a 2, a 3, a 4, a 5] rfl (row_six _ _ _ _ _ _ _ _) (by omega) (by simp; omega) ?_; intro A2 C2 w2 hown2 hg2 hat2)
            go_roundw
            case rel => exact ⟨1, by omega, rfl, A2, C2, rfl, hown2, (hk18.alloc _).grown hg2 (hown.ne_blk hk18 (by decide)), (hkx.alloc _).grown hg2 (hown.ne_blk hkx (by decide)), below_grown (hbw.alloc (by omega) _) (hown.alloc _) (Nat.le_refl _) (by simp; omega) hg2⟩
            case measure => simp [intOf]
          · subst h1
            have d0 : wr.cell? ⟨w.heap.size + 2, 6, none⟩ = some (.int .u8 ((a 6).toNat : Int)) := hk18.cell 6
            have d1 : wr.cell? ⟨w.heap.size + 2, 7, none⟩ = some (.int .u8 ((a 7).toNat : Int)) := hk18.cell 7
            have d2 : wr.cell? ⟨w.heap.size + 2, 8, none⟩ = some (.int .u8 ((a 8).toNat : Int)) := hk18.cell 8
            have d3 : wr.cell? ⟨w.heap.size + 2, 9, none⟩ = some (.int .u8 ((a 9).toNat : Int)) := hk18.cell 9
            have d4 : wr.cell? ⟨w.heap.size + 2, 10, none⟩ = some (.int .u8 ((a 10).toNat : Int)) := hk18.cell 10
            have d5 : wr.cell? ⟨w.heap.size + 2, 11, none⟩ = some (.int .u8 ((a 11).toNat : Int)) := hk18.cell 11
            go_wp2_with (at_builtin; refine append_u8 _ rfl (.tmp 64) (.tmp 65) rfl w.heap.size A1 (4 + 6 * 1) C1 _ rfl (hown.alloc _) _ 6 6 [a 6, a 7, a 8, a 9, a 10, a 11] rfl (row_six _ _ _ _ _ _ _ _) (by omega) (by simp; omega) ?_; intro A2 C2 w2 hown2 hg2 hat2)
            go_roundw
            case rel => exact ⟨2, by omega, rfl, A2, C2, rfl, hown2, (hk18.alloc _).grown hg2 (hown.ne_blk hk18 (by decide)), (hkx.alloc _).grown hg2 (hown.ne_blk hkx (by decide)), below_grown (hbw.alloc (by omega) _) (hown.alloc _) (Nat.le_refl _) (by simp; omega) hg2⟩
            case measure => simp [intOf]
          · subst h2
            have d0 : wr.cell? ⟨w.heap.size + 2, 12, none⟩ = some (.int .u8 ((a 12).toNat : Int)) := hk18.cell 12
            have d1 : wr.cell? ⟨w.heap.size + 2, 13, none⟩ = some (.int .u8 ((a 13).toNat : Int)) := hk18.cell 13
            have d2 : wr.cell? ⟨w.heap.size + 2, 14, none⟩ = some (.int .u8 ((a 14).toNat : Int)) := hk18.cell 14
            have d3 : wr.cell? ⟨w.heap.size + 2, 15, none⟩ = some (.int .u8 ((a 15).toNat : Int)) := hk18.cell 15
            have d4 : wr.cell? ⟨w.heap.size + 2, 16, none⟩ = some (.int .u8 ((a 16).toNat : Int)) := hk18.cell 16
            have d5 : wr.cell? ⟨w.heap.size + 2, 17, none⟩ = some (.int .u8 ((a 17).toNat : Int)) := hk18.cell 17
            go_wp2_with (at_builtin; refine append_u8 _ rfl (.tmp 64) (.tmp 65) rfl w.heap.size A1 (4 + 6 * 2) C1 _ rfl (hown.alloc _) _ 6 6 [a 12, a 13, a 14, a 15, a 16, a 17] rfl (row_six _ _ _ _ _ _ _ _) (by omega) (by simp; omega) ?_; intro A2 C2 w2 hown2 hg2 hat2)
            go_roundw
            case rel => exact ⟨3, by omega, rfl, A2, C2, rfl, hown2, (hk18.alloc _).grown hg2 (hown.ne_blk hk18 (by decide)), (hkx.alloc _).grown hg2 (hown.ne_blk hkx (by decide)), below_grown (hbw.alloc (by omega) _) (hown.alloc _) (Nat.le_refl _) (by simp; omega) hg2⟩
            case measure => simp [intOf]
theorem qosBytes_any (a : Nat → UInt8) (tid seq : Int) (r m e : Bool) (A : Option Addr) (n C : Nat) (body : List UInt8) (w : World) {E : Nat → Addr} (hE : Errs [2] w E) (hb : Row w 1 A n C (body.map u8v)) :
    Calls Tryd.prog 11 #[qv a tid seq r m e A n C] w fun en w' => ∃ A2 n2 C2, en = .returned (.tuple #[.slice A2 n2 C2, errO E (qerr tid seq n)]) ∧ OwnU8 w' w.heap.size A2 n2 C2 (qres a tid seq r m e n body) ∧ Below w.heap.size w w' := by
  by_cases h : qok tid seq n
  · have hB : qokB tid seq n = true := by simp [qokB, h]
    refine (qosBytes_yes a tid seq r m e A n C body w hb h).mono ?_
    rintro en w' ⟨A2, n2, C2, rfl, ho, hbw⟩
    exact ⟨A2, n2, C2, by simp [qerr, hB, errO], by simpa [qres, hB] using ho, hbw⟩
  · have hB : qokB tid seq n = false := by simp [qokB, h]
    refine (qosBytes_no a tid seq r m e A n C w hE h).mono ?_
    rintro en w' ⟨rfl, hbw⟩
    exact ⟨none, 0, 0, by simp [qerr, hB, errO], by simpa [qres, hB] using ownU8_nil _ _, hbw⟩
end Go.Proofs.YtidgomffmeplaaaDoor
