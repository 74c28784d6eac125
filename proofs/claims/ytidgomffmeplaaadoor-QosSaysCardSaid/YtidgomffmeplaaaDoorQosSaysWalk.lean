/-
  The walk of QosSays.
-/
import Derived.Test.YtidgomffmeplaaaDoorRefReadQos
import Derived.Test.YtidgomffmeplaaaDoorRefQosBytes
import Derived.Test.YtidgomffmeplaaaDoorQosFirst
import Derived.Test.YtidgomffmeplaaaDoorSee
namespace Go.Proofs.YtidgomffmeplaaaDoor
open Go.ChangeShapes Go.WideShapes Go.ChangeAt Go.RowKit
set_option linter.unusedVariables false

theorem rqosBytes_any (a : Nat → UInt8) (tid seq : Int) (r m e : Bool) (A : Option Addr) (n C : Nat) (body : List UInt8) (w : World) (hb : Row w 1 A n C (body.map u8v)) :
    Calls Tryd.prog 15 #[qv a tid seq r m e A n C] w fun en w' => ∃ A2 n2 C2, en = .returned (.tuple #[.slice A2 n2 C2, .int .i64 (errCode (qerr tid seq n))]) ∧ OwnU8 w' w.heap.size A2 n2 C2 (qres a tid seq r m e n body) ∧ Below w.heap.size w w' := by
  by_cases h : qok tid seq n
  · have hB : qokB tid seq n = true := by simp [qokB, h]
    refine (rqosBytes_yes a tid seq r m e A n C body w hb h).mono ?_
    rintro en w' ⟨A2, n2, C2, rfl, ho, hbw⟩
    exact ⟨A2, n2, C2, by simp [qerr, hB, errCode], by simpa [qres, hB] using ho, hbw⟩
  · have hB : qokB tid seq n = false := by simp [qokB, h]
    refine (rqosBytes_no a tid seq r m e A n C w (Nat.le_trans hb.2.1 hb.2.2.1) h).mono ?_
    rintro en w' ⟨rfl, hbw⟩
    exact ⟨none, 0, 0, by simp [qerr, hB, errCode], by simpa [qres, hB] using ownU8_nil _ _, hbw⟩
/-- what is read, of any bytes -/
structure URead where
  a : Nat → UInt8
  tid : Int
  seq : Int
  r : Bool
  m : Bool
  e : Bool
  body : List UInt8
def uread (xs : List UInt8) : URead := match rdErr xs with
  | none => ⟨rdA xs, rdTid (xs.getD 24 0), rdSeq (xs.getD 22 0) (xs.getD 23 0), bitAt (xs.getD 1 0) 3, bitAt (xs.getD 1 0) 5, bitAt (xs.getD 24 0) 4, xs.drop 26⟩
  | some _ => ⟨fun _ => 0, 0, 0, false, false, false, []⟩
def uv (u : URead) (A : Option Addr) (n C : Nat) : Value := .agg (qcells u.a u.tid u.seq u.r u.m u.e A n C)
theorem readU (A : Option Addr) (n C : Nat) (xs : List UInt8) (w : World) {E : Nat → Addr} (hE : Errs [0, 1, 2, 4] w E) (hb : Row w 1 A n C (xs.map u8v)) :
    Calls Tryd.prog 14 #[.slice A n C] w fun en w' => ∃ A2 n2 C2, en = .returned (.tuple #[uv (uread xs) A2 n2 C2, errO E (rdErr xs)]) ∧ OwnU8 w' w.heap.size A2 n2 C2 (uread xs).body ∧ Below w.heap.size w w' := by
  cases h : rdErr xs with
  | none =>
    refine (qosRead_yes A n C xs w hb h).mono ?_
    rintro en w' ⟨A2, n2, C2, rfl, ho, hbw⟩
    have hu : uread xs = ⟨rdA xs, rdTid (xs.getD 24 0), rdSeq (xs.getD 22 0) (xs.getD 23 0), bitAt (xs.getD 1 0) 3, bitAt (xs.getD 1 0) 5, bitAt (xs.getD 24 0) 4, xs.drop 26⟩ := by unfold uread; rw [h]
    rw [hu]
    exact ⟨A2, n2, C2, rfl, ho, hbw⟩
  | some i =>
    refine (qosRead_no A n C xs w hE hb i h).mono ?_
    rintro en w' ⟨rfl, hbw⟩
    have hu : uread xs = ⟨fun _ => 0, 0, 0, false, false, false, []⟩ := by unfold uread; rw [h]
    rw [hu]
    exact ⟨none, 0, 0, rfl, ownU8_nil _ _, hbw⟩
theorem rreadU (A : Option Addr) (n C : Nat) (xs : List UInt8) (w : World) (hb : Row w 1 A n C (xs.map u8v)) :
    Calls Tryd.prog 16 #[.slice A n C] w fun en w' => ∃ A2 n2 C2, en = .returned (.tuple #[uv (uread xs) A2 n2 C2, .int .i64 (errCode (rdErr xs))]) ∧ OwnU8 w' w.heap.size A2 n2 C2 (uread xs).body ∧ Below w.heap.size w w' := by
  refine (refReadQos_any A n C xs w hb).mono ?_
  rintro en w' ⟨h1, h2, hbw⟩
  cases h : rdErr xs with
  | none =>
    obtain ⟨A2, n2, C2, rfl, ho⟩ := h2 h
    have hu : uread xs = ⟨rdA xs, rdTid (xs.getD 24 0), rdSeq (xs.getD 22 0) (xs.getD 23 0), bitAt (xs.getD 1 0) 3, bitAt (xs.getD 1 0) 5, bitAt (xs.getD 24 0) 4, xs.drop 26⟩ := by unfold uread; rw [h]
    rw [hu]
    exact ⟨A2, n2, C2, rfl, ho, hbw⟩
  | some i =>
    obtain rfl := h1 i h
    have hu : uread xs = ⟨fun _ => 0, 0, 0, false, false, false, []⟩ := by unfold uread; rw [h]
    rw [hu]
    exact ⟨none, 0, 0, rfl, ownU8_nil _ _, hbw⟩
theorem sameQ_self (a : Nat → UInt8) (tid seq : Int) (r m e : Bool) (body : List UInt8) : sameQ a tid seq r m e body a tid seq r m e body = true := by
  have hs : ∀ f : Nat → UInt8, sameA f f = true := fun f => sameA_iff.2 fun _ _ => rfl
  simp [sameQ, hs, sameB]
theorem and_low (n : Int) : ∃ z : Int, bits .and .i64 n 65535 = z ∧ 0 ≤ z ∧ z ≤ 65535 := by
  refine ⟨_, rfl, ?_⟩
  have hle : (BitVec.ofInt 64 n &&& BitVec.ofInt 64 65535).toNat ≤ 65535 := by
    rw [BitVec.toNat_and]
    exact Nat.le_trans Nat.and_le_right (by decide)
  have : bits .and .i64 n 65535 = IntKind.i64.wrap ((BitVec.ofInt 64 n &&& BitVec.ofInt 64 65535).toNat : Int) := rfl
  rw [this, IntWalk.i64_in _ (by omega)]
  omega

set_option maxRecDepth 100000 in
set_option maxHeartbeats 4000000 in
theorem qosSays_walk (w : World) {E : Nat → Addr} (hE : Errs allErr w E) (a : Nat → UInt8) (tid seq : Int) (r m e : Bool) (A : Option Addr) (n C : Nat) (body : List UInt8) (hrow : Row w 1 A n C (body.map u8v)) (wt : (Lit.int .i64 tid).wf = true) (ws : (Lit.int .i64 seq).wf = true)
    (A1 : Option Addr) (n1 C1 : Nat) (xs : List UInt8) (hx : Row w 1 A1 n1 C1 (xs.map u8v)) (a2 : Int) (w2 : (Lit.int .i64 a2).wf = true) :
    Calls Tryd.prog 5 #[qv a tid seq r m e A n C, .slice A1 n1 C1, .int .i64 a2] w fun en w' => en = .returned (.bool true) ∧ Below w.heap.size w w' := by
  have hmr := hrow.len_cap
  have hmx := hx.len_cap
  have hb0 : Below w.heap.size w (w.alloc (.cells (qcells a tid seq r m e A n C) 32)) := (Below.refl _ _).alloc (Nat.le_refl _) _
  have hk := Blk.new w (qcells a tid seq r m e A n C) 32
  have c23 : (w.alloc (.cells (qcells a tid seq r m e A n C) 32)).cell? ⟨w.heap.size, 23, none⟩ = some (.slice A n C) := hk.cell 23
  obtain ⟨z, hz, hz0, hz1⟩ := and_low a2
  clear wt ws w2
  have HE := Lib.hid hE
  have HR := Lib.hid hrow
  have HX := Lib.hid hx
  clear hE hrow hx
  unfold qv
  go_enter Tryd.func5, Tryd.ntmps5
  go_wp2_with fail
  refine (first_any _).mono ?_
  rintro en w1 ⟨rfl, hw1⟩
  replace hb0 := hb0.trans (hw1.mono (by simp))
  replace hk := hk.below hw1 (by simp)
  replace c23 := (hw1.cell (by simp)).trans c23
  have hlt : w.heap.size < w1.heap.size := hk.lt
  clear hw1
  generalize w.alloc _ = W0 at *
  by_cases hn : 1600 < (n : Int)
  · go_wp2_with fail
    go_ret
    exact ⟨rfl, hb0⟩
  by_cases hn1 : 1600 < (n1 : Int)
  · go_wp2_with fail
    go_ret
    exact ⟨rfl, hb0⟩
  have HB1 := Lib.hid hb0
  have HK1 := Lib.hid hk
  have HC1 := Lib.hid (qosBytes_any a tid seq r m e A n C body w1 ((HE.out.below HB1.out (Nat.le_refl _)).sub (by decide)) (HR.out.below HB1.out (Nat.le_refl _)))
  clear hb0 hk
  go_wp2_with (refine wpList_load_blk _ (by rfl) 32 _ rfl w.heap.size rfl 32 _ _ HK1.out Tryd.underlying32 rfl (by kernel_rfl) ?_)
  refine HC1.out.mono ?_
  rintro en w2 ⟨A2, n2, C2, rfl, ho2, hb2⟩
  have HB2 := Lib.hid (HB1.out.trans (hb2.mono (Nat.le_of_lt hlt)))
  have HK2 := Lib.hid (HK1.out.below hb2 hlt)
  have HO2 := Lib.hid ho2.row
  have hlt2 := HK2.out.lt
  have HC2 := Lib.hid (rqosBytes_any a tid seq r m e A n C body w2 (HR.out.below HB2.out (Nat.le_refl _)))
  clear ho2 hb2 c23
  go_wp2_with (refine wpList_load_blk _ (by rfl) 32 _ rfl w.heap.size rfl 32 _ _ HK2.out Tryd.underlying32 rfl (by kernel_rfl) ?_)
  refine HC2.out.mono ?_
  rintro en w3 ⟨A3, n3, C3, rfl, ho3, hb3⟩
  have HB3 := Lib.hid (HB2.out.trans (hb3.mono (Nat.le_of_lt hlt2)))
  have HO3 := Lib.hid ho3.row
  have HO23 := Lib.hid (HO2.out.below hb3 (Nat.le_refl _))
  have z3 := HB3.out.size
  have HC3 := Lib.hid (readU A1 n1 C1 xs w3 ((HE.out.below HB3.out (Nat.le_refl _)).sub (by decide)) (HX.out.below HB3.out (Nat.le_refl _)))
  have HP := Lib.hid (fun i (h : qerr tid seq n = some i) => (show i ∈ allErr by
    unfold qerr at h
    cases hq : qokB tid seq n <;> rw [hq] at h
    · injection h with h; subst h; decide
    · cases h))
  have HP2 := Lib.hid (fun i (h : rdErr xs = some i) => rdErr_all i h)
  have HCR := Lib.hid (fun w' (h : Row w' 1 A1 n1 C1 (xs.map u8v)) => rreadU A1 n1 C1 xs w' h)
  clear ho3 hb3 hlt hlt2
  generalize qerr tid seq n = o at *
  generalize rdErr xs = o2 at *
  generalize uread xs = u at *
  generalize qres a tid seq r m e n body = bs at *
  go_wp2_with fail
  refine HC3.out.mono ?_
  rintro en w4 ⟨A4, n4, C4, rfl, ho4, hb4⟩
  have HB4 := Lib.hid (HB3.out.trans (hb4.mono z3))
  have z4 := HB4.out.size
  have HO4 := Lib.hid ho4.row
  have HO34 := Lib.hid (HO3.out.below hb4 (Nat.le_refl _))
  have HO24 := Lib.hid (HO23.out.below hb4 (Nat.le_refl _))
  clear ho4 hb4
  unfold uv
  go_wp2_with (refine wpList_store_blk _ (by rfl) 32 _ _ rfl w4.heap.size _ rfl rfl 32 _ (Blk.new _ _ _) (by kernel_rfl) rfl (qcells_one _ _ _ _ _ _ _ _ _) ?_; intro w5 hk5 hg5; have hb5 : Below w4.heap.size w4 w5 := Below.grown ((Below.refl _ _).alloc (Nat.le_refl _) _) hg5 (by simp) (by simp))
  have HB5 := Lib.hid (HB4.out.trans (hb5.mono z4))
  have z5 := HB5.out.size
  have HKP := Lib.hid hk5
  have hl5 := hk5.lt
  have HO5 := Lib.hid (HO4.out.below hb5 (Nat.le_refl _))
  have HO35 := Lib.hid (HO34.out.below hb5 (Nat.le_refl _))
  have HO25 := Lib.hid (HO24.out.below hb5 (Nat.le_refl _))
  have HC5 := Lib.hid (HCR.out w5 (HX.out.below HB5.out (Nat.le_refl _)))
  clear hk5 hg5 hb5
  generalize w4.heap.size = pp at *
  go_wp2_with fail
  refine HC5.out.mono ?_
  rintro en w6 ⟨A6, n6, C6, rfl, ho6, hb6⟩
  have HB6 := Lib.hid (HB5.out.trans (hb6.mono z5))
  have z6 := HB6.out.size
  have HKP6 := Lib.hid (HKP.out.below hb6 hl5)
  have hl6 := HKP6.out.lt
  have HO6 := Lib.hid (HO5.out.below hb6 (Nat.le_refl _))
  have HO36 := Lib.hid (HO35.out.below hb6 (Nat.le_refl _))
  have HO26 := Lib.hid (HO25.out.below hb6 (Nat.le_refl _))
  have HQ6 := Lib.hid ho6.row
  clear ho6 hb6
  unfold uv
  go_wp2_with (refine wpList_store_blk _ (by rfl) 32 _ _ rfl w6.heap.size _ rfl rfl 32 _ (Blk.new _ _ _) (by kernel_rfl) rfl (qcells_one _ _ _ _ _ _ _ _ _) ?_; intro w7 hk7 hg7; have hb7 : Below w6.heap.size w6 w7 := Below.grown ((Below.refl _ _).alloc (Nat.le_refl _) _) hg7 (by simp) (by simp))
  have HB7 := Lib.hid (HB6.out.trans (hb7.mono z6))
  have z7 := HB7.out.size
  have HKP7 := Lib.hid (HKP6.out.below hb7 hl6)
  have hlp7 := HKP7.out.lt
  have HKQ7 := Lib.hid hk7
  have hlq7 := hk7.lt
  have HO7 := Lib.hid (HO6.out.below hb7 (Nat.le_refl _))
  have HQ7 := Lib.hid (HQ6.out.below hb7 (Nat.le_refl _))
  have HC7 := Lib.hid (sameBytes_any _ _ _ _ _ _ _ _ w7 (HO26.out.below hb7 (Nat.le_refl _)) (HO36.out.below hb7 (Nat.le_refl _)))
  clear hk7 hg7 hb7
  generalize w6.heap.size = pq at *
  go_wp2_with fail
  refine HC7.out.mono ?_
  rintro en w8 ⟨rfl, hq8⟩
  rw [show sameB bs bs = true by simp [sameB]]
  have hb8 : Below w7.heap.size w7 w8 := by obtain ⟨k, rfl⟩ := hq8; exact below_drewN _
  have HB8 := Lib.hid (HB7.out.trans (hb8.mono z7))
  have z8 := HB8.out.size
  have HKP8 := Lib.hid (HKP7.out.below hb8 hlp7)
  have hlp8 := HKP8.out.lt
  have HKQ8 := Lib.hid (HKQ7.out.below hb8 hlq7)
  have hlq8 := HKQ8.out.lt
  have HO8 := Lib.hid (HO7.out.below hb8 (Nat.le_refl _))
  have HQ8 := Lib.hid (HQ7.out.below hb8 (Nat.le_refl _))
  have HC8 := Lib.hid (is_any (HE.out.below HB8.out (Nat.le_refl _)) o HP.out (errCode o))
  clear hb8 hq8
  go_wp2_with fail
  refine HC8.out.mono ?_
  rintro en w9 ⟨rfl, hb9⟩
  rw [show (errCode o == errCode o) = true by simp]
  have HB9 := Lib.hid (HB8.out.trans (hb9.mono z8))
  have z9 := HB9.out.size
  have HKP9 := Lib.hid (HKP8.out.below hb9 hlp8)
  have HKQ9 := Lib.hid (HKQ8.out.below hb9 hlq8)
  have HC9 := Lib.hid (sameQos_any u.a u.tid u.seq u.r u.m u.e A4 n4 C4 u.body u.a u.tid u.seq u.r u.m u.e A6 n6 C6 u.body w9 (HO8.out.below hb9 (Nat.le_refl _)) (HQ8.out.below hb9 (Nat.le_refl _)))
  clear hb9
  go_wp2_with (first
    | (refine wpList_load_blk _ (by rfl) 32 _ rfl pp rfl 32 _ _ HKP9.out Tryd.underlying32 rfl (by kernel_rfl) ?_)
    | (refine wpList_load_blk _ (by rfl) 32 _ rfl pq rfl 32 _ _ HKQ9.out Tryd.underlying32 rfl (by kernel_rfl) ?_))
  refine HC9.out.mono ?_
  rintro en w10 ⟨rfl, hb10⟩
  rw [sameQ_self]
  have HB10 := Lib.hid (HB9.out.trans (hb10.mono z9))
  have z10 := HB10.out.size
  have HC10 := Lib.hid (is_any (HE.out.below HB10.out (Nat.le_refl _)) o2 HP2.out (errCode o2))
  clear hb10
  go_wp2_with fail
  refine HC10.out.mono ?_
  rintro en w11 ⟨rfl, hb11⟩
  rw [show (errCode o2 == errCode o2) = true by simp]
  have HB11 := Lib.hid (HB10.out.trans (hb11.mono z10))
  have HL11 := Lib.hid (qosLen_any z w11 (by omega))
  have HL12 := Lib.hid (qosLen_any (-1) w11 (by omega))
  rw [show max z 0 = z by omega] at HL11
  rw [show (26 : Int) + max (-1) 0 = 26 by decide] at HL12
  clear hb11
  have ee : ((26 : Int) + z == 26 + z) = true := by simp
  go_wp2_with fail
  refine HL11.out.mono ?_
  rintro en w12 ⟨rfl, rfl⟩
  go_wp2_with fail
  refine HL12.out.mono ?_
  rintro en w13 ⟨rfl, rfl⟩
  go_wp2_with fail
  go_ret
  exact ⟨rfl, HB11.out⟩
end Go.Proofs.YtidgomffmeplaaaDoor
