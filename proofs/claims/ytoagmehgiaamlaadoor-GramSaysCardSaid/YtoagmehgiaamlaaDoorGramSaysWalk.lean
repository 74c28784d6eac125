/-
  The walk of GramSays.
-/
import Derived.Test.YtoagmehgiaamlaaDoorGramSaysPlain
import Derived.Test.YtoagmehgiaamlaaDoorGramCode
namespace Go.Proofs.YtoagmehgiaamlaaDoor
open Go.ChangeShapes Go.WideShapes Go.ChangeAt Go.RowKit
set_option linter.unusedVariables false

set_option maxRecDepth 100000 in
set_option maxHeartbeats 8000000 in
theorem gramSays_walk (w : World) {E : Nat → Addr} (hE : Errs allErr w E) (m : RulesP) (ws : (Lit.int .i64 m.r.s).wf = true) (wt : (Lit.int .i64 m.start).wf = true) (ag : Bool) (A : Option Addr) (n C : Nat) (b : List UInt8) (hx : Row w 1 A n C (b.map u8v)) :
    Calls Tryd.prog 4 #[ruv m, .bool ag, .slice A n C] w fun e w' => e = .returned (.bool true) ∧ Below w.heap.size w w' := by
  obtain ⟨s0, s1⟩ := bounds_i64 ws
  obtain ⟨t0, t1⟩ := bounds_i64 wt
  clear ws wt
  have hb1 : Below w.heap.size w (w.alloc (.cells (rucells m) 30)) := (Below.refl _ _).alloc (Nat.le_refl _) _
  have HE := Lib.hid (hE.alloc (.cells (rucells m) 30))
  have HX := Lib.hid (hx.below hb1 (Nat.le_refl _))
  have HM := Lib.hid (Blk.new w (rucells m) 30)
  have HB := Lib.hid hb1
  clear hE hx hb1
  unfold ruv
  go_enter Tryd.func4, Tryd.ntmps4
  go_wp2_with fail
  generalize w.alloc _ = W at *
  refine (first_any HE.out).mono ?_
  rintro e w1 ⟨rfl, hw1⟩
  have zW := HM.out.lt
  have HB1 := Lib.hid (HB.out.trans (hw1.mono HB.out.size))
  have HM1 := Lib.hid (HM.out.below hw1 HM.out.lt)
  have HX1 := Lib.hid (HX.out.below hw1 (Nat.le_refl _))
  have HE1 := Lib.hid (HE.out.below hw1 (Nat.le_refl _))
  clear hw1 HB HM HX HE
  have c17 : w1.cell? ⟨w.heap.size, 17, none⟩ = some (.int .i64 m.start) := HM1.out.cell 17
  by_cases hn : 4000 < n
  case pos =>
    have g1 : decide ((4000 : Int) < (n : Int)) = true := decide_eq_true (by omega)
    go_wp2_with fail
    go_ret
    exact ⟨rfl, HB1.out⟩
  case neg =>
  have g1 : decide ((4000 : Int) < (n : Int)) = false := decide_eq_false (by omega)
  by_cases h0 : m.start < 0
  case pos =>
    have g2 : decide (m.start < 0) = true := decide_eq_true h0
    go_wp2_with fail
    go_ret
    exact ⟨rfl, HB1.out⟩
  case neg =>
  have g2 : decide (m.start < 0) = false := decide_eq_false h0
  by_cases h1 : 4095 < m.start
  case pos =>
    have g3 : decide ((4095 : Int) < m.start) = true := decide_eq_true h1
    go_wp2_with fail
    go_ret
    exact ⟨rfl, HB1.out⟩
  case neg =>
  have g3 : decide ((4095 : Int) < m.start) = false := decide_eq_false h1
  have hn2 : n ≤ 1048576 := by omega
  go_wp2_with (refine wpList_load_blk _ (by rfl) 30 _ rfl w.heap.size rfl 30 _ _ HM1.out Tryd.underlying30 rfl (by kernel_rfl) ?_)
  have HC := Lib.hid (check_any HE1.out m ag A n C b HX1.out hn2)
  have HD := Lib.hid (fun (x : World) (h : Row x 1 A n C (b.map u8v)) => rcheck_any m ag s0 s1 t0 t1 A n C b h hn2)
  have HBC := Lib.hid (fun (c : Nat) (h : checkP m ag b = .bare c) => bare_code h)
  have HPC := Lib.hid (fun (c i : Nat) (h : checkP m ag b = .placed c i) => placed_code h)
  clear g1 g2 g3 h0 h1 hn c17 s0 s1 t0 t1
  unfold ruv at HC
  generalize checkP m ag b = r at *
  cases r with
  | bare c =>
    as_aux_lemma =>
      have hc := HBC.out c rfl
      refine HC.out.mono ?_
      rintro e w2 ⟨rfl, hb2⟩
      have HB2 := Lib.hid (HB1.out.trans (hb2.mono HB1.out.size))
      have HM2 := Lib.hid (HM1.out.below hb2 HM1.out.lt)
      have HX2 := Lib.hid (HX1.out.below hb2 (Nat.le_refl _))
      have HE2 := Lib.hid (HE1.out.below hb2 (Nat.le_refl _))
      clear hb2 HC HBC HPC
      unfold errV
      go_wp2_with (first
        | (refine wpList_store_blk _ (by rfl) 40 _ _ rfl w2.heap.size zsent rfl rfl 40 _ (Blk.new _ _ _) (by kernel_rfl) rfl (by kernel_rfl) ?_; intro w3 hk3 hg3; have hb23 : Below w2.heap.size w2 w3 := Below.grown ((Below.refl _ _).alloc (Nat.le_refl _) _) hg3 (by simp) (by simp); have HK3 := Lib.hid hk3; have HB3 := Lib.hid (HB2.out.trans (hb23.mono HB2.out.size)); have HM3 := Lib.hid (HM2.out.below hb23 HM2.out.lt); have HX3 := Lib.hid (HX2.out.below hb23 (Nat.le_refl _)); have HE3 := Lib.hid (HE2.out.below hb23 (Nat.le_refl _)); clear hk3 hg3 hb23)
        | (refine wpList_load_blk _ (by rfl) 30 _ rfl w.heap.size rfl 30 _ _ HM3.out Tryd.underlying30 rfl (by kernel_rfl) ?_))
      refine (other_any m w3).mono ?_
      rintro e w4 ⟨rfl, hb4⟩
      have HB4 := Lib.hid (HB3.out.trans (hb4.mono HB3.out.size))
      have HK4 := Lib.hid (HK3.out.below hb4 HK3.out.lt)
      have HX4 := Lib.hid (HX3.out.below hb4 (Nat.le_refl _))
      have HE4 := Lib.hid (HE3.out.below hb4 (Nat.le_refl _))
      clear hb4
      go_wp2_with fail
      refine (HD.out _ HX4.out).mono ?_
      rintro e w5 ⟨rfl, hb5⟩
      have HB5 := Lib.hid (HB4.out.trans (hb5.mono HB4.out.size))
      have HK5 := Lib.hid (HK4.out.below hb5 HK4.out.lt)
      have HE5 := Lib.hid (HE4.out.below hb5 (Nat.le_refl _))
      clear hb5
      have hba := ((Below.refl w5.heap.size w5).alloc (Nat.le_refl _) (.cells #[.int .i64 0, .slice none 0 0, .slice none 0 0, .bool false, .bool false, .slice none 0 0] 52)).alloc (by simp) (.cells #[.int .i64 0, .bool false, .int .i64 0] 47)
      have hs5 := (Blk.new w5 #[.int .i64 0, .slice none 0 0, .slice none 0 0, .bool false, .bool false, .slice none 0 0] 52).alloc (.cells #[.int .i64 0, .bool false, .int .i64 0] 47)
      have hf5 := Blk.new (w5.alloc (.cells #[.int .i64 0, .slice none 0 0, .slice none 0 0, .bool false, .bool false, .slice none 0 0] 52)) #[.int .i64 0, .bool false, .int .i64 0] 47
      rw [show (w5.alloc (.cells #[.int .i64 0, .slice none 0 0, .slice none 0 0, .bool false, .bool false, .slice none 0 0] 52)).heap.size = w5.heap.size + 1 by simp] at hf5
      have HBA := Lib.hid hba
      have HS5 := Lib.hid hs5
      have HF5 := Lib.hid hf5
      clear hba hs5 hf5
      go_wp2_with (first
        | (refine wpList_store_blk _ (by rfl) 52 _ _ rfl w5.heap.size zsent rfl rfl 52 _ HS5.out (by kernel_rfl) rfl (by kernel_rfl) ?_; intro w6 hk6 hg6; have HB56 := Lib.hid (Below.grown HBA.out hg6 HBA.out.size (by simp)); have HF6 := Lib.hid (HF5.out.grown hg6 (by simp)); have HS6 := Lib.hid hk6; clear hk6 hg6)
        | (refine wpList_store_blk _ (by rfl) 47 _ _ rfl (w5.heap.size + 1) (faultcells (.bare c)) rfl rfl 47 _ HF6.out (by kernel_rfl) rfl (by kernel_rfl) ?_; intro w7 hk7 hg7; have hb57 : Below w5.heap.size w5 w7 := Below.grown HB56.out hg7 HB56.out.size (by simp); have HS7 := Lib.hid (HS6.out.grown hg7 (by simp)); have HF7 := Lib.hid hk7; have HB7 := Lib.hid (HB5.out.trans (hb57.mono HB5.out.size)); have HE7 := Lib.hid (HE5.out.below hb57 (Nat.le_refl _)); have HK7 := Lib.hid (HK5.out.below hb57 HK5.out.lt); clear hk7 hg7 hb57)
        | (refine wpList_load_blk _ (by rfl) 40 _ rfl w2.heap.size rfl 40 _ _ HK7.out Tryd.underlying40 rfl (by kernel_rfl) ?_)
        | (refine wpList_load_blk _ (by rfl) 52 _ rfl w5.heap.size rfl 52 _ _ HS7.out Tryd.underlying52 rfl (by kernel_rfl) ?_))
      refine (same_any25 noSent none 0 0 none 0 0 none 0 0 none 0 none 0 none 0 w7 (row_nil _ _) (row_nil _ _) (row_nil _ _) (row_nil _ _) (rowP_nil _) (rowP_nil _)).mono ?_
      rintro e w8 ⟨rfl, hb8⟩
      have HB8 := Lib.hid (HB7.out.trans (hb8.mono HB7.out.size))
      have HF8 := Lib.hid (HF7.out.below hb8 HF7.out.lt)
      have HE8 := Lib.hid (HE7.out.below hb8 (Nat.le_refl _))
      clear hb8
      go_wp2_with (refine wpList_load_blk _ (by rfl) 47 _ rfl (w5.heap.size + 1) rfl 47 _ _ HF8.out Tryd.underlying47 rfl (by kernel_rfl) ?_)
      refine (same_any HE8.out (some c) (fun i e => by injection e with e; subst e; exact hc) (101 + (c : Int))).mono ?_
      rintro e w9 ⟨rfl, hb9⟩
      have HB9 := Lib.hid (HB8.out.trans (hb9.mono HB8.out.size))
      clear hb9
      rw [show (errCode (some c) == 101 + (c : Int)) = true by simp [errCode]]
      go_wp2_with fail
      go_ret
      exact ⟨rfl, HB9.out⟩
  | placed c i =>
    as_aux_lemma =>
      have hc := HPC.out c i rfl
      refine HC.out.mono ?_
      rintro e w2 ⟨p, rfl, hp2, hge2, hb2⟩
      have HB2 := Lib.hid (HB1.out.trans (hb2.mono HB1.out.size))
      have HM2 := Lib.hid (HM1.out.below hb2 HM1.out.lt)
      have HX2 := Lib.hid (HX1.out.below hb2 (Nat.le_refl _))
      have HE2 := Lib.hid (HE1.out.below hb2 (Nat.le_refl _))
      have HP2 := Lib.hid (hp2)
      clear hb2 HC HBC HPC hp2
      unfold atV
      go_wp2_with (first
        | (refine wpList_store_blk _ (by rfl) 40 _ _ rfl w2.heap.size zsent rfl rfl 40 _ (Blk.new _ _ _) (by kernel_rfl) rfl (by kernel_rfl) ?_; intro w3 hk3 hg3; have hb23 : Below w2.heap.size w2 w3 := Below.grown ((Below.refl _ _).alloc (Nat.le_refl _) _) hg3 (by simp) (by simp); have HK3 := Lib.hid hk3; have HB3 := Lib.hid (HB2.out.trans (hb23.mono HB2.out.size)); have HM3 := Lib.hid (HM2.out.below hb23 HM2.out.lt); have HX3 := Lib.hid (HX2.out.below hb23 (Nat.le_refl _)); have HE3 := Lib.hid (HE2.out.below hb23 (Nat.le_refl _)); have HP3 := Lib.hid (HP2.out.below hb23 HP2.out.lt); clear hk3 hg3 hb23)
        | (refine wpList_load_blk _ (by rfl) 30 _ rfl w.heap.size rfl 30 _ _ HM3.out Tryd.underlying30 rfl (by kernel_rfl) ?_))
      refine (other_any m w3).mono ?_
      rintro e w4 ⟨rfl, hb4⟩
      have HB4 := Lib.hid (HB3.out.trans (hb4.mono HB3.out.size))
      have HK4 := Lib.hid (HK3.out.below hb4 HK3.out.lt)
      have HX4 := Lib.hid (HX3.out.below hb4 (Nat.le_refl _))
      have HE4 := Lib.hid (HE3.out.below hb4 (Nat.le_refl _))
      have HP4 := Lib.hid (HP3.out.below hb4 HP3.out.lt)
      clear hb4
      go_wp2_with fail
      refine (HD.out _ HX4.out).mono ?_
      rintro e w5 ⟨rfl, hb5⟩
      have HB5 := Lib.hid (HB4.out.trans (hb5.mono HB4.out.size))
      have HK5 := Lib.hid (HK4.out.below hb5 HK4.out.lt)
      have HE5 := Lib.hid (HE4.out.below hb5 (Nat.le_refl _))
      have HP5 := Lib.hid (HP4.out.below hb5 HP4.out.lt)
      clear hb5
      have hba := ((Below.refl w5.heap.size w5).alloc (Nat.le_refl _) (.cells #[.int .i64 0, .slice none 0 0, .slice none 0 0, .bool false, .bool false, .slice none 0 0] 52)).alloc (by simp) (.cells #[.int .i64 0, .bool false, .int .i64 0] 47)
      have hs5 := (Blk.new w5 #[.int .i64 0, .slice none 0 0, .slice none 0 0, .bool false, .bool false, .slice none 0 0] 52).alloc (.cells #[.int .i64 0, .bool false, .int .i64 0] 47)
      have hf5 := Blk.new (w5.alloc (.cells #[.int .i64 0, .slice none 0 0, .slice none 0 0, .bool false, .bool false, .slice none 0 0] 52)) #[.int .i64 0, .bool false, .int .i64 0] 47
      rw [show (w5.alloc (.cells #[.int .i64 0, .slice none 0 0, .slice none 0 0, .bool false, .bool false, .slice none 0 0] 52)).heap.size = w5.heap.size + 1 by simp] at hf5
      have HBA := Lib.hid hba
      have HS5 := Lib.hid hs5
      have HF5 := Lib.hid hf5
      clear hba hs5 hf5
      go_wp2_with (first
        | (refine wpList_store_blk _ (by rfl) 52 _ _ rfl w5.heap.size zsent rfl rfl 52 _ HS5.out (by kernel_rfl) rfl (by kernel_rfl) ?_; intro w6 hk6 hg6; have HB56 := Lib.hid (Below.grown HBA.out hg6 HBA.out.size (by simp)); have HF6 := Lib.hid (HF5.out.grown hg6 (by simp)); have HS6 := Lib.hid hk6; clear hk6 hg6)
        | (refine wpList_store_blk _ (by rfl) 47 _ _ rfl (w5.heap.size + 1) (faultcells (.placed c i)) rfl rfl 47 _ HF6.out (by kernel_rfl) rfl (by kernel_rfl) ?_; intro w7 hk7 hg7; have hb57 : Below w5.heap.size w5 w7 := Below.grown HB56.out hg7 HB56.out.size (by simp); have HS7 := Lib.hid (HS6.out.grown hg7 (by simp)); have HF7 := Lib.hid hk7; have HB7 := Lib.hid (HB5.out.trans (hb57.mono HB5.out.size)); have HE7 := Lib.hid (HE5.out.below hb57 (Nat.le_refl _)); have HK7 := Lib.hid (HK5.out.below hb57 HK5.out.lt); have HP7 := Lib.hid (HP5.out.below hb57 HP5.out.lt); clear hk7 hg7 hb57)
        | (refine wpList_load_blk _ (by rfl) 40 _ rfl w2.heap.size rfl 40 _ _ HK7.out Tryd.underlying40 rfl (by kernel_rfl) ?_)
        | (refine wpList_load_blk _ (by rfl) 52 _ rfl w5.heap.size rfl 52 _ _ HS7.out Tryd.underlying52 rfl (by kernel_rfl) ?_))
      refine (same_any25 noSent none 0 0 none 0 0 none 0 0 none 0 none 0 none 0 w7 (row_nil _ _) (row_nil _ _) (row_nil _ _) (row_nil _ _) (rowP_nil _) (rowP_nil _)).mono ?_
      rintro e w8 ⟨rfl, hb8⟩
      have HB8 := Lib.hid (HB7.out.trans (hb8.mono HB7.out.size))
      have HF8 := Lib.hid (HF7.out.below hb8 HF7.out.lt)
      have HE8 := Lib.hid (HE7.out.below hb8 (Nat.le_refl _))
      have HP8 := Lib.hid (HP7.out.below hb8 HP7.out.lt)
      clear hb8
      go_wp2_with (refine wpList_load_blk _ (by rfl) 47 _ rfl (w5.heap.size + 1) rfl 47 _ _ HF8.out Tryd.underlying47 rfl (by kernel_rfl) ?_)
      refine (sameAt_any HE8.out c hc p (i : Int) HP8.out (101 + (c : Int)) true (i : Int)).mono ?_
      rintro e w9 ⟨rfl, hb9⟩
      have HB9 := Lib.hid (HB8.out.trans (hb9.mono HB8.out.size))
      clear hb9
      rw [show ((101 + (c : Int) == 101 + (c : Int)) && (true && ((i : Int) == (i : Int)))) = true by simp]
      go_wp2_with fail
      go_ret
      exact ⟨rfl, HB9.out⟩
  | fine s =>
    as_aux_lemma =>
      refine HC.out.mono ?_
      rintro e w2 ⟨A1, C1, A2, C2, A3, C3, rfl, o1, o2, o3, hb2⟩
      obtain ⟨X3, Y3, e3, r3⟩ := o3.row
      injection e3 with e31 e32 e33
      subst e31 e33
      have HB2 := Lib.hid (HB1.out.trans (hb2.mono HB1.out.size))
      have HM2 := Lib.hid (HM1.out.below hb2 HM1.out.lt)
      have HX2 := Lib.hid (HX1.out.below hb2 (Nat.le_refl _))
      have HE2 := Lib.hid (HE1.out.below hb2 (Nat.le_refl _))
      have HA2 := Lib.hid (o1.row)
      have HBo2 := Lib.hid (o2.row)
      have HCo2 := Lib.hid (r3)
      clear hb2 HC HBC HPC o1 o2 o3 r3
      go_wp2_with (first
        | (refine wpList_store_blk _ (by rfl) 40 _ _ rfl w2.heap.size (sentcells s.tid A1 s.seqs.length C1 A2 s.retry.length C2 s.more s.eosp A3 s.bodies.length C3) rfl rfl 40 _ (Blk.new _ _ _) (by kernel_rfl) rfl sent_one ?_; intro w3 hk3 hg3; have hb23 : Below w2.heap.size w2 w3 := Below.grown ((Below.refl _ _).alloc (Nat.le_refl _) _) hg3 (by simp) (by simp); have HK3 := Lib.hid hk3; have HB3 := Lib.hid (HB2.out.trans (hb23.mono HB2.out.size)); have HM3 := Lib.hid (HM2.out.below hb23 HM2.out.lt); have HX3 := Lib.hid (HX2.out.below hb23 (Nat.le_refl _)); have HE3 := Lib.hid (HE2.out.below hb23 (Nat.le_refl _)); have HA3 := Lib.hid (HA2.out.below hb23 (Nat.le_refl _)); have HBo3 := Lib.hid (HBo2.out.below hb23 (Nat.le_refl _)); have HCo3 := Lib.hid (HCo2.out.below hb23 (Nat.le_refl _)); clear hk3 hg3 hb23)
        | (refine wpList_load_blk _ (by rfl) 30 _ rfl w.heap.size rfl 30 _ _ HM3.out Tryd.underlying30 rfl (by kernel_rfl) ?_))
      refine (other_any m w3).mono ?_
      rintro e w4 ⟨rfl, hb4⟩
      have HB4 := Lib.hid (HB3.out.trans (hb4.mono HB3.out.size))
      have HK4 := Lib.hid (HK3.out.below hb4 HK3.out.lt)
      have HX4 := Lib.hid (HX3.out.below hb4 (Nat.le_refl _))
      have HE4 := Lib.hid (HE3.out.below hb4 (Nat.le_refl _))
      have HA4 := Lib.hid (HA3.out.below hb4 (Nat.le_refl _))
      have HBo4 := Lib.hid (HBo3.out.below hb4 (Nat.le_refl _))
      have HCo4 := Lib.hid (HCo3.out.below hb4 (Nat.le_refl _))
      clear hb4
      go_wp2_with fail
      refine (HD.out _ HX4.out).mono ?_
      rintro e w5 ⟨B1, D1, B2, D2, B3, D3, rfl, p1, p2, p3, hb5⟩
      obtain ⟨X3, Y3, e3, q3⟩ := p3.row
      injection e3 with e31 e32 e33
      subst e31 e33
      have HP1 := Lib.hid p1.row
      have HP2 := Lib.hid p2.row
      have HP3 := Lib.hid q3
      clear p1 p2 p3 q3
      have HB5 := Lib.hid (HB4.out.trans (hb5.mono HB4.out.size))
      have HK5 := Lib.hid (HK4.out.below hb5 HK4.out.lt)
      have HE5 := Lib.hid (HE4.out.below hb5 (Nat.le_refl _))
      have HA5 := Lib.hid (HA4.out.below hb5 (Nat.le_refl _))
      have HBo5 := Lib.hid (HBo4.out.below hb5 (Nat.le_refl _))
      have HCo5 := Lib.hid (HCo4.out.below hb5 (Nat.le_refl _))
      clear hb5
      have hba := ((Below.refl w5.heap.size w5).alloc (Nat.le_refl _) (.cells #[.int .i64 0, .slice none 0 0, .slice none 0 0, .bool false, .bool false, .slice none 0 0] 52)).alloc (by simp) (.cells #[.int .i64 0, .bool false, .int .i64 0] 47)
      have hs5 := (Blk.new w5 #[.int .i64 0, .slice none 0 0, .slice none 0 0, .bool false, .bool false, .slice none 0 0] 52).alloc (.cells #[.int .i64 0, .bool false, .int .i64 0] 47)
      have hf5 := Blk.new (w5.alloc (.cells #[.int .i64 0, .slice none 0 0, .slice none 0 0, .bool false, .bool false, .slice none 0 0] 52)) #[.int .i64 0, .bool false, .int .i64 0] 47
      rw [show (w5.alloc (.cells #[.int .i64 0, .slice none 0 0, .slice none 0 0, .bool false, .bool false, .slice none 0 0] 52)).heap.size = w5.heap.size + 1 by simp] at hf5
      have HBA := Lib.hid hba
      have HS5 := Lib.hid hs5
      have HF5 := Lib.hid hf5
      clear hba hs5 hf5
      go_wp2_with (first
        | (refine wpList_store_blk _ (by rfl) 52 _ _ rfl w5.heap.size (sentcells s.tid B1 s.seqs.length D1 B2 s.retry.length D2 s.more s.eosp B3 s.bodies.length D3) rfl rfl 52 _ HS5.out (by kernel_rfl) rfl sent_one ?_; intro w6 hk6 hg6; have HB56 := Lib.hid (Below.grown HBA.out hg6 HBA.out.size (by simp)); have HF6 := Lib.hid (HF5.out.grown hg6 (by simp)); have HS6 := Lib.hid hk6; clear hk6 hg6)
        | (refine wpList_store_blk _ (by rfl) 47 _ _ rfl (w5.heap.size + 1) (faultcells (.fine s)) rfl rfl 47 _ HF6.out (by kernel_rfl) rfl (by kernel_rfl) ?_; intro w7 hk7 hg7; have hb57 : Below w5.heap.size w5 w7 := Below.grown HB56.out hg7 HB56.out.size (by simp); have HS7 := Lib.hid (HS6.out.grown hg7 (by simp)); have HF7 := Lib.hid hk7; have HB7 := Lib.hid (HB5.out.trans (hb57.mono HB5.out.size)); have HE7 := Lib.hid (HE5.out.below hb57 (Nat.le_refl _)); have HK7 := Lib.hid (HK5.out.below hb57 HK5.out.lt); have HA7 := Lib.hid (HA5.out.below hb57 (Nat.le_refl _)); have HBo7 := Lib.hid (HBo5.out.below hb57 (Nat.le_refl _)); have HCo7 := Lib.hid (HCo5.out.below hb57 (Nat.le_refl _)); have HQ1 := Lib.hid (HP1.out.below hb57 (Nat.le_refl _)); have HQ2 := Lib.hid (HP2.out.below hb57 (Nat.le_refl _)); have HQ3 := Lib.hid (HP3.out.below hb57 (Nat.le_refl _)); clear hk7 hg7 hb57)
        | (refine wpList_load_blk _ (by rfl) 40 _ rfl w2.heap.size rfl 40 _ _ HK7.out Tryd.underlying40 rfl (by kernel_rfl) ?_)
        | (refine wpList_load_blk _ (by rfl) 52 _ rfl w5.heap.size rfl 52 _ _ HS7.out Tryd.underlying52 rfl (by kernel_rfl) ?_))
      refine (same_any25 s A1 _ C1 A2 _ C2 A3 _ C3 B1 D1 B2 D2 B3 D3 w7 HA7.out HQ1.out HBo7.out HQ2.out HCo7.out HQ3.out).mono ?_
      rintro e w8 ⟨rfl, hb8⟩
      have HB8 := Lib.hid (HB7.out.trans (hb8.mono HB7.out.size))
      have HF8 := Lib.hid (HF7.out.below hb8 HF7.out.lt)
      have HE8 := Lib.hid (HE7.out.below hb8 (Nat.le_refl _))
      clear hb8
      go_wp2_with (refine wpList_load_blk _ (by rfl) 47 _ rfl (w5.heap.size + 1) rfl 47 _ _ HF8.out Tryd.underlying47 rfl (by kernel_rfl) ?_)
      refine (same_any HE8.out none (fun i e => by cases e) 0).mono ?_
      rintro e w9 ⟨rfl, hb9⟩
      have HB9 := Lib.hid (HB8.out.trans (hb9.mono HB8.out.size))
      clear hb9
      rw [show (errCode none == 0) = true by rfl]
      go_wp2_with fail
      go_ret
      exact ⟨rfl, HB9.out⟩
end Go.Proofs.YtoagmehgiaamlaaDoor
