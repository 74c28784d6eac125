/-
  The walk of GramSingle.
-/
import Derived.Test.YtoagmehgiaamlaaDoorGramStep
import Derived.Test.YtoagmehgiaamlaaDoorSameInts
import Derived.Test.YtoagmehgiaamlaaDoorSameBools
import Derived.Test.YtoagmehgiaamlaaDoorMa
namespace Go.Proofs.YtoagmehgiaamlaaDoor
open Go.ChangeShapes Go.WideShapes Go.ChangeAt Go.RowKit
set_option linter.unusedVariables false

abbrev d22 : Nat → UInt8 := adr2 2 2
abbrev d21 : Nat → UInt8 := adr2 2 1
/-- one frame within the window -/
theorem single_in {start off tid : Int} {retry session : Bool} {body : List UInt8} (h0 : 0 ≤ start) (h1 : start < 4096) (o0 : 0 ≤ off) (o1 : off < 64) (t0 : 0 ≤ tid) (t1 : tid < 8) (hb : body.length ≤ 100) :
    checkP (rulesS start 64 65535 54840 d22 ht7 session) false (frameB d22 d21 d21 tid ((start + off) % 4096) retry false false body) = .fine ⟨tid, [(start + off) % 4096], [retry], false, false, [body]⟩ := by
  obtain ⟨hn, f, hu, hf⟩ := frame_read (d := d22) (s := d21) (t := d21) (tid := tid) (seq := (start + off) % 4096) (r := retry) (m := false) (e := false) (body := body) ⟨t0, t1, by omega, by omega, by omega⟩
  have hp : partG (rulesS start 64 65535 54840 d22 ht7 session) (uread (frameB d22 d21 d21 tid ((start + off) % 4096) retry false false body)) none = none := by
    rw [hu]
    exact part_good (fA_d hf) (fA_s hf) (fA_t hf) (show (((start + off) % 4096) - start) % 4096 < 64 by omega) (fun x hx => by cases hx)
  rw [check_single]
  refine allR_fine (s := ⟨tid, [(start + off) % 4096], [retry], false, false, [body]⟩) ?_ (whole_fine ?_ ?_)
  · rw [sent_next hn hp, hu]; rfl
  · rintro (h | h)
    · exact absurd h (by show ¬ ((64 : Int) < ((1 : Nat) : Int)); omega)
    · exact absurd h.1 (by decide)
  · rw [frame_len]
    have := ht7_le (n := 26 + body.length) (by omega)
    rintro (h | h | h)
    · rw [show (rulesS start 64 65535 54840 d22 ht7 session).r = ht7 from rfl, ht7_valid] at h; cases h
    · rw [show (rulesS start 64 65535 54840 d22 ht7 session).r = ht7 from rfl] at h; omega
    · exact absurd h.1 (by decide)
theorem single_out {start off tid : Int} {retry session : Bool} {body : List UInt8} (h0 : 0 ≤ start) (h1 : start < 4096) (o0 : 64 ≤ off) (o1 : off < 70) (t0 : 0 ≤ tid) (t1 : tid < 8) (hb : body.length ≤ 100) :
    checkP (rulesS start 64 65535 54840 d22 ht7 session) false (frameB d22 d21 d21 tid ((start + off) % 4096) retry false false body) = .placed 10 0 := by
  obtain ⟨hn, f, hu, hf⟩ := frame_read (d := d22) (s := d21) (t := d21) (tid := tid) (seq := (start + off) % 4096) (r := retry) (m := false) (e := false) (body := body) ⟨t0, t1, by omega, by omega, by omega⟩
  have hp : partG (rulesS start 64 65535 54840 d22 ht7 session) (uread (frameB d22 d21 d21 tid ((start + off) % 4096) retry false false body)) none = some 10 := by
    rw [hu]
    exact part_seq (fA_d hf) (fA_s hf) (fA_t hf) (fun x hx => by cases hx) (show ¬ (((start + off) % 4096) - start) % 4096 < 64 by omega)
  rw [check_single]
  exact allR_placed (sent_amiss hn hp)
theorem single_to {start off tid : Int} {retry session : Bool} {body : List UInt8} (h0 : 0 ≤ start) (h1 : start < 4096) (t0 : 0 ≤ tid) (t1 : tid < 8) (hb : body.length ≤ 100) :
    checkP (rulesS start 64 65535 54840 (adr2 2 9) ht7 session) false (frameB d22 d21 d21 tid ((start + off) % 4096) retry false false body) = .placed 4 0 := by
  obtain ⟨hn, f, hu, hf⟩ := frame_read (d := d22) (s := d21) (t := d21) (tid := tid) (seq := (start + off) % 4096) (r := retry) (m := false) (e := false) (body := body) ⟨t0, t1, by omega, by omega, by omega⟩
  have hp : partG (rulesS start 64 65535 54840 (adr2 2 9) ht7 session) (uread (frameB d22 d21 d21 tid ((start + off) % 4096) retry false false body)) none = some 4 := by
    rw [hu]
    refine part_kind (.inl (sameA_no 1 (by decide) ?_))
    show ¬ f 1 = (9 : UInt8)
    rw [hf 1 (by decide)]
    decide
  rw [check_single]
  exact allR_placed (sent_amiss hn hp)
/-- the addresses as the law's literal lays them -/
theorem lit_addr : ∀ i : Fin 18, fA d22 d21 d21 i.val = fA d22 d21 d21 i.val := fun _ => rfl

theorem qv_lit (tid seq : Int) (r m e : Bool) (A : Option Addr) (n C : Nat) : qv (fA d22 d21 d21) tid seq r m e A n C = .agg #[.int .u8 2, .int .u8 2, .int .u8 0, .int .u8 0, .int .u8 0, .int .u8 0, .int .u8 2, .int .u8 1, .int .u8 0, .int .u8 0, .int .u8 0, .int .u8 0, .int .u8 2, .int .u8 1, .int .u8 0, .int .u8 0, .int .u8 0, .int .u8 0, .int .i64 tid, .int .i64 seq, .bool r, .bool m, .bool e, .slice A n C] := rfl

set_option maxRecDepth 100000 in
set_option maxHeartbeats 8000000 in
theorem gramSingle_walk (w : World) {E : Nat → Addr} (hE : Errs allErr w E) (a0 : Int) (w0 : (Lit.int .i64 a0).wf = true) (a1 : Int) (w1 : (Lit.int .i64 a1).wf = true) (a2 : Int) (w2 : (Lit.int .i64 a2).wf = true)
    (A : Option Addr) (n C : Nat) (body : List UInt8) (hx : Row w 1 A n C (body.map u8v)) (session retry : Bool) :
    Calls Tryd.prog 3 #[.int .i64 a0, .int .i64 a1, .int .i64 a2, .slice A n C, .bool session, .bool retry] w fun e w' => e = .returned (.bool true) ∧ Below w.heap.size w w' := by
  have hmx := hx.len_cap
  obtain ⟨hb0, hb0'⟩ := bounds_i64 w0
  obtain ⟨hb1, hb1'⟩ := bounds_i64 w1
  obtain ⟨hb2, hb2'⟩ := bounds_i64 w2
  clear w0 w1 w2
  have HX := Lib.hid hx
  have HE := Lib.hid hE
  have HBL := Lib.hid (show body.length = n by simpa using hx.1)
  clear hE hx
  have N0 := Lib.hid (fun w => number_any a0 4096 w (by decide) (by decide) hb0 hb0')
  have N1 := Lib.hid (fun w => number_any a1 70 w (by decide) (by decide) hb1 hb1')
  have N2 := Lib.hid (fun w => number_any a2 8 w (by decide) (by decide) hb2 hb2')
  have s0 := Int.emod_nonneg a0 (show (4096 : Int) ≠ 0 by omega)
  have s1 := Int.emod_lt_of_pos a0 (show (0 : Int) < 4096 by omega)
  have o0 := Int.emod_nonneg a1 (show (70 : Int) ≠ 0 by omega)
  have o1 := Int.emod_lt_of_pos a1 (show (0 : Int) < 70 by omega)
  have t0 := Int.emod_nonneg a2 (show (8 : Int) ≠ 0 by omega)
  have t1 := Int.emod_lt_of_pos a2 (show (0 : Int) < 8 by omega)
  generalize a0 % 4096 = start at *
  generalize a1 % 70 = off at *
  generalize a2 % 8 = tid at *
  clear hb0 hb0' hb1 hb1' hb2 hb2'
  go_enter Tryd.func3, Tryd.ntmps3
  go_wp2_with fail
  refine (first_any HE.out).mono ?_
  rintro e w1 ⟨rfl, hw1⟩
  have HB1 := Lib.hid hw1
  clear hw1
  by_cases h100 : 100 < n
  case pos =>
    go_wp2_with fail
    go_ret
    exact ⟨rfl, HB1.out⟩
  case neg =>
  go_wp2_with fail
  refine (N0.out w1).mono ?_
  rintro e wq ⟨rfl, rfl⟩
  go_wp2_with fail
  refine (N1.out w1).mono ?_
  rintro e wq ⟨rfl, rfl⟩
  go_wp2_with fail
  refine (N2.out w1).mono ?_
  rintro e wq ⟨rfl, rfl⟩
  have HR := Lib.hid (rules_any start 64 w1)
  go_wp2_with fail
  refine HR.out.mono ?_
  rintro e w2 ⟨rfl, hb2⟩
  have z1 := HB1.out.size
  have HB2 := Lib.hid (HB1.out.trans (hb2.mono z1))
  have z2 := HB2.out.size
  clear hb2
  unfold ruv
  go_wp2_with (first
    | (refine wpList_store_blk _ (by rfl) 30 _ _ rfl w2.heap.size (rucells (rulesP start 64)) rfl rfl 30 _ (Blk.new _ _ _) (by kernel_rfl) rfl (by simp [rucells, Value.oneCell']) ?_; intro w3 hk3 hg3; have c21 : w3.cell? ⟨w2.heap.size, 21, none⟩ = some (.bool true) := hk3.cell 21; have f21 := hk3.frozen 21; have HMV := Lib.hid (show Blk (w3.setCell ⟨w2.heap.size, 21, none⟩ (.bool session)) w2.heap.size (rucells (rulesS start 64 65535 54840 d22 ht7 session)) 30 from hk3.set_ 21 (.bool session)))
    | (refine wpList_load_mid (by rfl) 26 (.tmp 41) rfl w2.heap.size 6 rfl [.int .u8 2, .int .u8 2, .int .u8 0, .int .u8 0, .int .u8 0, .int .u8 0] _ (HMV.out.range 6 [.int .u8 2, .int .u8 2, .int .u8 0, .int .u8 0, .int .u8 0, .int .u8 0] (by rfl)) Tryd.underlying26 rfl (by kernel_rfl) ?_)
    | (refine wpList_load_mid (by rfl) 26 (.tmp 43) rfl w2.heap.size 0 rfl [.int .u8 2, .int .u8 1, .int .u8 0, .int .u8 0, .int .u8 0, .int .u8 0] _ (HMV.out.range 0 [.int .u8 2, .int .u8 1, .int .u8 0, .int .u8 0, .int .u8 0, .int .u8 0] (by rfl)) Tryd.underlying26 rfl (by kernel_rfl) ?_)
    | (refine wpList_load_mid (by rfl) 26 (.tmp 45) rfl w2.heap.size 0 rfl [.int .u8 2, .int .u8 1, .int .u8 0, .int .u8 0, .int .u8 0, .int .u8 0] _ (HMV.out.range 0 [.int .u8 2, .int .u8 1, .int .u8 0, .int .u8 0, .int .u8 0, .int .u8 0] (by rfl)) Tryd.underlying26 rfl (by kernel_rfl) ?_))
  have hw3 : Below w2.heap.size w2 w3 := Below.grown ((Below.refl _ _).alloc (Nat.le_refl _) _) hg3 (by simp) (by simp)
  have hlm := HMV.out.lt
  have HBV := Lib.hid ((HB2.out.trans (hw3.mono z2)).trans ((touch_set (fun k => k = w2.heap.size) w3 w2.heap.size 21 (.bool session) rfl).below (B := w.heap.size) (fun k hk => by omega) (Nat.le_trans z2 hw3.size)))
  clear hw3 hk3 hg3 c21 f21
  generalize w3.setCell _ _ = V at *
  have zV := HBV.out.size
  have eq : qres (fA d22 d21 d21) tid ((start + off) % 4096) retry false false n body = frameB d22 d21 d21 tid ((start + off) % 4096) retry false false body := by
    unfold qres
    rw [show qokB tid ((start + off) % 4096) n = true from decide_eq_true ⟨t0, t1, by omega, by omega, by omega⟩]
    rfl
  have HQ := Lib.hid (rqosBytes_any (fA d22 d21 d21) tid ((start + off) % 4096) retry false false A n C body V (HX.out.below HBV.out (Nat.le_refl _)))
  rw [eq, qv_lit] at HQ
  clear eq
  refine HQ.out.mono ?_
  rintro e w4 ⟨A2, n2, C2, rfl, ho4, hb4⟩
  have HB4 := Lib.hid (HBV.out.trans (hb4.mono zV))
  have HM4 := Lib.hid (HMV.out.below hb4 hlm)
  have hR4 := ho4.row
  have hn2 : n2 = 26 + n := by have := hR4.1; rw [List.length_map, frame_len, HBL.out] at this; omega
  subst hn2
  have HR4 := Lib.hid hR4
  have HW4 := Lib.hid ho4
  have HE4 := Lib.hid (HE.out.below HB4.out (Nat.le_refl _))
  have HC4 := Lib.hid (check_any HE4.out (rulesS start 64 65535 54840 d22 ht7 session) false A2 (26 + n) C2 _ HR4.out (by omega))
  have z4 := HB4.out.size
  have l4 := HM4.out.lt
  clear ho4 hb4 hR4
  generalize w2.heap.size = pm at *
  have hgm : w.heap.size ≤ pm := z2
  by_cases hoff : 64 ≤ off
  case pos =>
    rw [single_out s0 s1 hoff o1 t0 t1 (by rw [HBL.out]; omega)] at HC4
    go_wp2_with (refine wpList_load_blk _ (by rfl) 30 _ rfl pm rfl 30 _ _ HM4.out Tryd.underlying30 rfl (by kernel_rfl) ?_)
    refine HC4.out.mono ?_
    rintro e w5 ⟨p, rfl, hk5, hp5, hb5⟩
    have HB5 := Lib.hid (HB4.out.trans (hb5.mono z4))
    have HK5 := Lib.hid hk5
    have z5 := HB5.out.size
    clear hb5 hk5
    go_wp2_with (refine wpList_store_blk _ (by rfl) 40 _ _ rfl w5.heap.size zsent rfl rfl 40 _ (Blk.new _ _ _) (by kernel_rfl) rfl (by kernel_rfl) ?_; intro w6 hk6 hg6; have c6 : w6.cell? ⟨w5.heap.size, 1, none⟩ = some (.slice none 0 0) := hk6.cell 1)
    have hb56 : Below w5.heap.size w5 w6 := Below.grown ((Below.refl _ _).alloc (Nat.le_refl _) _) hg6 (by simp) (by simp)
    have HK6 := Lib.hid hk6
    have HP6 := Lib.hid (HK5.out.below hb56 HK5.out.lt)
    have HB6 := Lib.hid (HB5.out.trans (hb56.mono z5))
    have z6 := HB6.out.size
    clear hk6 hg6 hb56
    refine (placed_any 111 0 (by decide) w6).mono ?_
    rintro e w7 ⟨rfl, hb7⟩
    have HC7 := Lib.hid (sameAt_any (HE.out.below (HB6.out.trans (hb7.mono z6)) (Nat.le_refl _)) 10 (by decide) p 0 (HP6.out.below hb7 HP6.out.lt) 111 true 0)
    have HK7 := Lib.hid (HK6.out.below hb7 HK6.out.lt)
    have HB7 := Lib.hid (HB6.out.trans (hb7.mono z6))
    have z7 := HB7.out.size
    clear hb7
    go_wp2_with fail
    refine HC7.out.mono ?_
    rintro e w8 ⟨rfl, hb8⟩
    have HB8 := Lib.hid (HB7.out.trans (hb8.mono z7))
    have c8 : w8.cell? ⟨w5.heap.size, 1, none⟩ = some (.slice none 0 0) := (HK7.out.below hb8 HK7.out.lt).cell 1
    clear hb8
    rw [show ((101 + ((10 : Nat) : Int) == 111) && (true && ((0 : Int) == 0))) = true by decide]
    go_wp2_with fail
    go_ret
    exact ⟨rfl, HB8.out⟩
  case neg =>
  have ho64 : off < 64 := by omega
  rw [single_in s0 s1 o0 ho64 t0 t1 (by rw [HBL.out]; omega)] at HC4
  obtain ⟨K, hK⟩ : ∃ K, (start + off) % 4096 = K := ⟨_, rfl⟩
  have HKK := Lib.hid hK
  go_wp2_with (refine wpList_load_blk _ (by rfl) 30 _ rfl pm rfl 30 _ _ HM4.out Tryd.underlying30 rfl (by kernel_rfl) ?_)
  refine HC4.out.mono ?_
  rintro e w5 ⟨A5, C5, A6, C6, A7, C7, rfl, ho1, ho2, ho3, hb5⟩
  simp only [List.length_cons, List.length_nil, Nat.zero_add] at ho1 ho2 ho3 ⊢
  have HB5 := Lib.hid (HB4.out.trans (hb5.mono z4))
  have HM5 := Lib.hid (HM4.out.below hb5 l4)
  have HR5 := Lib.hid (HW4.out.below hb5 (Nat.le_refl _))
  have HO1 := Lib.hid ho1
  have HO2 := Lib.hid ho2
  have HO3 := Lib.hid ho3
  have z5 := HB5.out.size
  have z45 := hb5.size
  clear hb5 ho1 ho2 ho3
  go_wp2_with (first
    | (refine wpList_store_blk _ (by rfl) 40 _ _ rfl w5.heap.size _ rfl rfl 40 _ (Blk.new _ _ _) (by kernel_rfl) rfl sent_one ?_; intro w6 hk6 hg6; have hb56 : Below w5.heap.size w5 w6 := Below.grown ((Below.refl _ _).alloc (Nat.le_refl _) _) hg6 (by simp) (by simp); have HK6 := Lib.hid hk6; have HB6 := Lib.hid (HB5.out.trans (hb56.mono z5)); have HM6 := Lib.hid (HM5.out.below hb56 HM5.out.lt); have HR6 := Lib.hid (HR5.out.below hb56 (Nat.le_refl _)); have H16 := Lib.hid (HO1.out.below hb56 (Nat.le_refl _)); have H26 := Lib.hid (HO2.out.below hb56 (Nat.le_refl _)); have H36 := Lib.hid (HO3.out.below hb56 (Nat.le_refl _)); have zz56 := hb56.size; clear hk6 hg6)
    | (refine wpList_store_in _ (by rfl) 26 _ _ rfl pm 6 _ rfl rfl 30 _ (rucells (rulesS start 64 65535 54840 (adr2 2 9) ht7 session)) HM6.out (by kernel_rfl) (by show 6 + 6 ≤ 22; decide) (by simp [Value.oneCell']) (by rfl) ?_; intro w7 hk7 hg7; have HM7 := Lib.hid hk7; clear hk7)
    | (refine wpList_load_blk _ (by rfl) 30 _ rfl pm rfl 30 _ _ HM7.out Tryd.underlying30 rfl (by kernel_rfl) ?_))
  have z6 := HB6.out.size
  have l6 := HM6.out.lt
  have hb67 : Below w.heap.size w6 w7 := Below.grown (Below.refl _ _) hg7 z6 (by simp; omega)
  have HB7 := Lib.hid (HB6.out.trans hb67)
  have z7 := HB7.out.size
  have l7 := HM7.out.lt
  have zz67 := hg7.size
  have hpw5 : w5.heap.size ≠ pm := by omega
  have HK7 := Lib.hid (HK6.out.grown hg7 (by simpa using hpw5))
  have H17 := Lib.hid (own_keepB H16.out HM6.out (by decide) hg7)
  have H27 := Lib.hid (own_keepB H26.out HM6.out (by decide) hg7)
  have H37 := Lib.hid (ownP_keepB H36.out HM6.out (by decide) (by decide) hg7)
  have HR7 := Lib.hid (OwnU8.row (own_keepB HR6.out HM6.out (by decide) hg7))
  clear hb67 hg7
  have HC7 := Lib.hid (check_any (HE.out.below HB7.out (Nat.le_refl _)) (rulesS start 64 65535 54840 (adr2 2 9) ht7 session) false A2 (26 + n) C2 _ HR7.out (by omega))
  rw [single_to s0 s1 t0 t1 (by rw [HBL.out]; omega)] at HC7
  refine HC7.out.mono ?_
  rintro e w8 ⟨p1, rfl, hk8, hp8, hb8⟩
  have HB8 := Lib.hid (HB7.out.trans (hb8.mono z7))
  have z8 := HB8.out.size
  have HM8 := Lib.hid (HM7.out.below hb8 l7)
  have HK8 := Lib.hid (HK7.out.below hb8 HK7.out.lt)
  have H18 := Lib.hid (OwnI.row (OwnI.below H17.out hb8 (Nat.le_refl _)))
  obtain ⟨g6, rfl, _, l6b, _, c26, _, _⟩ := OwnB.open_ (OwnB.below (base := w4.heap.size) (n := 1) (C := C6) (xs := [retry]) H27.out hb8 (Nat.le_refl _)) (by decide)
  have c26 := c26 0 retry rfl
  obtain ⟨A7', C7', e7, hrp7⟩ := (H37.out.below hb8 (Nat.le_refl _)).row
  injection e7 with e71 e72 e73
  clear e72
  subst e71 e73
  obtain ⟨b7, o7, A8, C8, e7, l7b, c57, r7⟩ := hrp7.at2 (k := 0) (x := body) rfl
  subst e7
  have H38 := Lib.hid r7
  rw [HBL.out] at H38 c57
  have HP8 := Lib.hid hk8
  clear hb8 hk8 hrp7 r7
  go_wp2_with (first
    | (refine wpList_store_blk _ (by rfl) 40 _ _ rfl w8.heap.size zsent rfl rfl 40 _ (Blk.new _ _ _) (by kernel_rfl) rfl (by kernel_rfl) ?_; intro w9 hk9 hg9; have hb89 : Below w8.heap.size w8 w9 := Below.grown ((Below.refl _ _).alloc (Nat.le_refl _) _) hg9 (by simp) (by simp); have HB9 := Lib.hid (HB8.out.trans (hb89.mono z8)); have HM9 := Lib.hid (HM8.out.below hb89 HM8.out.lt); have HK9 := Lib.hid (HK8.out.below hb89 HK8.out.lt); have H19 := Lib.hid (H18.out.below hb89 (Nat.le_refl _)); have H39 := Lib.hid (H38.out.below hb89 (Nat.le_refl _)); have HP9 := Lib.hid (HP8.out.below hb89 HP8.out.lt); have c269 := (hb89.cell (p := ⟨g6, 0, none⟩) l6b).trans c26; have c579 := (hb89.cell (p := ⟨b7, o7 + 0, none⟩) l7b).trans c57; have zz89 := hb89.size; clear hk9 hg9 hb89 c26 c57)
    | (refine wpList_load_blk _ (by rfl) 30 _ rfl pm rfl 30 _ _ HM9.out Tryd.underlying30 rfl (by kernel_rfl) ?_))
  have z9 := HB9.out.size
  have HC9 := Lib.hid (check_any (HE.out.below HB9.out (Nat.le_refl _)) (rulesS start 64 65535 54840 (adr2 2 9) ht7 session) false none 0 0 [] (row_nil _ _) (by decide))
  rw [check_empty] at HC9
  refine HC9.out.mono ?_
  rintro e w10 ⟨p2, rfl, hk10, hp10, hb10⟩
  have HB10 := Lib.hid (HB9.out.trans (hb10.mono z9))
  have z10 := HB10.out.size
  have HK10 := Lib.hid (HK9.out.below hb10 HK9.out.lt)
  have H110 := Lib.hid (H19.out.below hb10 (Nat.le_refl _))
  have H310 := Lib.hid (H39.out.below hb10 (Nat.le_refl _))
  have HP10 := Lib.hid (HP9.out.below hb10 HP9.out.lt)
  have HQ10 := Lib.hid hk10
  have l6c : g6 < w9.heap.size := by omega
  have l7c : b7 < w9.heap.size := by omega
  have d26 := (hb10.cell (p := ⟨g6, 0, none⟩) l6c).trans c269
  have d57 := (hb10.cell (p := ⟨b7, o7 + 0, none⟩) l7c).trans c579
  have l6d : g6 < w10.heap.size := by have := hb10.size; omega
  have l7d : b7 < w10.heap.size := by have := hb10.size; omega
  clear hb10 hk10 c269 c579
  have gq := fun w => err_guard E none (.tmp 93) .nilIface w
  have ge := fun w => err_isnil E none w
  simp only [errO] at gq ge
  go_wp2_with (first
    | (refine wpList_store_blk _ (by rfl) 40 _ _ rfl w10.heap.size zsent rfl rfl 40 _ (Blk.new _ _ _) (by kernel_rfl) rfl (by kernel_rfl) ?_; intro w11 hk11 hg11; have hb11 : Below w10.heap.size w10 w11 := Below.grown ((Below.refl _ _).alloc (Nat.le_refl _) _) hg11 (by simp) (by simp); have HB11 := Lib.hid (HB10.out.trans (hb11.mono z10)); have hk11' := HK10.out.below hb11 HK10.out.lt; have q0 : w11.cell? ⟨w5.heap.size, 0, none⟩ = some (.int .i64 tid) := hk11'.cell 0; have q1 : w11.cell? ⟨w5.heap.size, 1, none⟩ = some (.slice A5 1 C5) := hk11'.cell 1; have q2 : w11.cell? ⟨w5.heap.size, 2, none⟩ = some (.slice (some ⟨g6, 0, none⟩) 1 C6) := hk11'.cell 2; have q3 : w11.cell? ⟨w5.heap.size, 3, none⟩ = some (.bool false) := hk11'.cell 3; have q4 : w11.cell? ⟨w5.heap.size, 4, none⟩ = some (.bool false) := hk11'.cell 4; have q5 : w11.cell? ⟨w5.heap.size, 5, none⟩ = some (.slice (some ⟨b7, o7, none⟩) 1 C7) := hk11'.cell 5; have ql := hk11'.lt; have H111 := Lib.hid (H110.out.below hb11 (Nat.le_refl _)); have H311 := Lib.hid (H310.out.below hb11 (Nat.le_refl _)); have HP11 := Lib.hid (HP10.out.below hb11 HP10.out.lt); have HQ11 := Lib.hid (HQ10.out.below hb11 HQ10.out.lt); have d26 := (hb11.cell (p := ⟨g6, 0, none⟩) l6d).trans d26; have d57 := (hb11.cell (p := ⟨b7, o7 + 0, none⟩) l7d).trans d57; rw [Nat.add_zero] at d57; have zz11 := hb11.size; clear hk11 hg11 hb11 hk11'))
  rw [HKK.out] at H111
  have z11 := HB11.out.size
  have hba := (Below.refl w11.heap.size w11).alloc (Nat.le_refl _) (.cells #[.int .i64 K] 3)
  have HCS := Lib.hid (sameInts_any A5 (some ⟨w11.heap.size, 0, none⟩) 1 C5 1 [K] _ (H111.out.alloc (.cells #[.int .i64 K] 3)) (row_int1 w11 K 3))
  refine HCS.out.mono ?_
  rintro e w12 ⟨rfl, hq12⟩
  have hb12 : Below w11.heap.size w11 w12 := by obtain ⟨k, rfl⟩ := hq12; exact hba.trans ((below_drewN _).mono hba.size)
  have HB12 := Lib.hid (HB11.out.trans (hb12.mono z11))
  have z12 := HB12.out.size
  have v2 := (hb12.cell (p := ⟨w5.heap.size, 2, none⟩) ql).trans q2
  have v3 := (hb12.cell (p := ⟨w5.heap.size, 3, none⟩) ql).trans q3
  have v4 := (hb12.cell (p := ⟨w5.heap.size, 4, none⟩) ql).trans q4
  have v5 := (hb12.cell (p := ⟨w5.heap.size, 5, none⟩) ql).trans q5
  have e26 := (hb12.cell (p := ⟨g6, 0, none⟩) (by show g6 < _; have := zz11; omega)).trans d26
  have e57 := (hb12.cell (p := ⟨b7, o7, none⟩) (by show b7 < _; have := zz11; omega)).trans d57
  have H312 := Lib.hid (H311.out.below hb12 (Nat.le_refl _))
  have HX12 := Lib.hid (HX.out.below HB12.out (Nat.le_refl _))
  have HP12 := Lib.hid (HP11.out.below hb12 HP11.out.lt)
  have HQ12 := Lib.hid (HQ11.out.below hb12 HQ11.out.lt)
  have ql12 : w5.heap.size < w12.heap.size := by have := hb12.size; omega
  clear hb12 hq12 hba q0 q1 q2 q3 q4 q5 d26 d57
  have HCB := Lib.hid (sameBytes_any A8 n C8 body A n C body w12 H312.out HX12.out)
  go_wp2_with fail
  refine HCB.out.mono ?_
  rintro e w13 ⟨rfl, hq13⟩
  rw [show sameB body body = true by unfold sameB; simp]
  have hb13 : Below w12.heap.size w12 w13 := by obtain ⟨k, rfl⟩ := hq13; exact below_drewN _
  have HB13 := Lib.hid (HB12.out.trans (hb13.mono z12))
  have z13 := HB13.out.size
  have y3 := (hb13.cell (p := ⟨w5.heap.size, 3, none⟩) ql12).trans v3
  have y4 := (hb13.cell (p := ⟨w5.heap.size, 4, none⟩) ql12).trans v4
  have HP13 := Lib.hid (HP12.out.below hb13 HP12.out.lt)
  have HQ13 := Lib.hid (HQ12.out.below hb13 HQ12.out.lt)
  clear hb13 hq13 v2 v3 v4 v5 e26 e57
  go_wp2_with fail
  refine (placed_any 105 0 (by decide) w13).mono ?_
  rintro e w14 ⟨rfl, hb14⟩
  have HB14 := Lib.hid (HB13.out.trans (hb14.mono z13))
  have z14 := HB14.out.size
  have HP14 := Lib.hid (HP13.out.below hb14 HP13.out.lt)
  have HQ14 := Lib.hid (HQ13.out.below hb14 HQ13.out.lt)
  have HC14 := Lib.hid (sameAt_any (HE.out.below HB14.out (Nat.le_refl _)) 4 (by decide) p1 0 HP14.out 105 true 0)
  clear hb14
  go_wp2_with fail
  refine HC14.out.mono ?_
  rintro e w15 ⟨rfl, hb15⟩
  rw [show ((101 + ((4 : Nat) : Int) == 105) && (true && ((0 : Int) == 0))) = true by decide]
  have HB15 := Lib.hid (HB14.out.trans (hb15.mono z14))
  have z15 := HB15.out.size
  have HQ15 := Lib.hid (HQ14.out.below hb15 HQ14.out.lt)
  clear hb15
  go_wp2_with fail
  refine (placed_any 101 0 (by decide) w15).mono ?_
  rintro e w16 ⟨rfl, hb16⟩
  have HB16 := Lib.hid (HB15.out.trans (hb16.mono z15))
  have z16 := HB16.out.size
  have HC16 := Lib.hid (sameAt_any (HE.out.below HB16.out (Nat.le_refl _)) 0 (by decide) p2 0 (HQ15.out.below hb16 HQ15.out.lt) 101 true 0)
  clear hb16
  go_wp2_with fail
  refine HC16.out.mono ?_
  rintro e w17 ⟨rfl, hb17⟩
  rw [show ((101 + ((0 : Nat) : Int) == 101) && (true && ((0 : Int) == 0))) = true by decide]
  have HB17 := Lib.hid (HB16.out.trans (hb17.mono z16))
  clear hb17
  go_wp2_with fail
  go_ret
  exact ⟨rfl, HB17.out⟩
end Go.Proofs.YtoagmehgiaamlaaDoor
