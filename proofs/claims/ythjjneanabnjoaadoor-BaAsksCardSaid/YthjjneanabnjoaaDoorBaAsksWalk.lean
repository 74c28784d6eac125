/-
  BaAsks: the walk.
-/
import Derived.Test.YthjjneanabnjoaaDoorBaHearsPlain
import Derived.Test.YthjjneanabnjoaaDoorSee
import Derived.Test.YthjjneanabnjoaaDoorNumber
namespace Go.Proofs.YthjjneanabnjoaaDoor
open Go.ChangeShapes Go.WideShapes Go.ChangeAt Go.RowKit
set_option linter.unusedVariables false

section
variable {l : List Fm} {n : Nat} {sent unt : Int}
theorem NL.stay (h : NL l n sent unt false) {retry : Int} (h1 : sent ≤ retry) (h2 : 0 ≤ unt) : ∀ x ∈ l, whyP retry 0 x = 0 := by
  intro x hx
  obtain ⟨i, _, e, hf⟩ := h.mem hx
  unfold whyP
  rw [hf, e, if_neg (by decide), if_neg (by show ¬ sent > retry; omega), if_neg (by show ¬ unt < 0; omega)]
theorem NL.drop (h : NL l n sent unt false) {retry : Int} (h1 : retry < sent) : ∀ x ∈ l, whyP retry 0 x = 3 := by
  intro x hx
  obtain ⟨i, _, e, hf⟩ := h.mem hx
  unfold whyP
  rw [hf, e, if_neg (by decide), if_pos (by show sent > retry; omega)]
theorem stay_gone {l : List Fm} {retry : Int} (h : ∀ x ∈ l, whyP retry 0 x = 0) : l.filter (goneP retry 0) = [] := List.filter_eq_nil_iff.2 (fun x hx => by unfold goneP; rw [h x hx]; decide)
theorem stay_left {l : List Fm} {retry : Int} (h : ∀ x ∈ l, whyP retry 0 x = 0) : l.filter (fun x => !goneP retry 0 x) = l := List.filter_eq_self.2 (fun x hx => by unfold goneP; rw [h x hx]; decide)
theorem drop_gone {l : List Fm} {retry : Int} (h : ∀ x ∈ l, whyP retry 0 x = 3) : l.filter (goneP retry 0) = l := List.filter_eq_self.2 (fun x hx => by unfold goneP; rw [h x hx]; decide)
theorem drop_left {l : List Fm} {retry : Int} (h : ∀ x ∈ l, whyP retry 0 x = 3) : l.filter (fun x => !goneP retry 0 x) = [] := List.filter_eq_nil_iff.2 (fun x hx => by unfold goneP; rw [h x hx]; decide)
theorem nS_stay (h : NL l n sent unt false) {retry : Int} (h1 : sent ≤ retry) (h2 : 0 ≤ unt) (size : Nat) (life token : Int) : sweepS (nS size retry life token n l) 0 = nS size retry life token n l := by
  have hs := h.stay h1 h2
  have hg : (nS size retry life token n l).l.any (goneP (nS size retry life token n l).retry 0) = false := by
    rw [List.any_eq_false]
    intro x hx
    unfold goneP
    rw [show whyP (nS size retry life token n l).retry 0 x = 0 from hs x hx]
    decide
  unfold sweepS
  rw [if_neg (fun h => by rw [hg] at h; exact absurd h.1 (by decide))]
  unfold takeS takeW
  rw [show (nS size retry life token n l).l.filter (fun x => !goneP (nS size retry life token n l).retry 0 x) = l from stay_left hs, h.seqs]
  have hh := nS_head size retry life token n l
  unfold nS at hh ⊢
  simp only at hh ⊢
  rw [← hh]
def askdS (retry : Int) (n : Nat) (asks : Bool) (vain : Int) : BS := ⟨⟨(n : Int), (n : Int), 8, []⟩, 8, retry, 1099511627776, 3, 9, [], asks, vain⟩
theorem nS_drop (h : NL l n sent unt false) {retry : Int} (h1 : retry < sent) (hn : 0 < n) : sweepS (nS 8 retry 1099511627776 9 n l) 0 = askdS retry n true 0 := by
  have hs := h.drop h1
  have hg : (nS 8 retry 1099511627776 9 n l).l.any (goneP (nS 8 retry 1099511627776 9 n l).retry 0) = true := by
    rw [List.any_eq_true]
    have hl := h.len
    obtain ⟨x, t, e⟩ : ∃ x t, l = x :: t := by cases l with | nil => simp at hl; omega | cons x t => exact ⟨x, t, rfl⟩
    refine ⟨x, by show x ∈ l; rw [e]; simp, ?_⟩
    unfold goneP
    rw [show whyP (nS 8 retry 1099511627776 9 n l).retry 0 x = 3 from hs x (by rw [e]; simp)]
    decide
  unfold sweepS
  rw [if_pos ⟨hg, rfl, rfl⟩]
  unfold takeS takeW
  rw [show (nS 8 retry 1099511627776 9 n l).l.filter (fun x => !goneP (nS 8 retry 1099511627776 9 n l).retry 0 x) = [] from drop_left hs]
  rfl
theorem why_stay (h : NL l n sent unt false) {retry : Int} (h1 : sent ≤ retry) (h2 : 0 ≤ unt) (size : Nat) (life token : Int) : whysP (nS size retry life token n l) 0 = [] := by
  unfold whysP
  refine List.filter_eq_nil_iff.2 (fun y hy => ?_)
  obtain ⟨x, hx, rfl⟩ := List.mem_map.1 hy
  rw [show whyP (nS size retry life token n l).retry 0 x = 0 from h.stay h1 h2 x hx]
  decide
theorem why_drop (h : NL l n sent unt false) {retry : Int} (h1 : retry < sent) (size : Nat) (life token : Int) : whysP (nS size retry life token n l) 0 = List.replicate n 3 := by
  unfold whysP
  rw [List.filter_eq_self.2 (fun y hy => by
    obtain ⟨x, hx, rfl⟩ := List.mem_map.1 hy
    rw [show whyP (nS size retry life token n l).retry 0 x = 3 from h.drop h1 x hx]
    decide)]
  refine List.eq_replicate_iff.2 ⟨by rw [List.length_map]; exact h.len, fun y hy => ?_⟩
  obtain ⟨x, hx, rfl⟩ := List.mem_map.1 hy
  exact h.drop h1 x hx
theorem bar_on (retry : Int) (n : Nat) {t : Int} (h : t < retry) : barS (askdS retry n true t) false = askdS retry n true (t + 1) := by
  unfold barS
  rw [if_pos (show (askdS retry n true t).asks = true from rfl), if_neg (by show ¬ ((false || decide (t + 1 > retry)) = true); simp; omega)]
  rfl
theorem bar_vain (retry : Int) (n : Nat) : barS (askdS retry n true retry) false = askdS retry n false 0 := by
  unfold barS
  rw [if_pos (show (askdS retry n true retry).asks = true from rfl), if_pos (by show (false || decide (retry + 1 > retry)) = true; simp; omega)]
  rfl
theorem bar_done (retry : Int) (n : Nat) (t : Int) : barS (askdS retry n true t) true = askdS retry n false 0 := by
  unfold barS
  rw [if_pos (show (askdS retry n true t).asks = true from rfl), if_pos (by show (true || _) = true; rfl)]
  rfl
end
/-- after as many rounds -/
def barK (retry : Int) (n : Nat) (t : Nat) : BS := if (t : Int) ≤ retry then askdS retry n true t else askdS retry n false 0

set_option maxRecDepth 100000 in
set_option maxHeartbeats 12800000 in
theorem baAsks_walk (w : World) {E : Nat → Addr} (hE : Errs allErr w E) (a0 : Int) (w0 : (Lit.int .i64 a0).wf = true) (a1 : Int) (w1 : (Lit.int .i64 a1).wf = true) (a2 : Int) (w2 : (Lit.int .i64 a2).wf = true) :
    Calls Tryd.prog 7 #[.int .i64 a0, .int .i64 a1, .int .i64 a2] w fun e w' => e = .returned (.bool true) ∧ Below w.heap.size w w' := by
  obtain ⟨x0, x1⟩ := bounds_i64 w0
  obtain ⟨y0, y1⟩ := bounds_i64 w1
  obtain ⟨u0, u1⟩ := bounds_i64 w2
  have NR := Lib.hid (fun w => number_any a0 6 w (by decide) (by decide) x0 x1)
  have NN := Lib.hid (fun w => number_any a1 8 w (by decide) (by decide) y0 y1)
  have NA := Lib.hid (fun w => number_any a2 10 w (by decide) (by decide) u0 u1)
  obtain ⟨R, hR, eR⟩ := number_nat a0 6 (by decide)
  rw [show a0 % 6 = (R : Int) from eR] at NR
  obtain ⟨n0, hn0, en⟩ := number_nat a1 8 (by decide)
  rw [show a1 % 8 = (n0 : Int) from en] at NN
  obtain ⟨an, han, ea⟩ := number_nat a2 10 (by decide)
  rw [show a2 % 10 = (an : Int) from ea] at NA
  clear w0 w1 w2 x0 x1 y0 y1 u0 u1 en eR ea
  have HE := Lib.hid hE
  clear hE
  go_enter Tryd.func7, Tryd.ntmps7
  go_wp2_with fail
  refine (bfirst_any w).mono ?_
  rintro e w1 ⟨rfl, hb1⟩
  have HB1 := Lib.hid hb1
  have z1 := hb1.size
  clear hb1
  go_wp2_with fail
  refine (NR.out w1).mono ?_
  rintro e wq ⟨rfl, rfl⟩
  go_wp2_with fail
  refine (NN.out w1).mono ?_
  rintro e wq ⟨rfl, rfl⟩
  obtain ⟨n, hn⟩ : ∃ n, n0 + 1 = n := ⟨_, rfl⟩
  have q1 : IntKind.i64.wrap ((n0 : Int) + 1) = (n : Int) := by rw [← hn, IntWalk.i64_in _ (by omega)]; omega
  have hn1 : 1 ≤ n := by omega
  have hn8 : n ≤ 8 := by omega
  clear hn hn0
  go_wp2_with fail
  refine (NA.out w1).mono ?_
  rintro e wq ⟨rfl, rfl⟩
  clear NR NN NA
  go_wp2_with fail
  refine (bnew_ok 8 (R : Int) 1099511627776 w1 (by decide) (by decide) (by omega) (by omega) (by decide) (by decide)).mono ?_
  rintro e w2 hnew
  obtain ⟨B, p, rfl, hS2, hb2⟩ := ss_new hnew
  have HS2 := Lib.hid hS2
  have HB2 := Lib.hid (HB1.out.trans (hb2.mono z1))
  clear hS2 hb2 hnew
  go_wp2_with fail
  refine (ask_ok HS2.out.bs 9 (by decide) (by decide) rfl rfl).mono ?_
  rintro e w3 ⟨rfl, hs3⟩
  obtain ⟨p3, hS3, hb3, -, -⟩ := HS2.out.step hs3
  have HS3 := Lib.hid hS3
  have HB3 := Lib.hid (HB2.out.trans (hb3.mono z1))
  have HE3 := Lib.hid (HE.out.below HB3.out (Nat.le_refl _))
  clear hS3 hb3 hs3 HS2 HB2
  have HANS := Lib.hid (answer_on HS3.out.bs (HE3.out.sub (by decide)) 0 rfl (by decide) (by decide) (by show (1 : Int) ≤ 8; decide) (by show (8 : Int) ≤ 64; decide) rfl)
  go_wp2_with fail
  refine HANS.out.mono ?_
  rintro e w4 ⟨rfl, hs4⟩
  obtain ⟨p4, hS4, hb4, -, -⟩ := HS3.out.step hs4
  have HS6 : Hid (Ss w4 w1.heap.size B p4 (nS 8 (R : Int) 1099511627776 9 0 [])) := Lib.hid (by rw [← nS_start]; exact hS4)
  have HB6 := Lib.hid (HB3.out.trans (hb4.mono z1))
  clear hS4 hb4 hs4 HS3 HB3 HE3 HANS
  go_wp2_with fail
  go_loopw [12] (fun iv wr => ∃ (k : Nat) (p : BP) (l : List Fm), k ≤ n ∧ iv = .int .i64 k ∧ Ss wr w1.heap.size B p (nS 8 (R : Int) 1099511627776 9 k l) ∧ NL l k 0 1099511627776 false ∧ Below w.heap.size w wr) (fun iv _ => n - (intOf iv).toNat)
  case atStart => exact ⟨0, _, [], Nat.zero_le _, rfl, HS6.out, rfl, HB6.out⟩
  case round =>
    obtain ⟨k, p5, l, hk, rfl, hS, hN, hb⟩ := hrel
    have HS := Lib.hid hS
    have HN := Lib.hid hN
    have HB := Lib.hid hb
    have zr := hb.size
    clear hS hN hb HS6 HB6
    by_cases hkn : k < n
    case pos =>
      have hk64 : k < 8 := by omega
      have HF := Lib.hid (fresh_ok HS.out.bs HS.out.bas (pk (k : Int)) none 0 0 (pk_row _ _) (by show (0 : Nat) ≤ 1048576; decide) (by show (3 : Int) ≠ 2; decide) rfl (by show (0 : Int) ≤ 8; decide) (by show (8 : Int) ≤ 1000000; decide) (by rw [nS_room (by omega)]; omega) (by show ((List.range k).map Int.ofNat).length ≤ 1000000; simp; omega) (by show l.length ≤ 1000000; rw [HN.out.len]; omega) (by decide) ⟨by show (0 : Int) ≤ 1099511627776; decide, by show (1099511627776 : Int) ≤ 1125899906842624; decide⟩ (fun k hk => by cases hk))
      go_wp2_with fail
      refine HF.out.mono ?_
      rintro e w5 ⟨A2, C2, A3, C3, rfl, ho3, hs5⟩
      obtain ⟨p6, hS5, hb5, -, -⟩ := HS.out.step hs5
      rw [nS_fresh (by omega)] at hS5
      have HS5 := Lib.hid hS5
      have HB5 := Lib.hid (HB.out.trans (hb5.mono z1))
      have HNN := Lib.hid (show NL _ _ 0 1099511627776 false from HN.out.snoc A2 C2)
      have z5 := HB5.out.size
      have e7 : mpA (freshM (nS 8 (R : Int) 1099511627776 9 k l) (pk (k : Int)) 0) A3 C3 = #[.int .i64 (k : Int), .int .u32 0, .int .i64 0, .int .i64 0, .slice A3 0 C3, .int .i64 (k : Int), .int .i64 0, .int .i64 (0 + 1099511627776)] := rfl
      rw [e7]
      clear e7 hS5 hb5 hs5 ho3 HF
      have HSX := Lib.hid (HS5.out.alloc (.cells #[.int .i64 (k : Int), .int .u32 0, .int .i64 0, .int .i64 0, .slice A3 0 C3, .int .i64 (k : Int), .int .i64 0, .int .i64 (0 + 1099511627776)] 34))
      have HBX := Lib.hid (HB5.out.alloc z5 (.cells #[.int .i64 (k : Int), .int .u32 0, .int .i64 0, .int .i64 0, .slice A3 0 C3, .int .i64 (k : Int), .int .i64 0, .int .i64 (0 + 1099511627776)] 34))
      go_wp2_with fail
      go_roundw
      case rel => exact ⟨k + 1, p6, _, by omega, by go_num, HSX.out, HNN.out, HBX.out⟩
      case measure => simp [intOf]; omega
    case neg =>
      have hke : k = n := by omega
      subst hke
      clear q1 hkn hk
      have hR0 := HB.out.size
      go_wp2_with fail
      go_loopw [15] (fun iv wr' => ∃ (t : Nat) (p : BP) (l : List Fm), t ≤ R + 1 ∧ iv = .int .i64 t ∧ Ss wr' w1.heap.size B p (nS 8 (R : Int) 1099511627776 9 k l) ∧ NL l k (t : Int) 1099511627776 false ∧ Below w.heap.size w wr') (fun iv _ => R + 1 - (intOf iv).toNat)
      case atStart => exact ⟨0, _, _, Nat.zero_le _, rfl, HS.out, HN.out, HB.out⟩
      case round =>
        obtain ⟨t, p6, l2, ht, rfl, hS6, hN6, hb6⟩ := hrel
        have HT := Lib.hid hS6
        have HM := Lib.hid hN6
        have HC := Lib.hid hb6
        have zc := hb6.size
        clear hS6 hN6 hb6 HS HN HB
        have HSW := Lib.hid (sweep_any HT.out.bs HT.out.hB HT.out.hW 0 (by show l2.length ≤ 1000000; rw [HM.out.len]; omega) (fun x hx => by obtain ⟨i, _, e, _⟩ := HM.out.mem hx; rw [e]; show (0 : Nat) ≤ 1048576; decide) (by show (List.range k).map Int.ofNat = l2.map (·.m.seq); exact HM.out.seqs.symm) (range_nodup k) (nS_head _ _ _ _ _ _))
        by_cases htR : t ≤ R
        case pos =>
          have gt : decide ((t : Int) ≤ (R : Int)) = true := decide_eq_true (by omega)
          go_wp2_with fail
          refine HSW.out.mono ?_
          rintro e w5 ⟨A5, n5, C5, L5, A6, n6, C6, rfl, ho5, hm5, hi5, hs5⟩
          rw [show (nS 8 (R : Int) 1099511627776 9 k l2).l.filter (goneP (nS 8 (R : Int) 1099511627776 9 k l2).retry 0) = [] from stay_gone (HM.out.stay (show (t : Int) ≤ (R : Int) by omega) (by decide))] at hm5
          rw [nS_stay HM.out (by omega) (by decide)] at hs5
          obtain rfl : n5 = 0 := by have h1 := ho5.len; have h2 := congrArg List.length hm5; simp at h2; rw [h2] at h1; simpa using h1.symm
          obtain ⟨p7, hS7, hb7, -, -⟩ := HT.out.step hs5
          have HT7 := Lib.hid hS7
          have HC7 := Lib.hid (HC.out.trans (hb7.mono z1))
          clear hS7 hb7 hs5 hi5 ho5 hm5 HSW HT HC
          have HD := Lib.hid (due_any HT7.out.bs (by show l2.length ≤ 1000000; rw [HM.out.len]; omega) (fun x hx => by obtain ⟨i, _, e, _⟩ := HM.out.mem hx; rw [e]; show (0 : Nat) ≤ 1048576; decide))
          go_wp2_with fail
          refine HD.out.mono ?_
          rintro e w8 ⟨A8, n8, C8, M8, rfl, ho8, hm8, hb8⟩
          have hM : M8.map (·.m.seq) = (List.range k).map Int.ofNat := by
            have h1 : l2.filter (fun x => !x.fl) = l2 := List.filter_eq_self.2 (fun x hx => by obtain ⟨i, _, _, e⟩ := HM.out.mem hx; rw [e]; rfl)
            rw [show (nS 8 (R : Int) 1099511627776 9 k l2).l.filter (fun x => !x.fl) = l2 from h1] at hm8
            have h2 := congrArg (List.map (fun m : Mp => m.seq)) hm8
            rw [List.map_map, List.map_map] at h2
            exact h2.trans HM.out.seqs
          have hlen8 : n8 = k := by have h1 := ho8.len; have h2 := congrArg List.length hM; simp at h2; omega
          have HT8 := Lib.hid (HT7.out.below hb8 (Nat.le_refl _))
          have HC8 := Lib.hid (HC7.out.trans (hb8.mono HC7.out.size))
          have HQ := Lib.hid (seqs_any A8 n8 C8 _ M8 w8 ho8 (by omega))
          rw [hM] at HQ
          clear hm8 hb8 ho8 HD HT7 HC7 hM hlen8
          go_wp2_with fail
          refine HQ.out.mono ?_
          rintro e w9 ⟨A9, n9, C9, rfl, ho9, hb9⟩
          have HT9 := Lib.hid (HT8.out.below hb9 (Nat.le_refl _))
          have HC9 := Lib.hid (HC8.out.trans (hb9.mono HC8.out.size))
          have HE9 := Lib.hid (HE.out.below HC9.out (Nat.le_refl _))
          have HW := Lib.hid (went_pass HT9.out.bs (HE9.out.cell 9 (by decide)) A9 n9 C9 _ ho9.row (fun j hj hx => by have h1 := (ho9.ge j hj).1; have h2 := (HT8.out.ge j hx).2; omega) HM.out.goes (fun x hx => by obtain ⟨i, _, e, _⟩ := HM.out.mem hx; rw [e]; exact ⟨by show (0 : Int) ≤ (t : Int); omega, by show (t : Int) ≤ 1000000; omega⟩))
          clear ho9 hb9 HQ HT8 HC8
          go_wp2_with fail
          refine HW.out.mono ?_
          rintro e w10 (⟨h, -⟩ | ⟨-, rfl, hs10⟩)
          case inl => rw [show (nS 8 (R : Int) 1099511627776 9 k l2).l = l2 from rfl, HM.out.any (by omega)] at h; cases h
          obtain ⟨p10, hS10, hb10, -, -⟩ := HT9.out.step hs10
          have HT10 : Hid (Ss w10 w1.heap.size B p10 (nS 8 (R : Int) 1099511627776 9 k (l2.map (went1 ((List.range k).map Int.ofNat))))) := Lib.hid hS10
          have HM10 := Lib.hid HM.out.went
          have HC10 := Lib.hid (HC9.out.trans (hb10.mono z1))
          clear hS10 hb10 hs10 HW HT9 HC9 HE9 HM
          generalize l2.map (went1 ((List.range k).map Int.ofNat)) = l3 at *
          have HL := Lib.hid (lost_ok HT10.out.bs (HM10.out.any (by omega)))
          go_wp2_with fail
          refine HL.out.mono ?_
          rintro e w11 ⟨rfl, hs11⟩
          obtain ⟨p11, hS11, hb11, -, -⟩ := HT10.out.step hs11
          have HT11 : Hid (Ss w11 w1.heap.size B p11 (nS 8 (R : Int) 1099511627776 9 k (l3.map land1))) := Lib.hid hS11
          have HM11 := Lib.hid HM10.out.land
          have HC11 := Lib.hid (HC10.out.trans (hb11.mono z1))
          clear hS11 hb11 hs11 HL HT10 HM10 HC10
          go_wp2_with fail
          go_roundw
          case rel => exact ⟨t + 1, p11, _, by omega, by go_num, HT11.out, by have h := HM11.out; rw [show ((t + 1 : Nat) : Int) = (t : Int) + 1 by omega]; exact h, HC11.out⟩
          case measure => simp [intOf]; omega
        case neg =>
          have gt : decide ((t : Int) ≤ (R : Int)) = false := decide_eq_false (by omega)
          obtain rfl : t = R + 1 := by omega
          go_wp2_with fail
          refine HSW.out.mono ?_
          rintro e w5 ⟨A5, n5, C5, L5, A6, n6, C6, rfl, ho5, hm5, hi5, hs5⟩
          rw [show (nS 8 (R : Int) 1099511627776 9 k l2).l.filter (goneP (nS 8 (R : Int) 1099511627776 9 k l2).retry 0) = l2 from drop_gone (HM.out.drop (show (R : Int) < ((R + 1 : Nat) : Int) by omega))] at hm5
          rw [nS_drop HM.out (by omega) (by omega)] at hs5
          rw [why_drop HM.out (by omega)] at hi5
          obtain rfl : k = n5 := by have h1 := ho5.len; have h2 := congrArg List.length hm5; simp at h2; rw [HM.out.len] at h2; omega
          obtain rfl : k = n6 := by have h1 := hi5.len; simpa using h1
          obtain ⟨p7, hS7, hb7, -, -⟩ := HT.out.step hs5
          have HT7 := Lib.hid hS7
          have HC7 := Lib.hid (HC.out.trans (hb7.mono z1))
          have HI7 := Lib.hid hi5
          clear hS7 hb7 hs5 hi5 ho5 hm5 HSW HT HC HM gt
          go_wp2_with fail
          refine (bar_yes HT7.out.bs rfl).mono ?_
          rintro e wq ⟨rfl, rfl⟩
          rw [show (askdS (R : Int) k true 0).w.st = (k : Int) from rfl]
          have HE7 := Lib.hid (HE.out.below HC7.out (Nat.le_refl _))
          have HX := Lib.hid (show Calls Tryd.prog 12 #[.pointer (some ⟨B, 0, none⟩), .agg #[.int .i64 0, .int .u32 0, .int .i64 0, .int .i64 0, .slice none 0 0], .int .i64 0] w5 (FreshNo E w5 8) from fresh_full (E := E) HT7.out.bs (HE7.out.cell 8 (by decide)) (pk 0) none 0 0 (by show (3 : Int) ≠ 2; decide) (by show (0 : Int) ≤ 8; decide) (by show (8 : Int) ≤ 1000000; decide) (.inl rfl))
          go_wp2_with fail
          refine HX.out.mono ?_
          rintro e w10 ⟨rfl, hb10⟩
          rw [zmp_eq]
          have HT10 := Lib.hid ((HT7.out.below hb10 (Nat.le_refl _)).alloc (.cells #[.int .i64 0, .int .u32 0, .int .i64 0, .int .i64 0, .slice none 0 0, .int .i64 0, .int .i64 0, .int .i64 0] 34))
          have HI10 := Lib.hid ((HI7.out.below hb10 (Nat.le_refl _)).alloc (.cells #[.int .i64 0, .int .u32 0, .int .i64 0, .int .i64 0, .slice none 0 0, .int .i64 0, .int .i64 0, .int .i64 0] 34))
          have hc10 := HC7.out.trans (hb10.mono HC7.out.size)
          have HC10 := Lib.hid (hc10.alloc hc10.size (.cells #[.int .i64 0, .int .u32 0, .int .i64 0, .int .i64 0, .slice none 0 0, .int .i64 0, .int .i64 0, .int .i64 0] 34))
          clear hb10 hc10 HX HE7 HT7 HC7 HI7
          obtain ⟨g6, rfl, _, _, _, hat6, _⟩ := HI10.out.open_ (by omega)
          have f1 := hat6 0 3 (by rw [List.getElem?_replicate, if_pos (by omega)])
          have gk : ((k : Int) != (k : Int)) = false := by simp
          have HE10 := Lib.hid (HE.out.below HC10.out (Nat.le_refl _))
          have HI := Lib.hid (is_any HE10.out (some 8) (by intro i h; injection h with h; subst h; decide) 109)
          have hk0 : (0 : Int) < (k : Int) := by omega
          clear hat6 HI10
          go_wp2_with fail
          refine HI.out.mono ?_
          rintro e w12 ⟨rfl, hb12⟩
          rw [show (errCode (some 8) == 109) = true by decide]
          have HT12 := Lib.hid (HT10.out.below hb12 (Nat.le_refl _))
          have HC12 := Lib.hid (HC10.out.trans (hb12.mono HC10.out.size))
          clear hb12 HI HE10 HT10 HC10 f1
          have HO := Lib.hid (out_any HT12.out.bs (by show 0 ≤ 1000000; decide) (fun x hx => by cases hx))
          go_wp2_with fail
          refine HO.out.mono ?_
          rintro e w13 ⟨A13, n13, C13, L13, rfl, ho13, hm13, hb13⟩
          obtain rfl : n13 = 0 := by have h1 := ho13.len; have h2 := congrArg List.length hm13; rw [List.length_map] at h2; have h3 : L13.length = 0 := h2; omega
          have HT13 : Hid (Ss w13 w1.heap.size B p7 (barK (R : Int) k 0)) := Lib.hid (by unfold barK; rw [if_pos (by omega)]; exact HT12.out.below hb13 (Nat.le_refl _))
          have HC13 := Lib.hid (HC12.out.trans (hb13.mono HC12.out.size))
          clear hb13 hm13 ho13 HO HT12 HC12
          go_wp2_with fail
          go_loopw [24] (fun iv wr2 => ∃ (t : Nat) (p : BP), t ≤ R + 1 ∧ iv = .int .i64 t ∧ Ss wr2 w1.heap.size B p (barK (R : Int) k t) ∧ Below w.heap.size w wr2) (fun iv _ => R + 1 - (intOf iv).toNat)
          case atStart => exact ⟨0, _, Nat.zero_le _, rfl, HT13.out, HC13.out⟩
          case round =>
            obtain ⟨t, p14, ht, rfl, hS14, hb14⟩ := hrel
            have HT14 := Lib.hid hS14
            have HC14 := Lib.hid hb14
            clear hS14 hb14 HT13 HC13
            by_cases htR : t ≤ R
            case neg =>
              have gt : decide ((t : Int) ≤ (R : Int)) = false := decide_eq_false (by omega)
              have HT15 : Hid (Ss wr w1.heap.size B p14 (askdS (R : Int) k false 0)) := Lib.hid (by have h := HT14.out; unfold barK at h; rw [if_neg (by omega)] at h; exact h)
              clear HT14
              go_wp2_with fail
              refine (bar_no HT15.out.bs rfl).mono ?_
              rintro e wq ⟨rfl, rfl⟩
              have HF := Lib.hid (show Calls Tryd.prog 12 #[.pointer (some ⟨B, 0, none⟩), .agg #[.int .i64 0, .int .u32 0, .int .i64 0, .int .i64 0, .slice none 0 0], .int .i64 0] wr _ from fresh_ok HT15.out.bs HT15.out.bas (pk 0) none 0 0 (pk_row _ _) (by decide) (by show (3 : Int) ≠ 2; decide) rfl (by show (0 : Int) ≤ 8; decide) (by show (8 : Int) ≤ 1000000; decide) (by show ¬ max (8 - ((k : Int) - (k : Int)) % 4096) 0 = 0; omega) (by show 0 ≤ 1000000; decide) (by show 0 ≤ 1000000; decide) (by decide) ⟨by show (0 : Int) ≤ 1099511627776; decide, by show (1099511627776 : Int) ≤ 1125899906842624; decide⟩ (fun k hk => by cases hk))
              go_wp2_with fail
              refine HF.out.mono ?_
              rintro e w20 ⟨A2, C2, A3, C3, rfl, ho20, hs20⟩
              obtain ⟨p20, hS20, hb20, -, -⟩ := HT15.out.step hs20
              have HC20 := Lib.hid (HC14.out.trans (hb20.mono z1))
              have e7 : mpA (freshM (askdS (R : Int) k false 0) (pk 0) 0) A3 C3 = #[.int .i64 0, .int .u32 0, .int .i64 0, .int .i64 0, .slice A3 0 C3, .int .i64 (k : Int), .int .i64 0, .int .i64 1099511627776] := rfl
              rw [e7]
              clear e7 hS20 hb20 hs20 ho20 HF
              have HCX := Lib.hid (HC20.out.alloc HC20.out.size (.cells #[.int .i64 0, .int .u32 0, .int .i64 0, .int .i64 0, .slice A3 0 C3, .int .i64 (k : Int), .int .i64 0, .int .i64 1099511627776] 34))
              go_wp2_with fail
              go_ret
              exact ⟨rfl, HCX.out⟩
            case pos =>
              have gt : decide ((t : Int) ≤ (R : Int)) = true := decide_eq_true (by omega)
              have HT15 : Hid (Ss wr w1.heap.size B p14 (askdS (R : Int) k true t)) := Lib.hid (by have h := HT14.out; unfold barK at h; rw [if_pos (by omega)] at h; exact h)
              clear HT14
              go_wp2_with fail
              refine (bar_yes HT15.out.bs rfl).mono ?_
              rintro e wq ⟨rfl, rfl⟩
              by_cases hta : t = an
              case pos =>
                subst hta
                have ga : ((t : Int) == (t : Int)) = true := by simp
                have HBA := Lib.hid (barred_any HT15.out.bs true (by show (0 : Int) ≤ (t : Int); omega) (by show (t : Int) ≤ 1000000; omega))
                rw [bar_done] at HBA
                go_wp2_with fail
                refine HBA.out.mono ?_
                rintro e w16 ⟨rfl, hs16⟩
                obtain ⟨p16, hS16, hb16, -, -⟩ := HT15.out.step hs16
                have HT16 := Lib.hid hS16
                have HC16 := Lib.hid (HC14.out.trans (hb16.mono z1))
                clear hS16 hb16 hs16 HBA HT15 HC14
                go_wp2_with fail
                refine (bar_no HT16.out.bs rfl).mono ?_
                rintro e wq ⟨rfl, rfl⟩
                have HF := Lib.hid (show Calls Tryd.prog 12 #[.pointer (some ⟨B, 0, none⟩), .agg #[.int .i64 0, .int .u32 0, .int .i64 0, .int .i64 0, .slice none 0 0], .int .i64 0] w16 _ from fresh_ok HT16.out.bs HT16.out.bas (pk 0) none 0 0 (pk_row _ _) (by decide) (by show (3 : Int) ≠ 2; decide) rfl (by show (0 : Int) ≤ 8; decide) (by show (8 : Int) ≤ 1000000; decide) (by show ¬ max (8 - ((k : Int) - (k : Int)) % 4096) 0 = 0; omega) (by show 0 ≤ 1000000; decide) (by show 0 ≤ 1000000; decide) (by decide) ⟨by show (0 : Int) ≤ 1099511627776; decide, by show (1099511627776 : Int) ≤ 1125899906842624; decide⟩ (fun k hk => by cases hk))
                go_wp2_with fail
                refine HF.out.mono ?_
                rintro e w20 ⟨A2, C2, A3, C3, rfl, ho20, hs20⟩
                obtain ⟨p20, hS20, hb20, -, -⟩ := HT16.out.step hs20
                have HC20 := Lib.hid (HC16.out.trans (hb20.mono z1))
                have e7 : mpA (freshM (askdS (R : Int) k false 0) (pk 0) 0) A3 C3 = #[.int .i64 0, .int .u32 0, .int .i64 0, .int .i64 0, .slice A3 0 C3, .int .i64 (k : Int), .int .i64 0, .int .i64 1099511627776] := rfl
                rw [e7]
                clear e7 hS20 hb20 hs20 ho20 HF
                have HCX := Lib.hid (HC20.out.alloc HC20.out.size (.cells #[.int .i64 0, .int .u32 0, .int .i64 0, .int .i64 0, .slice A3 0 C3, .int .i64 (k : Int), .int .i64 0, .int .i64 1099511627776] 34))
                go_wp2_with fail
                go_ret
                exact ⟨rfl, HCX.out⟩
              case neg =>
                have ga : ((t : Int) == (an : Int)) = false := by simp; omega
                have HBA := Lib.hid (barred_any HT15.out.bs false (by show (0 : Int) ≤ (t : Int); omega) (by show (t : Int) ≤ 1000000; omega))
                have hnx : barS (askdS (R : Int) k true (t : Int)) false = barK (R : Int) k (t + 1) := by
                  unfold barK
                  by_cases h : t = R
                  · subst h; rw [if_neg (by omega), bar_vain]
                  · rw [if_pos (by omega), bar_on _ _ (by omega)]; rfl
                rw [hnx] at HBA
                clear hnx
                go_wp2_with fail
                refine HBA.out.mono ?_
                rintro e w16 ⟨rfl, hs16⟩
                obtain ⟨p16, hS16, hb16, -, -⟩ := HT15.out.step hs16
                have HT16 := Lib.hid hS16
                have HC16 := Lib.hid (HC14.out.trans (hb16.mono z1))
                clear hS16 hb16 hs16 HBA HT15 HC14
                go_wp2_with fail
                go_roundw
                case rel => exact ⟨t + 1, p16, by omega, by go_num, HT16.out, HC16.out⟩
                case measure => simp [intOf]; omega
end Go.Proofs.YthjjneanabnjoaaDoor
