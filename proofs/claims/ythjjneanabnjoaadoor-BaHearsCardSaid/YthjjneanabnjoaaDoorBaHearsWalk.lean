/-
  BaHears: the walk.
-/
import Derived.Test.YthjjneanabnjoaaDoorBaHearsPlain
import Derived.Test.YthjjneanabnjoaaDoorSameInts
import Derived.Test.YthjjneanabnjoaaDoorNumber
namespace Go.Proofs.YthjjneanabnjoaaDoor
open Go.ChangeShapes Go.WideShapes Go.ChangeAt Go.RowKit
set_option linter.unusedVariables false

/-- bit i of the board that begins so far ahead -/
def hitB (back : Nat) (M : Int) (i : Nat) : Bool := decide (i + back < 64) && decide (M / 2 ^ (i + back) % 2 = 1)
def wantL (back : Nat) (M : Int) (n : Nat) : List Int := ((List.range n).filter (hitB back M)).map Int.ofNat
def leftL (back : Nat) (M : Int) (n : Nat) : List Int := ((List.range n).filter (fun i => !hitB back M i)).map Int.ofNat
theorem wantL_succ (back : Nat) (M : Int) (n : Nat) : wantL back M (n + 1) = wantL back M n ++ (if hitB back M n then [(n : Int)] else []) := by
  unfold wantL
  rw [List.range_succ, List.filter_append, List.map_append]
  cases h : hitB back M n <;> simp [h]
theorem leftL_succ (back : Nat) (M : Int) (n : Nat) : leftL back M (n + 1) = leftL back M n ++ (if hitB back M n then [] else [(n : Int)]) := by
  unfold leftL
  rw [List.range_succ, List.filter_append, List.map_append]
  cases h : hitB back M n <;> simp [h]
theorem wantL_len (back : Nat) (M : Int) (n : Nat) : (wantL back M n).length ≤ n := by
  unfold wantL
  rw [List.length_map]
  exact Nat.le_trans (List.length_filter_le _ _) (by simp)
theorem leftL_len (back : Nat) (M : Int) (n : Nat) : (leftL back M n).length ≤ n := by
  unfold leftL
  rw [List.length_map]
  exact Nat.le_trans (List.length_filter_le _ _) (by simp)
theorem leftL_mem {back : Nat} {M : Int} {n : Nat} {z : Int} (h : z ∈ leftL back M n) : 0 ≤ z ∧ z < n := by
  unfold leftL at h
  obtain ⟨i, hi, rfl⟩ := List.mem_map.1 h
  have := List.mem_range.1 (List.mem_filter.1 hi).1
  exact ⟨Int.natCast_nonneg i, by simp; exact this⟩
/-- the board's number -/
def bq (back : Nat) : Int := (4096 - (back : Int)) % 4096
theorem ack_hit {back : Nat} (hb : back < 64) {M : Int} {n : Nat} {l : List Fm} {sent unt : Int} (h : NL l n sent unt true) (hn : n ≤ 64) {i : Nat} {x : Fm} (hx : l[i]? = some x) : ackP (bq back) M x = hitB back M i := by
  obtain ⟨e1, e2, e3⟩ := h.get hx
  have hd : (x.m.seq - bq back) % 4096 = ((i + back : Nat) : Int) := by
    rw [e1]; show ((i : Int) - bq back) % 4096 = _
    unfold bq; omega
  unfold ackP nearP hitB
  rw [e2, hd, Bool.true_and]
  congr 1
  rw [decide_eq_decide]; omega
theorem snoc_ind {α : Type} {P : List α → Prop} (h0 : P []) (h : ∀ L x, P L → P (L ++ [x])) (L : List α) : P L := by
  have key : ∀ R : List α, P R.reverse := by
    intro R
    induction R with
    | nil => exact h0
    | cons x R ih => rw [List.reverse_cons]; exact h _ _ ih
  have := key L.reverse
  rwa [List.reverse_reverse] at this
/-- a predicate on a list of numbered frames -/
theorem filter_idx {l : List Fm} {n : Nat} (hl : l.length = n) (p : Fm → Bool) (q : Nat → Bool) (f : Fm → Int) (hp : ∀ i x, l[i]? = some x → p x = q i ∧ f x = (i : Int)) : (l.filter p).map f = ((List.range n).filter q).map Int.ofNat := by
  subst hl
  induction l using snoc_ind with
  | h0 => rfl
  | h l x ih =>
    rw [List.filter_append, List.map_append, List.length_append, List.length_singleton, List.range_succ, List.filter_append, List.map_append, ih]
    · congr 1
      obtain ⟨e1, e2⟩ := hp l.length x (by rw [List.getElem?_append_right (Nat.le_refl _), Nat.sub_self]; rfl)
      rw [List.filter_cons, List.filter_cons, e1]
      cases q l.length
      · rfl
      · simp [e2]
    · intro i y hy
      exact hp i y (by rw [List.getElem?_append_left (List.getElem?_eq_some_iff.1 hy).1]; exact hy)

set_option maxRecDepth 100000 in
set_option maxHeartbeats 12800000 in
theorem baHears_walk (w : World) {E : Nat → Addr} (hE : Errs [2, 6, 8, 9, 10] w E) (a0 : Int) (w0 : (Lit.int .i64 a0).wf = true) (a1 : Int) (w1 : (Lit.int .i64 a1).wf = true) (M : Int) (w2 : (Lit.int .u64 M).wf = true) :
    Calls Tryd.prog 4 #[.int .i64 a0, .int .i64 a1, .int .u64 M] w fun e w' => e = .returned (.bool true) ∧ Below w.heap.size w w' := by
  obtain ⟨x0, x1⟩ := bounds_i64 w0
  obtain ⟨y0, y1⟩ := bounds_i64 w1
  have hM : 0 ≤ M ∧ M < 18446744073709551616 := by
    have : 0 ≤ M ∧ M ≤ 18446744073709551615 := by simpa [Lit.wf, IntKind.min, IntKind.max, IntKind.signed, IntKind.bits] using w2
    omega
  obtain ⟨hM0, hM1⟩ := hM
  have NN := Lib.hid (fun w => number_any a0 64 w (by decide) (by decide) x0 x1)
  have NB := Lib.hid (fun w => number_any a1 64 w (by decide) (by decide) y0 y1)
  obtain ⟨n0, hn0, en⟩ := number_nat a0 64 (by decide)
  obtain ⟨back, hbk, eb⟩ := number_nat a1 64 (by decide)
  rw [show a0 % 64 = (n0 : Int) from en] at NN
  rw [show a1 % 64 = (back : Int) from eb] at NB
  clear w0 w1 w2 x0 x1 y0 y1 en eb
  have HE := Lib.hid hE
  clear hE
  go_enter Tryd.func4, Tryd.ntmps4
  go_wp2_with fail
  refine (bfirst_any w).mono ?_
  rintro e w1 ⟨rfl, hb1⟩
  have HB1 := Lib.hid hb1
  have z1 := hb1.size
  clear hb1
  go_wp2_with fail
  refine (NN.out w1).mono ?_
  rintro e wq ⟨rfl, rfl⟩
  obtain ⟨n, hn⟩ : ∃ n, n0 + 1 = n := ⟨_, rfl⟩
  have q1 : IntKind.i64.wrap ((n0 : Int) + 1) = (n : Int) := by rw [← hn]; exact IntWalk.i64_in _ (by omega)
  have hn1 : 1 ≤ n := by omega
  have hn64 : n ≤ 64 := by omega
  clear hn hn0
  go_wp2_with fail
  refine (NB.out w1).mono ?_
  rintro e wq ⟨rfl, rfl⟩
  go_wp2_with fail
  refine (bnew_ok 64 3 100 w1 (by decide) (by decide) (by decide) (by decide) (by decide) (by decide)).mono ?_
  rintro e w2 hnew
  obtain ⟨B, p, rfl, hS2, hb2⟩ := ss_new hnew
  have HS2 := Lib.hid hS2
  have HB2 := Lib.hid (HB1.out.trans (hb2.mono z1))
  clear hS2 hb2 hnew
  go_wp2_with fail
  refine (ask_ok HS2.out.bs 1 (by decide) (by decide) rfl rfl).mono ?_
  rintro e w3 ⟨rfl, hs3⟩
  obtain ⟨p3, hS3, hb3, -, -⟩ := HS2.out.step hs3
  have HS3 := Lib.hid hS3
  have HB3 := Lib.hid (HB2.out.trans (hb3.mono z1))
  have HE3 := Lib.hid (HE.out.below HB3.out (Nat.le_refl _))
  clear hS3 hb3 hs3 HS2 HB2
  go_wp2_with fail
  refine (answer_on HS3.out.bs (HE3.out.sub (by decide)) 0 rfl (by decide) (by decide) (by decide) (by decide) rfl).mono ?_
  rintro e w4 ⟨rfl, hs4⟩
  obtain ⟨p4, hS4, hb4, -, -⟩ := HS3.out.step hs4
  have HS4 : Hid (Ss w4 w1.heap.size B p4 (nS 64 3 100 1 0 [])) := Lib.hid (by rw [← nS_start]; exact hS4)
  have HB4 := Lib.hid (HB3.out.trans (hb4.mono z1))
  clear hS4 hb4 hs4 HS3 HB3 HE3
  go_wp2_with fail
  go_loopw [12, 13] (fun av iv wr => ∃ (k : Nat) (p : BP) (l : List Fm) (A : Option Addr) (C : Nat), k ≤ n ∧ iv = .int .i64 k ∧ av = .slice A k C ∧ OwnI wr w1.heap.size A k C ((List.range k).map Int.ofNat) ∧ Ss wr w1.heap.size B p (nS 64 3 100 1 k l) ∧ NL l k 0 100 false ∧ (∀ j, blk A = some j → ¬ bsS B p (nS 64 3 100 1 k l) j) ∧ Below w.heap.size w wr) (fun _ iv _ => n - (intOf iv).toNat)
  case atStart => exact ⟨0, p4, [], none, 0, Nat.zero_le _, rfl, rfl, ownI_nil _ _, HS4.out, rfl, fun j hj => (by cases hj), HB4.out⟩
  case round =>
    obtain ⟨k, p5, l, A, C, hk, rfl, rfl, hO, hS, hN, hsep, hb⟩ := hrel
    have HO := Lib.hid hO
    have HS := Lib.hid hS
    have HN := Lib.hid hN
    have HSEP := Lib.hid hsep
    have HB := Lib.hid hb
    have zr := hb.size
    clear hO hS hN hsep hb HS4 HB4
    by_cases hkn : k < n
    case pos =>
      have hk64 : k < 64 := by omega
      have HF := Lib.hid (fresh_ok HS.out.bs HS.out.bas (pk (k : Int)) none 0 0 (pk_row _ _) (by show (0 : Nat) ≤ 1048576; decide) (by show (3 : Int) ≠ 2; decide) rfl (by show (0 : Int) ≤ 64; decide) (by show (64 : Int) ≤ 1000000; decide) (by rw [nS_room (by omega)]; omega) (by show ((List.range k).map Int.ofNat).length ≤ 1000000; simp; omega) (by show l.length ≤ 1000000; rw [HN.out.len]; omega) (by decide) ⟨by show (0 : Int) ≤ 100; decide, by show (100 : Int) ≤ 1125899906842624; decide⟩ (fun k hk => by cases hk))
      go_wp2_with fail
      refine HF.out.mono ?_
      rintro e w5 ⟨A2, C2, A3, C3, rfl, ho3, hs5⟩
      obtain ⟨p6, hS5, hb5, hT5, hN5⟩ := HS.out.step hs5
      rw [nS_fresh (by omega)] at hS5 hN5
      have HS5 := Lib.hid hS5
      have hbas := HS.out.bas
      have zz1 := HB.out.size
      have HB5 := Lib.hid (HB.out.trans (hb5.mono z1))
      have HO5 := Lib.hid (HO.out.touch hT5 HSEP.out)
      have HSEP5 := Lib.hid (show ∀ j, blk A = some j → ¬ bsS B p6 (nS 64 3 100 1 (k + 1) (l ++ [⟨nM 0 (0 + 100) k, false, A2, C2⟩])) j from fun j hj hx => by
        rcases hN5 j hx with h | h
        · exact HSEP.out j hj h
        · have := (HO.out.ge j hj).2; omega)
      have HNN := Lib.hid (HN.out.snoc A2 C2)
      have z5 := HB5.out.size
      have zb5 := hb5.size
      have e7 : mpA (freshM (nS 64 3 100 1 k l) (pk (k : Int)) 0) A3 C3 = #[.int .i64 (k : Int), .int .u32 0, .int .i64 0, .int .i64 0, .slice A3 0 C3, .int .i64 (k : Int), .int .i64 0, .int .i64 (0 + 100)] := rfl
      rw [e7]
      clear e7 hS5 hb5 hT5 hN5 hs5 ho3 HF HO HSEP
      have HSX := Lib.hid ((HS5.out.alloc (.cells #[.int .i64 (k : Int), .int .u32 0, .int .i64 0, .int .i64 0, .slice A3 0 C3, .int .i64 (k : Int), .int .i64 0, .int .i64 (0 + 100)] 34)).alloc (.cells #[.int .i64 (k : Int)] 3))
      have HBX := Lib.hid ((HB5.out.alloc z5 (.cells #[.int .i64 (k : Int), .int .u32 0, .int .i64 0, .int .i64 0, .slice A3 0 C3, .int .i64 (k : Int), .int .i64 0, .int .i64 (0 + 100)] 34)).alloc (by simp; omega) (.cells #[.int .i64 (k : Int)] 3))
      have HOX := Lib.hid ((HO5.out.alloc (.cells #[.int .i64 (k : Int), .int .u32 0, .int .i64 0, .int .i64 0, .slice A3 0 C3, .int .i64 (k : Int), .int .i64 0, .int .i64 (0 + 100)] 34)).alloc (.cells #[.int .i64 (k : Int)] 3))
      have hkk : ((k : Int) != (k : Int)) = false := by simp
      go_wp2_with (at_builtin; refine append_int _ rfl (.tmp 72) (.tmp 74) rfl w1.heap.size A k C _ rfl HOX.out _ 1 1 [(k : Int)] rfl (row_int1' _ _ _ _ (by simp)) (by omega) (by simp; omega) ?_; intro A7 C7 w7 ho7 hg7 hat7)
      have HS7 := Lib.hid (HSX.out.grownBy hg7 HSEP5.out)
      have HB7 := Lib.hid (HBX.out.grown hg7 HBX.out.size (fun j hj => by have := (HO5.out.ge j hj).1; omega))
      have HSEP7 := Lib.hid (show ∀ j, blk A7 = some j → ¬ bsS B p6 (nS 64 3 100 1 (k + 1) (l ++ [⟨nM 0 (0 + 100) k, false, A2, C2⟩])) j from fun j hj hx => by
        rcases hat7 with h | h
        · exact HSEP5.out j (h ▸ hj) hx
        · rw [h] at hj
          have e := Option.some.inj hj
          have h2 := (HSX.out.ge j hx).2
          rw [← e] at h2
          exact absurd h2 (by simp))
      have HO7 := Lib.hid (show OwnI w7 w1.heap.size A7 (k + 1) C7 ((List.range (k + 1)).map Int.ofNat) by rw [List.range_succ, List.map_append]; exact ho7)
      clear ho7 hg7 hat7
      go_roundw
      case rel => exact ⟨k + 1, p6, _, A7, C7, by omega, by go_num, rfl, HO7.out, HS7.out, HNN.out, HSEP7.out, HB7.out⟩
      case measure => simp [intOf]; omega
    case neg =>
      have hke : k = n := by omega
      subst hke
      have HW := Lib.hid (went_pass HS.out.bs ((HE.out.below HB.out (Nat.le_refl _)).cell 9 (by decide)) A k C _ HO.out.row HSEP.out HN.out.goes (fun x hx => by obtain ⟨i, _, e, _⟩ := HN.out.mem hx; rw [e]; exact ⟨by show (0 : Int) ≤ 0; decide, by show (0 : Int) ≤ 1000000; decide⟩))
      clear HO HSEP q1 hk hkn
      go_wp2_with fail
      refine HW.out.mono ?_
      rintro e w5 (⟨h, -⟩ | ⟨-, rfl, hs5⟩)
      · rw [show (nS 64 3 100 1 k l).l = l from rfl, HN.out.any (by omega)] at h; cases h
      obtain ⟨p6, hS5, hb5, -, -⟩ := HS.out.step hs5
      have HS5 : Hid (Ss w5 w1.heap.size B p6 (nS 64 3 100 1 k (l.map (went1 ((List.range k).map Int.ofNat))))) := Lib.hid hS5
      have HN5 := Lib.hid (HN.out.went)
      have HB5 := Lib.hid (HB.out.trans (hb5.mono z1))
      clear hS5 hb5 hs5 HW HS HN HB
      generalize l.map (went1 ((List.range k).map Int.ofNat)) = l2 at *
      have z5 := HB5.out.size
      have hq0 : 0 ≤ bq back := by unfold bq; omega
      have hq1 : bq back < 4096 := by unfold bq; omega
      have hl2 := HN5.out.len
      have hnear : l2.any (nearP (bq back)) = true := by
        rw [List.any_eq_true]
        obtain ⟨x, hx⟩ : ∃ x, l2[0]? = some x := ⟨_, List.getElem?_eq_getElem (by omega)⟩
        obtain ⟨e1, e2, _⟩ := HN5.out.get hx
        refine ⟨x, List.mem_of_getElem? hx, ?_⟩
        unfold nearP
        rw [e1, e2]
        show decide (((0 : Int) - bq back) % 4096 < 64) = true
        apply decide_eq_true
        unfold bq; omega
      have HH := Lib.hid (show Calls Tryd.prog 19 #[.pointer (some ⟨B, 0, none⟩), .agg #[.int .u8 0, .int .u8 0, .int .u8 0, .int .u8 0, .int .u8 0, .int .u8 0, .int .u8 0, .int .u8 0, .int .u8 0, .int .u8 0, .int .u8 0, .int .u8 0, .int .i64 0, .int .i64 (bq back), .int .u64 M]] w5 (HeardOk w5 w1.heap.size B p6 (nS 64 3 100 1 k l2) (bq back) M) from heard_ok HS5.out.bs HS5.out.bas (fun _ => 0) (fun _ => 0) 0 (bq back) M (HN5.out.any (by omega)) hq0 hq1 hnear hM0 hM1 (by show l2.length ≤ 1000000; omega) HN5.out.body HN5.out.seqs.symm (range_nodup k) (nS_head _ _ _ _ _ _))
      have HBQ := Lib.hid (show (-(back : Int)) % 4096 = bq back by unfold bq; omega)
      have qs : IntKind.i64.wrap (4096 - (back : Int)) = 4096 - (back : Int) := IntWalk.i64_in _ (by omega)
      have qp : (0 : Int) ≤ 4096 - (back : Int) := by omega
      clear hnear hq0 hq1
      go_wp2_with fail
      rw [HBQ.out]
      refine HH.out.mono ?_
      rintro e w6 ⟨A6, n6, C6, L6, rfl, ho6, hm6, hs6⟩
      obtain ⟨p7, hS6, hb6, -, -⟩ := HS5.out.step hs6
      have HW6 := Lib.hid (show L6.map (·.m.seq) = wantL back M k by
        have e : L6.map (·.m.seq) = (L6.map (·.m)).map (·.seq) := by rw [List.map_map]; rfl
        rw [e, hm6, List.map_map]
        exact filter_idx hl2 _ (hitB back M) _ (fun i x hx => ⟨ack_hit hbk HN5.out hn64 hx, by show x.m.seq = _; rw [(HN5.out.get hx).1]; rfl⟩))
      have HLF := Lib.hid (show (l2.filter (fun x => !ackP (bq back) M x)).map (·.m.seq) = leftL back M k from filter_idx hl2 _ (fun i => !hitB back M i) _ (fun i x hx => ⟨by rw [ack_hit hbk HN5.out hn64 hx], by show x.m.seq = _; rw [(HN5.out.get hx).1]; rfl⟩))
      have HS6 := Lib.hid hS6
      have HO6 := Lib.hid ho6
      have HB6 := Lib.hid (HB5.out.trans (hb6.mono z1))
      have z6 := HB6.out.size
      clear hS6 hb6 hs6 ho6 hm6 HH HS5 HB5 qs qp
      go_wp2_with fail
      generalize hsF : heardS (nS 64 3 100 1 k l2) (bq back) M = sF at *
      have HSF := Lib.hid hsF
      clear hsF
      go_loopw [18, 19, 20] (fun av bv iv w7 => ∃ (i : Nat) (A1 : Option Addr) (n1 C1 : Nat) (A2 : Option Addr) (n2 C2 : Nat), i ≤ k ∧ iv = .int .i64 i ∧ av = .slice A1 n1 C1 ∧ bv = .slice A2 n2 C2 ∧ n1 ≤ i ∧ n2 ≤ i ∧ OwnI w7 w6.heap.size A1 n1 C1 (wantL back M i) ∧ OwnI w7 w6.heap.size A2 n2 C2 (leftL back M i) ∧ (∀ j, blk A1 = some j → blk A2 ≠ some j) ∧ Below w6.heap.size w6 w7) (fun _ _ iv _ => k - (intOf iv).toNat)
      case atStart => exact ⟨0, none, 0, 0, none, 0, 0, Nat.zero_le _, rfl, rfl, rfl, Nat.le_refl _, Nat.le_refl _, ownI_nil _ _, ownI_nil _ _, fun j hj => (by cases hj), Below.refl _ _⟩
      case round =>
        obtain ⟨i, A1, n1, C1, A2, n2, C2, hi, rfl, rfl, rfl, hn1', hn2', hO1, hO2, hse, hb7⟩ := hrel
        have HO1 := Lib.hid hO1
        have HO2 := Lib.hid hO2
        have HSE := Lib.hid hse
        have HB7 := Lib.hid hb7
        have z7 := hb7.size
        clear hO1 hO2 hse hb7
        by_cases hik : i < k
        case pos =>
          have HWS := Lib.hid (wantL_succ back M i)
          have HLS := Lib.hid (leftL_succ back M i)
          have r1 : IntKind.i64.wrap ((i : Int) + (back : Int)) = (i : Int) + (back : Int) := IntWalk.i64_in _ (by omega)
          have r2 : (0 : Int) ≤ (i : Int) + (back : Int) := by omega
          have HBA := Lib.hid (HB7.out.alloc z7 (.cells #[.int .i64 (i : Int)] 3))
          have HOA1 := Lib.hid (HO1.out.alloc (.cells #[.int .i64 (i : Int)] 3))
          have HOA2 := Lib.hid (HO2.out.alloc (.cells #[.int .i64 (i : Int)] 3))
--LOOP2
          have hy0 : 0 ≤ M / 2 ^ (i + back) := Int.ediv_nonneg hM0 (Int.pow_nonneg (by decide))
          have hy1 : M / 2 ^ (i + back) < 18446744073709551616 := Int.lt_of_le_of_lt (Int.ediv_le_self _ hM0) hM1
          have hand : bits .and .u64 (M / 2 ^ (i + back)) 1 = M / 2 ^ (i + back) % 2 := by
            rw [u64_and _ _ hy0 hy1 (by decide) (by decide)]
            have e : (1 : Int).toNat = 1 := rfl
            rw [e, Nat.and_one_is_mod]
            omega
          have HH := Lib.hid (show hitB back M i = (decide (i + back < 64) && decide (M / 2 ^ (i + back) % 2 = 1)) from rfl)
          clear hy0 hy1
          by_cases h64 : i + back < 64
          case pos =>
            have g64 : decide ((i : Int) + (back : Int) < 64) = true := decide_eq_true (by omega)
            have r3 : IntKind.u64.wrap ((i : Int) + (back : Int)) = (i : Int) + (back : Int) := by simp [IntKind.wrap, IntKind.bits, IntKind.signed]; omega
            have r4 : (i : Int) + (back : Int) ≤ 64 := by omega
            by_cases hx : M / 2 ^ (i + back) % 2 = 1
            case pos =>
              have hhit : hitB back M i = true := by rw [HH.out, decide_eq_true h64, decide_eq_true hx]; rfl
              rw [hhit] at HWS HLS
              rw [if_pos rfl] at HWS HLS
              have geq : (M / 2 ^ (i + back) % 2 == 1) = true := by simp [hx]
              clear hhit hx h64 HH
              go_wp2_with (at_builtin; refine append_int _ rfl (.tmp 111) (.tmp 113) rfl w6.heap.size A1 n1 C1 _ rfl HOA1.out _ 1 1 [(i : Int)] rfl (row_int1' _ _ _ _ (by simp)) (by omega) (by simp; omega) ?_; intro A5 C5 w8 ho8 hg8 hat8)
              have HB8 := Lib.hid (HBA.out.grown hg8 HBA.out.size (fun j hj => (HOA1.out.ge j hj).1))
              have HK8 := Lib.hid (show OwnI w8 w6.heap.size A2 n2 C2 (leftL back M i) from own_keep HOA2.out hg8 (by
                rcases hx : blk A2 with _ | j
                · exact .inl rfl
                · exact .inr (fun e => HSE.out j e.symm hx)))
              have HSE8 := Lib.hid (show ∀ j, blk A5 = some j → blk A2 ≠ some j from fun j hj hx => by
                rcases hat8 with h | h
                · exact HSE.out j (h ▸ hj) hx
                · rw [h] at hj
                  have e := Option.some.inj hj
                  have h2 := (HOA2.out.ge j hx).2
                  rw [← e] at h2
                  exact absurd h2 (by simp))
              have HO8 := Lib.hid ho8
              clear ho8 hg8 hat8
              go_roundw
              (case rel => exact ⟨i + 1, A5, n1 + 1, C5, A2, n2, C2, by omega, by go_num, rfl, rfl, by omega, by omega, by rw [HWS.out]; exact HO8.out, by rw [HLS.out, List.append_nil]; exact HK8.out, HSE8.out, HB8.out⟩)
              (case measure => simp [intOf]; omega)
            case neg =>
              have hhit : hitB back M i = false := by rw [HH.out, decide_eq_true h64, decide_eq_false hx]; rfl
              rw [hhit] at HWS HLS
              rw [if_neg (by decide)] at HWS HLS
              have geq : (M / 2 ^ (i + back) % 2 == 1) = false := by simp [hx]
              clear hhit hx h64 HH
              go_wp2_with (at_builtin; refine append_int _ rfl (.tmp 115) (.tmp 117) rfl w6.heap.size A2 n2 C2 _ rfl HOA2.out _ 1 1 [(i : Int)] rfl (row_int1' _ _ _ _ (by simp)) (by omega) (by simp; omega) ?_; intro A5 C5 w8 ho8 hg8 hat8)
              have HB8 := Lib.hid (HBA.out.grown hg8 HBA.out.size (fun j hj => (HOA2.out.ge j hj).1))
              have HK8 := Lib.hid (show OwnI w8 w6.heap.size A1 n1 C1 (wantL back M i) from own_keep HOA1.out hg8 (by
                rcases hx : blk A1 with _ | j
                · exact .inl rfl
                · exact .inr (fun e => HSE.out j hx e.symm)))
              have HSE8 := Lib.hid (show ∀ j, blk A1 = some j → blk A5 ≠ some j from fun j hj hx => by
                rcases hat8 with h | h
                · exact HSE.out j hj (h ▸ hx)
                · rw [h] at hx
                  have e := Option.some.inj hx
                  have h2 := (HOA1.out.ge j hj).2
                  rw [← e] at h2
                  exact absurd h2 (by simp))
              have HO8 := Lib.hid ho8
              clear ho8 hg8 hat8
              go_roundw
              (case rel => exact ⟨i + 1, A1, n1, C1, A5, n2 + 1, C5, by omega, by go_num, rfl, rfl, by omega, by omega, by rw [HWS.out, List.append_nil]; exact HK8.out, by rw [HLS.out]; exact HO8.out, HSE8.out, HB8.out⟩)
              (case measure => simp [intOf]; omega)
          case neg =>
            have g64 : decide ((i : Int) + (back : Int) < 64) = false := decide_eq_false (by omega)
            have hhit : hitB back M i = false := by rw [HH.out, decide_eq_false h64]; rfl
            rw [hhit, if_neg (by decide)] at HWS HLS
            clear hhit h64 HH hand
            go_wp2_with (at_builtin; refine append_int _ rfl (.tmp 115) (.tmp 117) rfl w6.heap.size A2 n2 C2 _ rfl HOA2.out _ 1 1 [(i : Int)] rfl (row_int1' _ _ _ _ (by simp)) (by omega) (by simp; omega) ?_; intro A5 C5 w8 ho8 hg8 hat8)
            have HB8 := Lib.hid (HBA.out.grown hg8 HBA.out.size (fun j hj => (HOA2.out.ge j hj).1))
            have HK8 := Lib.hid (show OwnI w8 w6.heap.size A1 n1 C1 (wantL back M i) from own_keep HOA1.out hg8 (by
              rcases hx : blk A1 with _ | j
              · exact .inl rfl
              · exact .inr (fun e => HSE.out j hx e.symm)))
            have HSE8 := Lib.hid (show ∀ j, blk A1 = some j → blk A5 ≠ some j from fun j hj hx => by
              rcases hat8 with h | h
              · exact HSE.out j hj (h ▸ hx)
              · rw [h] at hx
                have e := Option.some.inj hx
                have h2 := (HOA1.out.ge j hj).2
                rw [← e] at h2
                exact absurd h2 (by simp))
            have HO8 := Lib.hid ho8
            clear ho8 hg8 hat8
            go_roundw
            (case rel => exact ⟨i + 1, A1, n1, C1, A5, n2 + 1, C5, by omega, by go_num, rfl, rfl, by omega, by omega, by rw [HWS.out, List.append_nil]; exact HK8.out, by rw [HLS.out]; exact HO8.out, HSE8.out, HB8.out⟩)
            (case measure => simp [intOf]; omega)
        case neg =>
          have hke : i = k := by omega
          subst hke
          have HS7 := Lib.hid (HS6.out.below HB7.out (Nat.le_refl _))
          have HO7 := Lib.hid (HO6.out.below HB7.out (Nat.le_refl _))
          have hl1 := HO1.out.len
          have hl3 := HO2.out.len
          have hsl : sF.l = (l2.filter (fun x => !ackP (bq back) M x)).map land1 := by rw [← HSF.out]; rfl
          have hsw : sF.w = ⟨(leftL back M i).headD (i : Int), (i : Int), 64, leftL back M i⟩ := by
            rw [← HSF.out]
            show takeW (nS 64 3 100 1 i l2) (ackP (bq back) M) = _
            unfold takeW
            rw [show (nS 64 3 100 1 i l2).l = l2 from rfl, HLF.out]
            rfl
          obtain ⟨F, hF⟩ : ∃ F, (leftL back M i).headD (i : Int) = F := ⟨_, rfl⟩
          have hF2 : 0 ≤ F ∧ F ≤ (i : Int) := by
            rw [← hF]
            cases hll : leftL back M i with
            | nil => simp
            | cons z t =>
              have := leftL_mem (z := z) (show z ∈ leftL back M i by rw [hll]; exact List.mem_cons_self ..)
              simp; omega
          rw [hF] at hsw
          have hfl0 : sF.l.filter (fun x => !x.fl) = sF.l := List.filter_eq_self.2 (fun x hx => by
            rw [hsl] at hx
            obtain ⟨y, _, rfl⟩ := List.mem_map.1 hx
            rfl)
          have hfl1 : sF.l.filter (·.fl) = [] := List.filter_eq_nil_iff.2 (fun x hx => by
            rw [hsl] at hx
            obtain ⟨y, _, rfl⟩ := List.mem_map.1 hx
            exact (by decide : ¬ (false = true)))
          have hsq : (sF.l.map (·.m)).map (·.seq) = leftL back M i := by
            rw [hsl, List.map_map, List.map_map, ← HLF.out]
            rfl
          have hslen : sF.l.length ≤ 1000000 := by
            rw [hsl, List.length_map]
            exact Nat.le_trans (List.length_filter_le _ _) (by omega)
          have hbod : ∀ x ∈ sF.l, x.m.body.length ≤ 1048576 := fun x hx => by
            rw [hsl] at hx
            obtain ⟨y, hy, rfl⟩ := List.mem_map.1 hx
            exact HN5.out.body y (List.mem_filter.1 hy).1
          have hroom : room sF.w = 64 - ((i : Int) - F) := by
            rw [hsw]; unfold room
            show max ((64 : Int) - ((i : Int) - F) % 4096) 0 = _
            omega
          have HFL1 := Lib.hid hfl1
          have HFL0 := Lib.hid hfl0
          have HSQ := Lib.hid hsq
          have HBOD := Lib.hid hbod
          have HRM := Lib.hid hroom
          have HSW := Lib.hid hsw
          have HFF := Lib.hid hF
          have p1 : IntKind.i64.wrap ((i : Int) - F) = (i : Int) - F := IntWalk.i64_in _ (by omega)
          have p2 : IntKind.i64.wrap (64 - ((i : Int) - F)) = 64 - ((i : Int) - F) := IntWalk.i64_in _ (by omega)
          have HSQS := Lib.hid (seqs_any A6 n6 C6 _ L6 wr HO7.out (by have h1 := HO6.out.len; have h2 := congrArg List.length HW6.out; have := wantL_len back M i; rw [List.length_map] at h2; omega))
          rw [HW6.out] at HSQS
          have hn2z : n2 = 0 ∨ 0 < n2 := by omega
          clear hsl hsw hfl0 hfl1 hsq hbod hroom hF hi hik z7
          rcases hn2z with hn2 | hn2
          case inl =>
            subst hn2
            have hll : leftL back M i = [] := List.eq_nil_of_length_eq_zero (by omega)
            obtain rfl : F = (i : Int) := by rw [← HFF.out, hll]; rfl
            have HRM2 := Lib.hid (show room sF.w = 64 by rw [HRM.out]; omega)
            clear hll p1 p2 HRM
            go_wp2_with fail
            refine HSQS.out.mono ?_
            rintro e w8 ⟨A8, n8, C8, rfl, ho8, hb8⟩
            obtain rfl : n8 = n1 := by have := ho8.len; omega
            have hb8' := HB7.out.trans (hb8.mono HB7.out.size)
            have HS8 := Lib.hid (HS7.out.below hb8 (Nat.le_refl _))
            have HB8 := Lib.hid hb8'
            have HO28 := Lib.hid (HO2.out.below hb8 (Nat.le_refl _))
            have HSI := Lib.hid (sameInts_any A8 A1 n8 C8 C1 _ w8 ho8.row (HO1.out.below hb8 (Nat.le_refl _)).row)
            clear ho8 hb8 hb8' HS7 HO1 HO7 HSQS
            go_wp2_with fail
            refine HSI.out.mono ?_
            rintro e w9 ⟨rfl, kq, rfl⟩
            have HS9 := Lib.hid (HS8.out.drewN kq)
            have HDU := Lib.hid (due_any HS9.out.bs hslen HBOD.out)
            rw [HFL0.out] at HDU
            have z8 := HB8.out.size
            go_wp2_with fail
            refine HDU.out.mono ?_
            rintro e w10 ⟨A10, n10, C10, L10, rfl, ho10, hm10, hb10⟩
            obtain rfl : n10 = 0 := by
              have h1 := ho10.len
              have h2 := congrArg List.length HSQ.out
              rw [← hm10, List.length_map, List.length_map] at h2
              omega
            have hsq10 : L10.map (·.m.seq) = leftL back M i := by
              rw [← HSQ.out, ← hm10, List.map_map]; rfl
            have hb10' := HB8.out.trans (((below_drewN kq).trans hb10).mono z8)
            have HS10 := Lib.hid (HS9.out.below hb10 (Nat.le_refl _))
            have HO210 := Lib.hid ((HO28.out.below (below_drewN kq) (Nat.le_refl _)).below hb10 (Nat.le_refl _))
            have HQ2 := Lib.hid (seqs_any A10 0 C10 _ L10 w10 ho10 (by have := leftL_len back M i; omega))
            rw [hsq10] at HQ2
            have HB10 := Lib.hid hb10'
            clear hm10 hb10 hb10' ho10 hsq10 HDU HS9 HS8 HO28 HB8 HSI
            go_wp2_with fail
            refine HQ2.out.mono ?_
            rintro e w11 ⟨A11, n11, C11, rfl, ho11, hb11⟩
            obtain rfl : n11 = 0 := by have := ho11.len; omega
            have HS11 := Lib.hid (HS10.out.below hb11 (Nat.le_refl _))
            have HB11 := Lib.hid (HB10.out.trans (hb11.mono HB10.out.size))
            have HSI2 := Lib.hid (sameInts_any A11 A2 0 C11 C2 _ w11 ho11.row (HO210.out.below hb11 (Nat.le_refl _)).row)
            clear ho11 hb11 HS10 HB10 HQ2 HO210 HO2
            go_wp2_with fail
            refine HSI2.out.mono ?_
            rintro e w12 ⟨rfl, kp, rfl⟩
            have HS12 := Lib.hid (HS11.out.drewN kp)
            have HST := Lib.hid (bstart_any HS12.out.bs)
            rw [HSW.out] at HST
            have hff : ((i : Int) == (i : Int)) = true := by simp
            go_wp2_with fail
            refine HST.out.mono ?_
            rintro e w13 ⟨rfl, rfl⟩
            have HFY := Lib.hid (flying_any HS12.out.bs hslen HBOD.out)
            rw [HFL1.out] at HFY
            go_wp2_with fail
            refine HFY.out.mono ?_
            rintro e w14 ⟨A14, n14, C14, L14, rfl, ho14, hm14, hb14⟩
            obtain rfl : n14 = 0 := by
              have h1 := ho14.len
              have h2 := congrArg List.length hm14
              simp at h2
              subst h2
              simpa using h1.symm
            have HS14 := Lib.hid (HS12.out.below hb14 (Nat.le_refl _))
            have HB14 := Lib.hid (HB11.out.trans (((below_drewN kp).trans hb14).mono HB11.out.size))
            have HR := Lib.hid (broom_any HS14.out.bs (by rw [HSW.out]; show (0 : Int) ≤ 64; decide) (by rw [HSW.out]; show (64 : Int) ≤ 1000000; decide))
            rw [HRM2.out] at HR
            have hrr : ((64 : Int) == 64) = true := by simp
            clear ho14 hm14 hb14 HFY HST HS12 HS11
            go_wp2_with fail
            refine HR.out.mono ?_
            rintro e w15 ⟨rfl, kr, rfl⟩
            go_wp2_with fail
            go_ret
            exact ⟨rfl, (HB6.out.trans (HB14.out.mono z6)).trans (below_drewN kr)⟩
          case inr =>
            obtain ⟨g2, hgA, _, _, _, hcell, _⟩ := HO2.out.open_ hn2
            subst hgA
            have hzF : (leftL back M i)[0]? = some F := by
              rw [← HFF.out]
              cases hll : leftL back M i with
              | nil => rw [hll] at hl3; simp at hl3; omega
              | cons z t => rfl
            have cF : wr.cell? ⟨g2, 0, none⟩ = some (.int .i64 F) := hcell 0 F hzF
            have hlp : decide ((0 : Int) < (n2 : Int)) = true := decide_eq_true (by omega)
            clear hcell hzF
            go_wp2_with fail
            refine HSQS.out.mono ?_
            rintro e w8 ⟨A8, n8, C8, rfl, ho8, hb8⟩
            obtain rfl : n8 = n1 := by have := ho8.len; omega
            have hb8' := HB7.out.trans (hb8.mono HB7.out.size)
            have HS8 := Lib.hid (HS7.out.below hb8 (Nat.le_refl _))
            have HB8 := Lib.hid hb8'
            have HO28 := Lib.hid (HO2.out.below hb8 (Nat.le_refl _))
            have HSI := Lib.hid (sameInts_any A8 A1 n8 C8 C1 _ w8 ho8.row (HO1.out.below hb8 (Nat.le_refl _)).row)
            clear ho8 hb8 hb8' HS7 HO1 HO7 HSQS
            go_wp2_with fail
            refine HSI.out.mono ?_
            rintro e w9 ⟨rfl, kq, rfl⟩
            have HS9 := Lib.hid (HS8.out.drewN kq)
            have HDU := Lib.hid (due_any HS9.out.bs hslen HBOD.out)
            rw [HFL0.out] at HDU
            have z8 := HB8.out.size
            go_wp2_with fail
            refine HDU.out.mono ?_
            rintro e w10 ⟨A10, n10, C10, L10, rfl, ho10, hm10, hb10⟩
            obtain rfl : n2 = n10 := by
              have h1 := ho10.len
              have h2 := congrArg List.length HSQ.out
              rw [← hm10, List.length_map, List.length_map] at h2
              omega
            have hsq10 : L10.map (·.m.seq) = leftL back M i := by
              rw [← HSQ.out, ← hm10, List.map_map]; rfl
            have hb10' := HB8.out.trans (((below_drewN kq).trans hb10).mono z8)
            have HS10 := Lib.hid (HS9.out.below hb10 (Nat.le_refl _))
            have HO210 := Lib.hid ((HO28.out.below (below_drewN kq) (Nat.le_refl _)).below hb10 (Nat.le_refl _))
            have HQ2 := Lib.hid (seqs_any A10 n2 C10 _ L10 w10 ho10 (by have := leftL_len back M i; omega))
            rw [hsq10] at HQ2
            have HB10 := Lib.hid hb10'
            clear hm10 hb10 hb10' ho10 hsq10 HDU HS9 HS8 HO28 HB8 HSI
            go_wp2_with fail
            refine HQ2.out.mono ?_
            rintro e w11 ⟨A11, n11, C11, rfl, ho11, hb11⟩
            obtain rfl : n11 = n2 := by have := ho11.len; omega
            have HS11 := Lib.hid (HS10.out.below hb11 (Nat.le_refl _))
            have HB11 := Lib.hid (HB10.out.trans (hb11.mono HB10.out.size))
            have HSI2 := Lib.hid (sameInts_any A11 (some ⟨g2, 0, none⟩) n11 C11 C2 _ w11 ho11.row (HO210.out.below hb11 (Nat.le_refl _)).row)
            clear ho11 hb11 HS10 HB10 HQ2 HO210 HO2
            go_wp2_with fail
            refine HSI2.out.mono ?_
            rintro e w12 ⟨rfl, kp, rfl⟩
            have HS12 := Lib.hid (HS11.out.drewN kp)
            have HST := Lib.hid (bstart_any HS12.out.bs)
            rw [HSW.out] at HST
            have hff : (F == F) = true := by simp
            go_wp2_with fail
            refine HST.out.mono ?_
            rintro e w13 ⟨rfl, rfl⟩
            have HFY := Lib.hid (flying_any HS12.out.bs hslen HBOD.out)
            rw [HFL1.out] at HFY
            go_wp2_with fail
            refine HFY.out.mono ?_
            rintro e w14 ⟨A14, n14, C14, L14, rfl, ho14, hm14, hb14⟩
            obtain rfl : n14 = 0 := by
              have h1 := ho14.len
              have h2 := congrArg List.length hm14
              simp at h2
              subst h2
              simpa using h1.symm
            have HS14 := Lib.hid (HS12.out.below hb14 (Nat.le_refl _))
            have HB14 := Lib.hid (HB11.out.trans (((below_drewN kp).trans hb14).mono HB11.out.size))
            have HR := Lib.hid (broom_any HS14.out.bs (by rw [HSW.out]; show (0 : Int) ≤ 64; decide) (by rw [HSW.out]; show (64 : Int) ≤ 1000000; decide))
            rw [HRM.out] at HR
            have hrr : (64 - ((i : Int) - F) == 64 - ((i : Int) - F)) = true := by simp
            clear ho14 hm14 hb14 HFY HST HS12 HS11
            go_wp2_with fail
            refine HR.out.mono ?_
            rintro e w15 ⟨rfl, kr, rfl⟩
            go_wp2_with fail
            go_ret
            exact ⟨rfl, (HB6.out.trans (HB14.out.mono z6)).trans (below_drewN kr)⟩
end Go.Proofs.YthjjneanabnjoaaDoor
