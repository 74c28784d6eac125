/-
  BaSeqs: the walk.
-/
import Derived.Test.YthjjneanabnjoaaDoorBaHearsPlain
import Derived.Test.YthjjneanabnjoaaDoorSee
import Derived.Test.YthjjneanabnjoaaDoorNumber
namespace Go.Proofs.YthjjneanabnjoaaDoor
open Go.ChangeShapes Go.WideShapes Go.ChangeAt Go.RowKit
set_option linter.unusedVariables false

theorem nS_start64 : onS (askS (newS 64 3 100) 0) 64 = nS 64 3 100 0 0 [] := by
  unfold onS ansN
  rw [if_pos (by decide)]
  rfl
/-- the first flies, no other -/
def F0 (l : List Fm) (n : Nat) : Prop := l.map cor = (List.range n).map fun i => if i = 0 then (nM 1 100 i, true) else (nM 0 100 i, false)
section
variable {l : List Fm} {n : Nat}
theorem NL.f0 (h : NL l n 0 100 false) : F0 (l.map (went1 [0])) n := by
  unfold F0
  apply List.ext_getElem?
  intro i
  rw [List.map_map, List.getElem?_map, List.getElem?_map]
  rcases Nat.lt_or_ge i n with hi | hi
  · obtain ⟨x, hx⟩ : ∃ x, l[i]? = some x := ⟨_, List.getElem?_eq_getElem (by rw [h.len]; exact hi)⟩
    obtain ⟨e1, e2, _⟩ := h.get hx
    rw [hx, List.getElem?_range hi]
    simp only [Option.map_some, Function.comp]
    have hs : x.m.seq = (i : Int) := by rw [e1]; rfl
    by_cases h0 : i = 0
    · subst h0
      rw [if_pos rfl, went1_yes (by rw [hs]; rfl)]
      show some (_, _) = some (_, _)
      rw [e1]; rfl
    · rw [if_neg h0, went1_no (by rw [hs]; simp; omega)]
      show some (_, _) = some (_, _)
      rw [e1, e2]
  · rw [List.getElem?_eq_none (by rw [h.len]; exact hi), List.getElem?_eq_none (by simpa using hi)]
    rfl
theorem F0.len (h : F0 l n) : l.length = n := by have := congrArg List.length h; simpa using this
theorem F0.get (h : F0 l n) {i : Nat} {x : Fm} (hx : l[i]? = some x) : x.m.seq = (i : Int) ∧ x.m.body = [] ∧ 0 ≤ x.m.sent ∧ x.m.sent ≤ 1 ∧ x.fl = decide (i = 0) := by
  have hi : i < n := by rw [← h.len]; exact (List.getElem?_eq_some_iff.1 hx).1
  have e := congrArg (fun l => l[i]?) h
  simp only [List.getElem?_map, hx, List.getElem?_range hi, Option.map_some, Option.some.injEq] at e
  by_cases h0 : i = 0
  · rw [if_pos h0] at e
    simp only [cor, Prod.mk.injEq] at e
    rw [e.1, e.2]
    exact ⟨rfl, rfl, by show (0 : Int) ≤ 1; decide, by show (1 : Int) ≤ 1; decide, by simp [h0]⟩
  · rw [if_neg h0] at e
    simp only [cor, Prod.mk.injEq] at e
    rw [e.1, e.2]
    exact ⟨rfl, rfl, by show (0 : Int) ≤ 0; decide, by show (0 : Int) ≤ 1; decide, by simp [h0]⟩
theorem F0.mem (h : F0 l n) {x : Fm} (hx : x ∈ l) : ∃ i : Nat, x.m.seq = (i : Int) ∧ x.m.body = [] ∧ 0 ≤ x.m.sent ∧ x.m.sent ≤ 1 ∧ x.fl = decide (i = 0) := by
  obtain ⟨i, hi, rfl⟩ := List.getElem_of_mem hx
  exact ⟨i, h.get (List.getElem?_eq_getElem hi)⟩
theorem F0.at_ (h : F0 l n) {i : Nat} (hi : i < n) : ∃ x, l[i]? = some x := ⟨_, List.getElem?_eq_getElem (by rw [h.len]; exact hi)⟩
theorem F0.any (h : F0 l n) (hn : 0 < n) : l.any (·.fl) = true := by
  obtain ⟨x, hx⟩ := h.at_ hn
  rw [List.any_eq_true]
  exact ⟨x, List.mem_of_getElem? hx, by rw [(h.get hx).2.2.2.2]; rfl⟩
theorem F0.due1 (h : F0 l n) (hn : 1 < n) : l.any (dueN 1) = true := by
  obtain ⟨x, hx⟩ := h.at_ hn
  obtain ⟨e1, _, _, _, e2⟩ := h.get hx
  rw [List.any_eq_true]
  exact ⟨x, List.mem_of_getElem? hx, by unfold dueN; rw [e1, e2]; rfl⟩
theorem F0.due0 (h : F0 l n) : l.any (dueN 0) = false := by
  rw [List.any_eq_false]
  intro x hx
  obtain ⟨i, e1, _, _, _, e2⟩ := h.mem hx
  unfold dueN
  rw [e1, e2]
  by_cases h0 : i = 0
  · simp [h0]
  · simp
    try omega
theorem F0.near (h : F0 l n) {q : Int} (h0 : 100 ≤ q) (h1 : q < 4033) : l.any (nearP q) = false := by
  rw [List.any_eq_false]
  intro x hx
  obtain ⟨i, e1, _, _, _, e2⟩ := h.mem hx
  unfold nearP
  rw [e1, e2]
  by_cases h2 : i = 0
  · subst h2
    simp only [decide_true, Bool.true_and, decide_eq_true_eq]
    omega
  · simp [h2]
theorem F0.flying (h : F0 l n) (hn : 0 < n) : (l.filter (·.fl)).length = 1 := by
  cases l with
  | nil => have := h.len; simp at this; omega
  | cons x l =>
    have hx := (h.get (i := 0) (x := x) rfl).2.2.2.2
    have hr : l.filter (·.fl) = [] := List.filter_eq_nil_iff.2 (fun y hy => by
      obtain ⟨i, hi, rfl⟩ := List.getElem_of_mem hy
      have := (h.get (i := i + 1) (x := l[i]) (by rw [List.getElem?_cons_succ, List.getElem?_eq_getElem hi])).2.2.2.2
      rw [this]; simp)
    rw [List.filter_cons, hx, if_pos (by decide), hr]
    rfl
end
theorem NL.due (n k : Nat) {l : List Fm} {unt : Int} (h : NL l n 0 unt false) : l.any (dueN (k : Int)) = decide (k < n) := by
  rw [Bool.eq_iff_iff, List.any_eq_true, decide_eq_true_eq]
  constructor
  · rintro ⟨x, hx, hd⟩
    obtain ⟨i, hi, e1, e2⟩ := h.mem hx
    unfold dueN at hd
    rw [e1, e2] at hd
    simp [nM] at hd
    omega
  · intro hk
    obtain ⟨x, hx⟩ : ∃ x, l[k]? = some x := ⟨_, List.getElem?_eq_getElem (by rw [h.len]; exact hk)⟩
    obtain ⟨e1, e2, _⟩ := h.get hx
    exact ⟨x, List.mem_of_getElem? hx, by unfold dueN; rw [e1, e2]; simp [nM]⟩
theorem goes_one (l : List Fm) (z : Int) : goes l [z] 0 z = l.any (dueN z) := by unfold goes; simp

set_option maxRecDepth 100000 in
set_option maxHeartbeats 12800000 in
theorem baSeqs_walk (w : World) {E : Nat → Addr} (hE : Errs allErr w E) (a0 : Int) (w0 : (Lit.int .i64 a0).wf = true) (a1 : Int) (w1 : (Lit.int .i64 a1).wf = true) :
    Calls Tryd.prog 5 #[.int .i64 a0, .int .i64 a1] w fun e w' => e = .returned (.bool true) ∧ Below w.heap.size w w' := by
  obtain ⟨x0, x1⟩ := bounds_i64 w0
  obtain ⟨y0, y1⟩ := bounds_i64 w1
  have NN := Lib.hid (fun w => number_any a0 10 w (by decide) (by decide) x0 x1)
  have NF := Lib.hid (fun w => number_any a1 3900 w (by decide) (by decide) y0 y1)
  obtain ⟨n0, hn0, en⟩ := number_nat a0 10 (by decide)
  rw [show a0 % 10 = (n0 : Int) from en] at NN
  have f0 := Int.emod_nonneg a1 (show (3900 : Int) ≠ 0 by omega)
  have f1 := Int.emod_lt_of_pos a1 (show (0 : Int) < 3900 by omega)
  generalize a1 % 3900 = F0' at *
  clear w0 w1 x0 x1 y0 y1 en
  have HE := Lib.hid hE
  clear hE
  go_enter Tryd.func5, Tryd.ntmps5
  go_wp2_with fail
  refine (bfirst_any w).mono ?_
  rintro e w1 ⟨rfl, hb1⟩
  have HB1 := Lib.hid hb1
  have z1 := hb1.size
  clear hb1
  go_wp2_with fail
  refine (NN.out w1).mono ?_
  rintro e wq ⟨rfl, rfl⟩
  obtain ⟨n, hn⟩ : ∃ n, n0 + 2 = n := ⟨_, rfl⟩
  have q1 : IntKind.i64.wrap ((n0 : Int) + 2) = (n : Int) := by rw [← hn, IntWalk.i64_in _ (by omega)]; omega
  have hn2 : 2 ≤ n := by omega
  have hn11 : n ≤ 11 := by omega
  clear hn hn0
  go_wp2_with fail
  refine (NF.out w1).mono ?_
  rintro e wq ⟨rfl, rfl⟩
  obtain ⟨far, hfar⟩ : ∃ far, F0' + 100 = far := ⟨_, rfl⟩
  have q2 : IntKind.i64.wrap (F0' + 100) = far := by rw [hfar]; exact IntWalk.i64_in _ (by omega)
  have hf0 : 100 ≤ far := by omega
  have hf1 : far < 4033 := by omega
  clear hfar f0 f1
  go_wp2_with fail
  refine (bnew_ok 64 3 100 w1 (by decide) (by decide) (by decide) (by decide) (by decide) (by decide)).mono ?_
  rintro e w2 hnew
  obtain ⟨B, p, rfl, hS2, hb2⟩ := ss_new hnew
  have HS2 := Lib.hid hS2
  have HB2 := Lib.hid (HB1.out.trans (hb2.mono z1))
  clear hS2 hb2 hnew
  go_wp2_with fail
  refine (ask_ok HS2.out.bs 0 (by decide) (by decide) rfl rfl).mono ?_
  rintro e w3 ⟨rfl, hs3⟩
  obtain ⟨p3, hS3, hb3, -, -⟩ := HS2.out.step hs3
  have HS3 := Lib.hid hS3
  have HB3 := Lib.hid (HB2.out.trans (hb3.mono z1))
  have HE3 := Lib.hid (HE.out.below HB3.out (Nat.le_refl _))
  clear hS3 hb3 hs3 HS2 HB2
  go_wp2_with fail
  refine (answer_on HS3.out.bs (HE3.out.sub (by decide)) 64 rfl (by decide) (by decide) (by decide) (by decide) rfl).mono ?_
  rintro e w4 ⟨rfl, hs4⟩
  obtain ⟨p4, hS4, hb4, -, -⟩ := HS3.out.step hs4
  have HS4 : Hid (Ss w4 w1.heap.size B p4 (nS 64 3 100 0 0 [])) := Lib.hid (by rw [← nS_start64]; exact hS4)
  have HB4 := Lib.hid (HB3.out.trans (hb4.mono z1))
  have HE4 := Lib.hid (HE.out.below HB4.out (Nat.le_refl _))
  have z4 := HB4.out.size
  clear hS4 hb4 hs4 HS3 HB3 HE3
  go_wp2_with fail
  refine (lost_no (E := E) HS4.out.bs (HE4.out.cell 9 (by decide)) rfl).mono ?_
  rintro e w5 ⟨rfl, hb5⟩
  have HS5 := Lib.hid (HS4.out.below hb5 (Nat.le_refl _))
  have HB5 := Lib.hid (HB4.out.trans (hb5.mono z4))
  have HE5 := Lib.hid (HE.out.below HB5.out (Nat.le_refl _))
  have HI5 := Lib.hid (is_any HE5.out (some 9) (by intro i h; injection h with h; subst h; decide) 110)
  clear hb5 HS4 HB4 HE4
  go_wp2_with fail
  refine HI5.out.mono ?_
  rintro e w6 ⟨rfl, hb6⟩
  rw [show (errCode (some 9) == 110) = true by decide]
  have HS6 := Lib.hid (HS5.out.below hb6 (Nat.le_refl _))
  have HB6 := Lib.hid (HB5.out.trans (hb6.mono HB5.out.size))
  clear hb6 HS5 HB5 HE5 HI5
  go_wp2_with fail
--REST
  go_loopw [10] (fun iv wr => ∃ (k : Nat) (p : BP) (l : List Fm), k ≤ n ∧ iv = .int .i64 k ∧ Ss wr w1.heap.size B p (nS 64 3 100 0 k l) ∧ NL l k 0 100 false ∧ Below w.heap.size w wr) (fun iv _ => n - (intOf iv).toNat)
  case atStart => exact ⟨0, _, [], Nat.zero_le _, rfl, HS6.out, rfl, HB6.out⟩
  case round =>
    obtain ⟨k, p5, l, hk, rfl, hS, hN, hb⟩ := hrel
    have HS := Lib.hid hS
    have HN := Lib.hid hN
    have HB := Lib.hid hb
    have zr := hb.size
    clear hS hN hb HS6 HB6
    by_cases hkn : k < n
    case pos =>
      have hk64 : k < 64 := by omega
      have HF := Lib.hid (fresh_ok HS.out.bs HS.out.bas (pk (k : Int)) none 0 0 (pk_row _ _) (by show (0 : Nat) ≤ 1048576; decide) (by show (3 : Int) ≠ 2; decide) rfl (by show (0 : Int) ≤ 64; decide) (by show (64 : Int) ≤ 1000000; decide) (by rw [nS_room (by omega)]; omega) (by show ((List.range k).map Int.ofNat).length ≤ 1000000; simp; omega) (by show l.length ≤ 1000000; rw [HN.out.len]; omega) (by decide) ⟨by show (0 : Int) ≤ 100; decide, by show (100 : Int) ≤ 1125899906842624; decide⟩ (fun k hk => by cases hk))
      go_wp2_with fail
      refine HF.out.mono ?_
      rintro e w5 ⟨A2, C2, A3, C3, rfl, ho3, hs5⟩
      obtain ⟨p6, hS5, hb5, -, -⟩ := HS.out.step hs5
      rw [nS_fresh (by omega)] at hS5
      have HS5 := Lib.hid hS5
      have HB5 := Lib.hid (HB.out.trans (hb5.mono z1))
      have HNN := Lib.hid (show NL _ _ 0 100 false from HN.out.snoc A2 C2)
      have z5 := HB5.out.size
      have e7 : mpA (freshM (nS 64 3 100 0 k l) (pk (k : Int)) 0) A3 C3 = #[.int .i64 (k : Int), .int .u32 0, .int .i64 0, .int .i64 0, .slice A3 0 C3, .int .i64 (k : Int), .int .i64 0, .int .i64 (0 + 100)] := rfl
      rw [e7]
      clear e7 hS5 hb5 hs5 ho3 HF
      have HSX := Lib.hid (HS5.out.alloc (.cells #[.int .i64 (k : Int), .int .u32 0, .int .i64 0, .int .i64 0, .slice A3 0 C3, .int .i64 (k : Int), .int .i64 0, .int .i64 (0 + 100)] 34))
      have HBX := Lib.hid (HB5.out.alloc z5 (.cells #[.int .i64 (k : Int), .int .u32 0, .int .i64 0, .int .i64 0, .slice A3 0 C3, .int .i64 (k : Int), .int .i64 0, .int .i64 (0 + 100)] 34))
      go_wp2_with fail
      go_roundw
      case rel => exact ⟨k + 1, p6, _, by omega, by go_num, HSX.out, HNN.out, HBX.out⟩
      case measure => simp [intOf]; omega
    case neg =>
      have hke : k = n := by omega
      subst hke
      clear q1 hkn hk
      have hg0 : goes l [0] 0 0 = true := by rw [goes_one]; exact (NL.due k 0 HN.out).trans (decide_eq_true (by omega))
      have hg0' : goes l [0, 0] 0 0 = true := hg0
      have hg1 : goes l [0, 0] 1 0 = false := by unfold goes; rfl
      have hgn : goes l [(k : Int)] 0 (k : Int) = false := by rw [goes_one]; exact (NL.due k k HN.out).trans (decide_eq_false (by omega))
      have HG := Lib.hid (And.intro hg0' (And.intro hg1 (And.intro hgn hg0)))
      clear hg0 hg0' hg1 hgn
      have HAa := Lib.hid (HS.out.alloc (.cells #[.int .i64 0, .int .i64 0] 3))
      have HDa := Lib.hid (HB.out.alloc (HB.out.size) (.cells #[.int .i64 0, .int .i64 0] 3))
      have HEa := Lib.hid (HE.out.below HDa.out (Nat.le_refl _))
      have hrowa : Row (wr.alloc (.cells #[.int .i64 0, .int .i64 0] 3)) 1 (some ⟨wr.heap.size, 0, none⟩) 2 2 (([0, 0] : List Int).map (Value.int .i64)) := row_two _ _ _ _
      have HWa := Lib.hid (went_none (E := E) HAa.out.bs (HEa.out.cell 6 (by decide)) (some ⟨wr.heap.size, 0, none⟩) 2 2 [0, 0] hrowa 1 0 rfl HG.out.2.1 (fun j y hj hy => by obtain rfl : j = 0 := (by omega); obtain rfl : (0 : Int) = y := Option.some.inj hy; exact HG.out.1))
      clear hrowa
      go_wp2_with fail
      refine HWa.out.mono ?_
      rintro e ua ⟨rfl, hba⟩
      have HSa := Lib.hid (HAa.out.below hba (Nat.le_refl _))
      have HBa := Lib.hid (HDa.out.trans (hba.mono HDa.out.size))
      clear hba HAa HDa HWa HEa HS HB
      have HAb := Lib.hid (HSa.out.alloc (.cells #[.int .i64 (k : Int)] 3))
      have HDb := Lib.hid (HBa.out.alloc (HBa.out.size) (.cells #[.int .i64 (k : Int)] 3))
      have HEb := Lib.hid (HE.out.below HDb.out (Nat.le_refl _))
      have hrowb : Row (ua.alloc (.cells #[.int .i64 (k : Int)] 3)) 1 (some ⟨ua.heap.size, 0, none⟩) 1 1 (([(k : Int)] : List Int).map (Value.int .i64)) := row_one _ _ _
      have HWb := Lib.hid (went_none (E := E) HAb.out.bs (HEb.out.cell 6 (by decide)) (some ⟨ua.heap.size, 0, none⟩) 1 1 [(k : Int)] hrowb 0 (k : Int) rfl HG.out.2.2.1 (fun j y hj hy => by omega))
      clear hrowb
      go_wp2_with fail
      refine HWb.out.mono ?_
      rintro e ub ⟨rfl, hbb⟩
      have HSb := Lib.hid (HAb.out.below hbb (Nat.le_refl _))
      have HBb := Lib.hid (HDb.out.trans (hbb.mono HDb.out.size))
      clear hbb HAb HDb HWb HEb HSa HBa
      have HAc := Lib.hid (HSb.out.alloc (.cells #[.int .i64 0] 3))
      have HDc := Lib.hid (HBb.out.alloc (HBb.out.size) (.cells #[.int .i64 0] 3))
      have HEc := Lib.hid (HE.out.below HDc.out (Nat.le_refl _))
      have hrowc : Row (ub.alloc (.cells #[.int .i64 0] 3)) 1 (some ⟨ub.heap.size, 0, none⟩) 1 1 (([0] : List Int).map (Value.int .i64)) := row_one _ _ _
      have HWc := Lib.hid (went_pass (E := E) HAc.out.bs (HEc.out.cell 9 (by decide)) (some ⟨ub.heap.size, 0, none⟩) 1 1 [0] hrowc (fun k hk hx => by have e : ub.heap.size = k := Option.some.inj hk; have := (HSb.out.ge k hx).2; omega) (fun j y hj => by rcases j with _ | j; (obtain rfl : (0 : Int) = y := Option.some.inj hj; exact HG.out.2.2.2); simp at hj) (fun x hx => by obtain ⟨i, _, e, _⟩ := HN.out.mem hx; rw [e]; exact ⟨by show (0 : Int) ≤ 0; decide, by show (0 : Int) ≤ 1000000; decide⟩))
      clear hrowc
      go_wp2_with fail
      refine HWc.out.mono ?_
      rintro e uc (⟨h, -⟩ | ⟨-, rfl, hsc⟩)
      case inl => exact absurd (h.symm.trans (HN.out.any (by omega))) (by decide)
      obtain ⟨pc, hSc, hbc, -, -⟩ := HAc.out.step hsc
      have HSc : Hid (Ss uc w1.heap.size B pc (nS 64 3 100 0 k (l.map (went1 [0])))) := Lib.hid hSc
      have HBc := Lib.hid (HDc.out.trans (hbc.mono z1))
      clear hbc HAc HDc HWc HEc hsc hSc HSb HBb
      have HF0 := Lib.hid HN.out.f0
      clear HG HN
      generalize l.map (went1 [0]) = l2 at *
      have hg1 : goes l2 [1] 0 1 = true := by rw [goes_one]; exact HF0.out.due1 (by omega)
      have hg0 : goes l2 [0] 0 0 = false := by rw [goes_one]; exact HF0.out.due0
      have HG := Lib.hid (And.intro hg1 hg0)
      clear hg0 hg1
      have HAd := Lib.hid (HSc.out.alloc (.cells #[.int .i64 1] 3))
      have HDd := Lib.hid (HBc.out.alloc (HBc.out.size) (.cells #[.int .i64 1] 3))
      have HEd := Lib.hid (HE.out.below HDd.out (Nat.le_refl _))
      have hrowd : Row (uc.alloc (.cells #[.int .i64 1] 3)) 1 (some ⟨uc.heap.size, 0, none⟩) 1 1 (([1] : List Int).map (Value.int .i64)) := row_one _ _ _
      have HWd := Lib.hid (went_pass (E := E) HAd.out.bs (HEd.out.cell 9 (by decide)) (some ⟨uc.heap.size, 0, none⟩) 1 1 [1] hrowd (fun k hk hx => by have e : uc.heap.size = k := Option.some.inj hk; have := (HSc.out.ge k hx).2; omega) (fun j y hj => by rcases j with _ | j; (obtain rfl : (1 : Int) = y := Option.some.inj hj; exact HG.out.1); simp at hj) (fun x hx => by obtain ⟨i, _, _, e1, e2, _⟩ := HF0.out.mem hx; exact ⟨e1, by omega⟩))
      clear hrowd
      go_wp2_with fail
      refine HWd.out.mono ?_
      rintro e ud (⟨-, rfl, hbd⟩ | ⟨h, -⟩)
      case inr => exact absurd (h.symm.trans (HF0.out.any (by omega))) (by decide)
      have HSd := Lib.hid (HAd.out.below hbd (Nat.le_refl _))
      have HBd := Lib.hid (HDd.out.trans (hbd.mono HDd.out.size))
      clear hbd HAd HDd HWd HEd HSc HBc
      have HAe := Lib.hid (HSd.out.alloc (.cells #[.int .i64 0] 3))
      have HDe := Lib.hid (HBd.out.alloc (HBd.out.size) (.cells #[.int .i64 0] 3))
      have HEe := Lib.hid (HE.out.below HDe.out (Nat.le_refl _))
      have hrowe : Row (ud.alloc (.cells #[.int .i64 0] 3)) 1 (some ⟨ud.heap.size, 0, none⟩) 1 1 (([0] : List Int).map (Value.int .i64)) := row_one _ _ _
      have HWe := Lib.hid (went_none (E := E) HAe.out.bs (HEe.out.cell 6 (by decide)) (some ⟨ud.heap.size, 0, none⟩) 1 1 [0] hrowe 0 0 rfl HG.out.2 (fun j y hj hy => by omega))
      clear hrowe
      go_wp2_with fail
      refine HWe.out.mono ?_
      rintro e ue ⟨rfl, hbe⟩
      have HSe := Lib.hid (HAe.out.below hbe (Nat.le_refl _))
      have HBe := Lib.hid (HDe.out.trans (hbe.mono HDe.out.size))
      clear hbe HAe HDe HWe HEe HSd HBd
      have HEg := Lib.hid (HE.out.below HBe.out (Nat.le_refl _))
      have HHg := Lib.hid (show Calls Tryd.prog 19 #[.pointer (some ⟨B, 0, none⟩), .agg #[.int .u8 0, .int .u8 0, .int .u8 0, .int .u8 0, .int .u8 0, .int .u8 0, .int .u8 0, .int .u8 0, .int .u8 0, .int .u8 0, .int .u8 0, .int .u8 0, .int .i64 0, .int .i64 far, .int .u64 18446744073709551615]] ue (fun e w' => e = .returned (.tuple #[.slice none 0 0, errV E 10]) ∧ Below ue.heap.size ue w') from heard_seq (E := E) HSe.out.bs (HEg.out.cell 10 (by decide)) (fun _ => 0) (fun _ => 0) 0 far 18446744073709551615 (HF0.out.any (by omega)) (.inr (.inr (HF0.out.near hf0 hf1))))
      go_wp2_with fail
      refine HHg.out.mono ?_
      rintro e ug ⟨rfl, hbg⟩
      have HSg := Lib.hid (HSe.out.below hbg (Nat.le_refl _))
      have HBg := Lib.hid (HBe.out.trans (hbg.mono HBe.out.size))
      clear hbg HHg HEg HSe HBe
      have HEh := Lib.hid (HE.out.below HBg.out (Nat.le_refl _))
      have HHh := Lib.hid (show Calls Tryd.prog 19 #[.pointer (some ⟨B, 0, none⟩), .agg #[.int .u8 0, .int .u8 0, .int .u8 0, .int .u8 0, .int .u8 0, .int .u8 0, .int .u8 0, .int .u8 0, .int .u8 0, .int .u8 0, .int .u8 0, .int .u8 0, .int .i64 0, .int .i64 4096, .int .u64 0]] ug (fun e w' => e = .returned (.tuple #[.slice none 0 0, errV E 10]) ∧ Below ug.heap.size ug w') from heard_seq (E := E) HSg.out.bs (HEh.out.cell 10 (by decide)) (fun _ => 0) (fun _ => 0) 0 4096 0 (HF0.out.any (by omega)) (.inr (.inl (by decide))))
      go_wp2_with fail
      refine HHh.out.mono ?_
      rintro e uh ⟨rfl, hbh⟩
      have HSh := Lib.hid (HSg.out.below hbh (Nat.le_refl _))
      have HBh := Lib.hid (HBg.out.trans (hbh.mono HBg.out.size))
      clear hbh HHh HEh HSg HBg
      clear HG
      have gf1 : decide (far < 4033) = true := decide_eq_true hf1
      have gf2 : decide (4033 ≤ far) = false := decide_eq_false (by omega)
      have gn := fun w => err_isnil E none w
      simp only [errO] at gn
      have HEi := Lib.hid (HE.out.below HBh.out (Nat.le_refl _))
      have HIi := Lib.hid (is_any HEi.out (some 6) (by intro i h; injection h with h; subst h; decide) 107)
      go_wp2_with fail
      refine HIi.out.mono ?_
      rintro e vi ⟨rfl, hbi⟩
      rw [show (errCode (some 6) == 107) = true by decide]
      have HSi := Lib.hid (HSh.out.below hbi (Nat.le_refl _))
      have HBi := Lib.hid (HBh.out.trans (hbi.mono HBh.out.size))
      clear hbi HEi HIi HSh HBh
      have HEj := Lib.hid (HE.out.below HBi.out (Nat.le_refl _))
      have HIj := Lib.hid (is_any HEj.out (some 6) (by intro i h; injection h with h; subst h; decide) 107)
      go_wp2_with fail
      refine HIj.out.mono ?_
      rintro e vj ⟨rfl, hbj⟩
      rw [show (errCode (some 6) == 107) = true by decide]
      have HSj := Lib.hid (HSi.out.below hbj (Nat.le_refl _))
      have HBj := Lib.hid (HBi.out.trans (hbj.mono HBi.out.size))
      clear hbj HEj HIj HSi HBi
      have HEm := Lib.hid (HE.out.below HBj.out (Nat.le_refl _))
      have HIm := Lib.hid (is_any HEm.out (some 9) (by intro i h; injection h with h; subst h; decide) 110)
      go_wp2_with fail
      refine HIm.out.mono ?_
      rintro e vm ⟨rfl, hbm⟩
      rw [show (errCode (some 9) == 110) = true by decide]
      have HSm := Lib.hid (HSj.out.below hbm (Nat.le_refl _))
      have HBm := Lib.hid (HBj.out.trans (hbm.mono HBj.out.size))
      clear hbm HEm HIm HSj HBj
      have HEo := Lib.hid (HE.out.below HBm.out (Nat.le_refl _))
      have HIo := Lib.hid (is_any HEo.out (some 6) (by intro i h; injection h with h; subst h; decide) 107)
      go_wp2_with fail
      refine HIo.out.mono ?_
      rintro e vo ⟨rfl, hbo⟩
      rw [show (errCode (some 6) == 107) = true by decide]
      have HSo := Lib.hid (HSm.out.below hbo (Nat.le_refl _))
      have HBo := Lib.hid (HBm.out.trans (hbo.mono HBm.out.size))
      clear hbo HEo HIo HSm HBm
      have HEq := Lib.hid (HE.out.below HBo.out (Nat.le_refl _))
      have HIq := Lib.hid (is_any HEq.out (some 10) (by intro i h; injection h with h; subst h; decide) 111)
      go_wp2_with fail
      refine HIq.out.mono ?_
      rintro e vq ⟨rfl, hbq⟩
      rw [show (errCode (some 10) == 111) = true by decide]
      have HSq := Lib.hid (HSo.out.below hbq (Nat.le_refl _))
      have HBq := Lib.hid (HBo.out.trans (hbq.mono HBo.out.size))
      clear hbq HEq HIq HSo HBo
      have HFY := Lib.hid (flying_any HSq.out.bs (by show l2.length ≤ 1000000; rw [HF0.out.len]; omega) (fun x hx => by obtain ⟨i, _, e, _⟩ := HF0.out.mem hx; rw [e]; show (0 : Nat) ≤ 1048576; decide))
      go_wp2_with fail
      refine HFY.out.mono ?_
      rintro e x1 ⟨A14, n14, C14, L14, rfl, ho14, hm14, hb14⟩
      obtain rfl : n14 = 1 := by
        have h1 := ho14.len
        have h2 := congrArg List.length hm14
        rw [List.length_map, List.length_map] at h2
        have h4 : L14.length = 1 := h2.trans (HF0.out.flying (by omega))
        omega
      have HSr := Lib.hid (HSq.out.below hb14 (Nat.le_refl _))
      have HBr := Lib.hid (HBq.out.trans (hb14.mono HBq.out.size))
      clear ho14 hm14 hb14 HFY HSq HBq
      have HEs := Lib.hid (HE.out.below HBr.out (Nat.le_refl _))
      have HIs := Lib.hid (is_any HEs.out (some 10) (by intro i h; injection h with h; subst h; decide) 111)
      go_wp2_with fail
      refine HIs.out.mono ?_
      rintro e vs ⟨rfl, hbs⟩
      rw [show (errCode (some 10) == 111) = true by decide]
      have HSs := Lib.hid (HSr.out.below hbs (Nat.le_refl _))
      have HBs := Lib.hid (HBr.out.trans (hbs.mono HBr.out.size))
      clear hbs HEs HIs HSr HBr
      go_wp2_with fail
      go_ret
      exact ⟨rfl, HBs.out⟩
end Go.Proofs.YthjjneanabnjoaaDoor
