/-
  BaLives: the walk.
-/
import Derived.Test.YthjjneanabnjoaaDoorBaLaw
import Derived.Test.YthjjneanabnjoaaDoorNumber
namespace Go.Proofs.YthjjneanabnjoaaDoor
open Go.ChangeShapes Go.WideShapes Go.ChangeAt Go.RowKit
set_option linter.unusedVariables false

/-- the session of one frame -/
def livS (L : Int) (A : Option Addr) (C : Nat) : BS := freshS (newS 4 3 L) (pk 5) 100 A C
def livX (L : Int) (fly : Bool) (A : Option Addr) (C : Nat) : Fm := ⟨⟨5, 0, 0, 0, [], 0, if fly then 1 else 0, 100 + L⟩, fly, A, C⟩
def livG (L : Int) (fly : Bool) (A : Option Addr) (C : Nat) : BS := ⟨⟨0, 1, 1, [0]⟩, 4, 3, L, 1, 0, [livX L fly A C], false, 0⟩
theorem liv_why (L t : Int) (fly : Bool) (x : Fm) (h1 : x.fl = fly) (h2 : x.m.sent ≤ 3) (h3 : x.m.unt = 100 + L) : whyP 3 (100 + t) x = if (decide (t > L) && !fly) = true then 4 else 0 := by
  unfold whyP
  rw [h1, h3, if_neg (show ¬ x.m.sent > 3 by omega)]
  cases fly
  · by_cases h : t > L
    · rw [if_neg (by decide), if_pos (by omega), if_pos (by simp [h])]
    · rw [if_neg (by decide), if_neg (by omega), if_neg (by simp [h])]
  · simp

set_option maxRecDepth 100000 in
set_option maxHeartbeats 6400000 in
theorem baLives_walk (w : World) {E : Nat → Addr} (hE : Errs [2, 6, 8, 9] w E) (a0 : Int) (w0 : (Lit.int .i64 a0).wf = true) (a1 : Int) (w1 : (Lit.int .i64 a1).wf = true) (fly : Bool) :
    Calls Tryd.prog 3 #[.int .i64 a0, .int .i64 a1, .bool fly] w fun e w' => e = .returned (.bool true) ∧ Below w.heap.size w w' := by
  obtain ⟨x0, x1⟩ := bounds_i64 w0
  obtain ⟨y0, y1⟩ := bounds_i64 w1
  have NL := Lib.hid (fun w => number_any a0 1000 w (by decide) (by decide) x0 x1)
  have NT := Lib.hid (fun w => number_any a1 2000 w (by decide) (by decide) y0 y1)
  have l0 := Int.emod_nonneg a0 (show (1000 : Int) ≠ 0 by omega)
  have l1 := Int.emod_lt_of_pos a0 (show (0 : Int) < 1000 by omega)
  have t0 := Int.emod_nonneg a1 (show (2000 : Int) ≠ 0 by omega)
  have t1 := Int.emod_lt_of_pos a1 (show (0 : Int) < 2000 by omega)
  generalize a0 % 1000 = L0 at *
  generalize a1 % 2000 = T at *
  clear w0 w1 x0 x1 y0 y1
  have HE := Lib.hid hE
  clear hE
  go_enter Tryd.func3, Tryd.ntmps3
  go_wp2_with fail
  refine (bfirst_any w).mono ?_
  rintro e w1 ⟨rfl, hb1⟩
  have HB1 := Lib.hid hb1
  have z1 := hb1.size
  clear hb1
  go_wp2_with fail
  refine (NL.out w1).mono ?_
  rintro e wq ⟨rfl, rfl⟩
  obtain ⟨L, hL⟩ : ∃ L, L0 + 1 = L := ⟨_, rfl⟩
  have q1 : IntKind.i64.wrap (L0 + 1) = L := by rw [hL]; exact IntWalk.i64_in _ (by omega)
  have b0 : 1 ≤ L := by omega
  have b1 : L ≤ 1000 := by omega
  clear hL l0 l1
  go_wp2_with fail
  refine (NT.out w1).mono ?_
  rintro e wq ⟨rfl, rfl⟩
  go_wp2_with fail
  refine (bnew_ok 4 3 L w1 (by decide) (by decide) (by decide) (by decide) b0 (by omega)).mono ?_
  rintro e w2 hnew
  obtain ⟨B, p, rfl, hS2, hb2⟩ := ss_new hnew
  have HS2 := Lib.hid hS2
  have HB2 := Lib.hid (HB1.out.trans (hb2.mono z1))
  clear hS2 hb2 hnew
  go_wp2_with fail
  refine (fresh_ok HS2.out.bs HS2.out.bas (pk 5) none 0 100 (pk_row _ _) (by decide) (by show (1 : Int) ≠ 2; decide) rfl (by show (0 : Int) ≤ 1; decide) (by show (1 : Int) ≤ 1000000; decide) (by show ¬ room ⟨0, 0, 1, []⟩ = 0; decide) (by show 0 ≤ 1000000; decide) (by show 0 ≤ 1000000; decide) (by decide) ⟨by show 0 ≤ L; omega, by show L ≤ 1125899906842624; omega⟩ (fun k hk => by cases hk)).mono ?_
  rintro e w3 ⟨A2, C2, A3, C3, rfl, ho3, hs3⟩
  obtain ⟨p3, hS3, hb3, -, -⟩ := HS2.out.step hs3
  have HS3 := Lib.hid hS3
  have HB3 := Lib.hid (HB2.out.trans (hb3.mono z1))
  have z3 := HB3.out.size
  have HE3 := Lib.hid (HE.out.below HB3.out (Nat.le_refl _))
  clear hS3 hb3 hs3 ho3 HS2 HB2
  have e7 : mpA (freshM (newS 4 3 L) (pk 5) 100) A3 C3 = #[.int .i64 5, .int .u32 0, .int .i64 0, .int .i64 0, .slice A3 0 C3, .int .i64 0, .int .i64 0, .int .i64 (100 + L)] := rfl
  rw [e7]
  clear e7
  have wl : IntKind.i64.wrap (100 + L) = 100 + L := IntWalk.i64_in _ (by omega)
  have wt : IntKind.i64.wrap (100 + T) = 100 + T := IntWalk.i64_in _ (by omega)
--TAIL
  cases fly with
  | true =>
    go_wp2_with fail
    have HV := Lib.hid ((HS3.out.alloc (.cells #[.int .i64 5, .int .u32 0, .int .i64 0, .int .i64 0, .slice A3 0 C3, .int .i64 0, .int .i64 0, .int .i64 (100 + L)] 34)).alloc (.cells #[.int .i64 0] 3))
    have HVB := Lib.hid ((HB3.out.alloc z3 (.cells #[.int .i64 5, .int .u32 0, .int .i64 0, .int .i64 0, .slice A3 0 C3, .int .i64 0, .int .i64 0, .int .i64 (100 + L)] 34)).alloc (by simp; omega) (.cells #[.int .i64 0] 3))
    have HVE := Lib.hid ((HE3.out.alloc (.cells #[.int .i64 5, .int .u32 0, .int .i64 0, .int .i64 0, .slice A3 0 C3, .int .i64 0, .int .i64 0, .int .i64 (100 + L)] 34)).alloc (.cells #[.int .i64 0] 3))
    have hrow := row_int1' (w3.alloc (.cells #[.int .i64 5, .int .u32 0, .int .i64 0, .int .i64 0, .slice A3 0 C3, .int .i64 0, .int .i64 0, .int .i64 (100 + L)] 34)) 0 3 (w3.heap.size + 1) (by simp)
    have hok : ∀ (j : Nat) (y : Int), [(0 : Int)][j]? = some y → goes (freshS (newS 4 3 L) (pk 5) 100 A2 C2).l [0] j y = true := by
      intro j y hj
      rcases j with _ | j
      · have e : (0 : Int) = y := Option.some.inj hj
        subst e; rfl
      · simp at hj
    have HWT := Lib.hid (went_pass HV.out.bs (HVE.out.cell 9 (by decide)) (some ⟨w3.heap.size + 1, 0, none⟩) 1 1 [0] hrow (fun k hk hx => by have e : w3.heap.size + 1 = k := Option.some.inj hk; have := (HS3.out.ge k hx).2; omega) hok (fun x hx => by have e := List.mem_singleton.1 hx; subst e; exact ⟨by show (0 : Int) ≤ 0; decide, by show (0 : Int) ≤ 1000000; decide⟩))
    clear hok
    clear hrow
    refine HWT.out.mono ?_
    rintro e w4 (⟨h, -⟩ | ⟨-, rfl, hs4⟩)
    · exact absurd h (by show ¬ (false = true); decide)
    obtain ⟨p4, hS4, hb4, -, -⟩ := HV.out.step hs4
    have HS4 : Hid (Ss w4 w1.heap.size B p4 (livG L true A2 C2)) := Lib.hid hS4
    have HB4 := Lib.hid (HVB.out.trans (hb4.mono z1))
    clear hS4 hb4 hs4 HWT HV HVB HVE HS3
    by_cases hg : L < T
    case pos =>
      have gl : decide (L < T) = true := decide_eq_true hg
      go_wp2_with fail
      have zs := HB4.out.size
      have HSW := Lib.hid (sweep_any HS4.out.bs HS4.out.hB HS4.out.hW (100 + T) (by show (1 : Nat) ≤ 1000000; decide) (fun x hx => by have := List.mem_singleton.1 hx; subst this; show (0 : Nat) ≤ 1048576; decide) rfl (List.nodup_cons.2 ⟨by simp, List.nodup_nil⟩) rfl)
      refine HSW.out.mono ?_
      rintro e w5 ⟨A5, n5, C5, L5, A6, n6, C6, rfl, ho5, hm5, hi5, hs5⟩
      obtain ⟨p5, hS5, hb5, -, -⟩ := HS4.out.step hs5
      have hgo : (livG L true A2 C2).l.map (whyP 3 (100 + T)) = [0] := by
        show [whyP 3 (100 + T) _] = _
        rw [liv_why L T true _ rfl (by show (if true then (1 : Int) else 0) ≤ 3; decide) rfl, if_neg (by simp; try omega)]
      have hwh : whyP 3 (100 + T) (livX L true A2 C2) = 0 := List.head_eq_of_cons_eq hgo
      have hgp : goneP 3 (100 + T) (livX L true A2 C2) = false := by unfold goneP; rw [hwh]; rfl
      have ho5' : whysP (livG L true A2 C2) (100 + T) = [] := by unfold whysP; rw [show (livG L true A2 C2).retry = 3 from rfl, hgo]; rfl
      rw [ho5'] at hi5
      have hm5' : L5.map (·.m) = [] := by
        rw [hm5]; show ([livX L true A2 C2].filter (goneP 3 (100 + T))).map (·.m) = _
        rw [List.filter_cons, hgp]; rfl
      obtain rfl : n5 = 0 := by have h1 := ho5.len; have h2 := congrArg List.length hm5'; simp at h2; first | omega | (subst h2; simpa using h1.symm)
      obtain rfl : n6 = 0 := by have h1 := hi5.len; simpa using h1.symm
      have hst : sweepS (livG L true A2 C2) (100 + T) = takeS (livG L true A2 C2) (goneP 3 (100 + T)) := by unfold sweepS; rw [if_neg (fun h => absurd h.2.1 (by show ¬ (1 : Int) = 3; decide))]; rfl
      rw [hst] at hS5
      have hwn : (takeS (livG L true A2 C2) (goneP 3 (100 + T))).w = ⟨0, 1, 1, [0]⟩ := by
        show takeW _ _ = _
        unfold takeW
        rw [show (livG L true A2 C2).l.filter (fun x => !goneP 3 (100 + T) x) = [livX L true A2 C2] by show [livX L true A2 C2].filter _ = _; rw [List.filter_cons, hgp]; rfl]
        rfl
      have HS5 := Lib.hid hS5
      have HB5 := Lib.hid (HB4.out.trans (hb5.mono z1))
      have HWN := Lib.hid hwn
      have HO5 := Lib.hid ho5
      have HM5 := Lib.hid hm5'
      have HI5 := Lib.hid hi5
      clear hS5 hb5 hgo hwh hgp ho5' hm5 hm5' hi5 ho5 hst hs5 hwn
      go_wp2_with fail
      refine (bar_no HS5.out.bs rfl).mono ?_
      rintro e wq ⟨rfl, rfl⟩
      go_wp2_with fail
      refine (broom_any HS5.out.bs (by rw [HWN.out]; decide) (by rw [HWN.out]; decide)).mono ?_
      rintro e w6 ⟨rfl, n, rfl⟩
      rw [HWN.out, show room ⟨0, 1, 1, [0]⟩ = 0 by decide]
      go_wp2_with fail
      refine (number_any 0 2 _ (by decide) (by decide) (by decide) (by decide)).mono ?_
      rintro e wq ⟨rfl, rfl⟩
      rw [show (0 : Int) % 2 = 0 by decide]
      go_wp2_with fail
      go_ret
      exact ⟨rfl, HB5.out.trans (below_drewN n)⟩
    case neg =>
      have gl : decide (L < T) = false := decide_eq_false hg
      go_wp2_with fail
      have zs := HB4.out.size
      have HSW := Lib.hid (sweep_any HS4.out.bs HS4.out.hB HS4.out.hW (100 + T) (by show (1 : Nat) ≤ 1000000; decide) (fun x hx => by have := List.mem_singleton.1 hx; subst this; show (0 : Nat) ≤ 1048576; decide) rfl (List.nodup_cons.2 ⟨by simp, List.nodup_nil⟩) rfl)
      refine HSW.out.mono ?_
      rintro e w5 ⟨A5, n5, C5, L5, A6, n6, C6, rfl, ho5, hm5, hi5, hs5⟩
      obtain ⟨p5, hS5, hb5, -, -⟩ := HS4.out.step hs5
      have hgo : (livG L true A2 C2).l.map (whyP 3 (100 + T)) = [0] := by
        show [whyP 3 (100 + T) _] = _
        rw [liv_why L T true _ rfl (by show (if true then (1 : Int) else 0) ≤ 3; decide) rfl, if_neg (by simp; try omega)]
      have hwh : whyP 3 (100 + T) (livX L true A2 C2) = 0 := List.head_eq_of_cons_eq hgo
      have hgp : goneP 3 (100 + T) (livX L true A2 C2) = false := by unfold goneP; rw [hwh]; rfl
      have ho5' : whysP (livG L true A2 C2) (100 + T) = [] := by unfold whysP; rw [show (livG L true A2 C2).retry = 3 from rfl, hgo]; rfl
      rw [ho5'] at hi5
      have hm5' : L5.map (·.m) = [] := by
        rw [hm5]; show ([livX L true A2 C2].filter (goneP 3 (100 + T))).map (·.m) = _
        rw [List.filter_cons, hgp]; rfl
      obtain rfl : n5 = 0 := by have h1 := ho5.len; have h2 := congrArg List.length hm5'; simp at h2; first | omega | (subst h2; simpa using h1.symm)
      obtain rfl : n6 = 0 := by have h1 := hi5.len; simpa using h1.symm
      have hst : sweepS (livG L true A2 C2) (100 + T) = takeS (livG L true A2 C2) (goneP 3 (100 + T)) := by unfold sweepS; rw [if_neg (fun h => absurd h.2.1 (by show ¬ (1 : Int) = 3; decide))]; rfl
      rw [hst] at hS5
      have hwn : (takeS (livG L true A2 C2) (goneP 3 (100 + T))).w = ⟨0, 1, 1, [0]⟩ := by
        show takeW _ _ = _
        unfold takeW
        rw [show (livG L true A2 C2).l.filter (fun x => !goneP 3 (100 + T) x) = [livX L true A2 C2] by show [livX L true A2 C2].filter _ = _; rw [List.filter_cons, hgp]; rfl]
        rfl
      have HS5 := Lib.hid hS5
      have HB5 := Lib.hid (HB4.out.trans (hb5.mono z1))
      have HWN := Lib.hid hwn
      have HO5 := Lib.hid ho5
      have HM5 := Lib.hid hm5'
      have HI5 := Lib.hid hi5
      clear hS5 hb5 hgo hwh hgp ho5' hm5 hm5' hi5 ho5 hst hs5 hwn
      go_wp2_with fail
      refine (bar_no HS5.out.bs rfl).mono ?_
      rintro e wq ⟨rfl, rfl⟩
      go_wp2_with fail
      refine (broom_any HS5.out.bs (by rw [HWN.out]; decide) (by rw [HWN.out]; decide)).mono ?_
      rintro e w6 ⟨rfl, n, rfl⟩
      rw [HWN.out, show room ⟨0, 1, 1, [0]⟩ = 0 by decide]
      go_wp2_with fail
      refine (number_any 0 2 _ (by decide) (by decide) (by decide) (by decide)).mono ?_
      rintro e wq ⟨rfl, rfl⟩
      rw [show (0 : Int) % 2 = 0 by decide]
      go_wp2_with fail
      go_ret
      exact ⟨rfl, HB5.out.trans (below_drewN n)⟩
  | false =>
    have HS4 : Hid (Ss w3 w1.heap.size B p3 (livG L false A2 C2)) := HS3
    have HS5 := Lib.hid (HS4.out.alloc (.cells #[.int .i64 5, .int .u32 0, .int .i64 0, .int .i64 0, .slice A3 0 C3, .int .i64 0, .int .i64 0, .int .i64 (100 + L)] 34))
    have HB4 := Lib.hid (HB3.out.alloc z3 (.cells #[.int .i64 5, .int .u32 0, .int .i64 0, .int .i64 0, .slice A3 0 C3, .int .i64 0, .int .i64 0, .int .i64 (100 + L)] 34))
    by_cases hg : L < T
    case pos =>
      have gl : decide (L < T) = true := decide_eq_true hg
      go_wp2_with fail
      have zs := HB4.out.size
      have HSW := Lib.hid (sweep_any HS5.out.bs HS5.out.hB HS5.out.hW (100 + T) (by show (1 : Nat) ≤ 1000000; decide) (fun x hx => by have := List.mem_singleton.1 hx; subst this; show (0 : Nat) ≤ 1048576; decide) rfl (List.nodup_cons.2 ⟨by simp, List.nodup_nil⟩) rfl)
      refine HSW.out.mono ?_
      rintro e w5 ⟨A5, n5, C5, L5, A6, n6, C6, rfl, ho5, hm5, hi5, hs5⟩
      obtain ⟨p5, hS5, hb5, -, -⟩ := HS5.out.step hs5
      have hgo : (livG L false A2 C2).l.map (whyP 3 (100 + T)) = [4] := by
        show [whyP 3 (100 + T) _] = _
        rw [liv_why L T false _ rfl (by show (if false then (1 : Int) else 0) ≤ 3; decide) rfl, if_pos (by simp; omega)]
      have hwh : whyP 3 (100 + T) (livX L false A2 C2) = 4 := List.head_eq_of_cons_eq hgo
      have hgp : goneP 3 (100 + T) (livX L false A2 C2) = true := by unfold goneP; rw [hwh]; rfl
      have ho5' : whysP (livG L false A2 C2) (100 + T) = [4] := by unfold whysP; rw [show (livG L false A2 C2).retry = 3 from rfl, hgo]; rfl
      rw [ho5'] at hi5
      have hm5' : L5.map (·.m) = [(livX L false A2 C2).m] := by
        rw [hm5]; show ([livX L false A2 C2].filter (goneP 3 (100 + T))).map (·.m) = _
        rw [List.filter_cons, hgp]; rfl
      obtain rfl : n5 = 1 := by have h1 := ho5.len; have h2 := congrArg List.length hm5'; simp at h2; first | omega | (subst h2; simpa using h1.symm)
      obtain rfl : n6 = 1 := by have h1 := hi5.len; simpa using h1.symm
      have hst : sweepS (livG L false A2 C2) (100 + T) = takeS (livG L false A2 C2) (goneP 3 (100 + T)) := by unfold sweepS; rw [if_neg (fun h => absurd h.2.1 (by show ¬ (1 : Int) = 3; decide))]; rfl
      rw [hst] at hS5
      have hwn : (takeS (livG L false A2 C2) (goneP 3 (100 + T))).w = ⟨1, 1, 1, []⟩ := by
        show takeW _ _ = _
        unfold takeW
        rw [show (livG L false A2 C2).l.filter (fun x => !goneP 3 (100 + T) x) = [] by show [livX L false A2 C2].filter _ = _; rw [List.filter_cons, hgp]; rfl]
        rfl
      have HS5 := Lib.hid hS5
      have HB5 := Lib.hid (HB4.out.trans (hb5.mono z1))
      have HWN := Lib.hid hwn
      have HO5 := Lib.hid ho5
      have HM5 := Lib.hid hm5'
      have HI5 := Lib.hid hi5
      clear hS5 hb5 hgo hwh hgp ho5' hm5 hm5' hi5 ho5 hst hs5 hwn
      obtain ⟨g5, rfl, _, _, _, hat5⟩ := HO5.out.at_ (by decide)
      obtain ⟨x5, rfl⟩ : ∃ x5, L5 = [x5] := by have := HO5.out.len; match L5, this with | [x], _ => exact ⟨x, rfl⟩
      have hx5 : x5.m.id = 5 := by have := HM5.out; simp only [List.map_cons, List.map_nil, List.cons.injEq, and_true] at this; rw [this]; rfl
      have f0 : w5.cell? ⟨g5, 0, none⟩ = some (.int .i64 5) := by have := hat5 0 x5 rfl 0 _ rfl; rw [hx5] at this; exact this
      obtain ⟨g6, rfl, _, _, _, hat6, _⟩ := HI5.out.open_ (by decide)
      have f1 : w5.cell? ⟨g6, 0, none⟩ = some (.int .i64 4) := hat6 0 4 rfl
      clear hat5 hat6 hx5
      go_wp2_with fail
      refine (bar_no HS5.out.bs rfl).mono ?_
      rintro e wq ⟨rfl, rfl⟩
      go_wp2_with fail
      refine (broom_any HS5.out.bs (by rw [HWN.out]; decide) (by rw [HWN.out]; decide)).mono ?_
      rintro e w6 ⟨rfl, n, rfl⟩
      rw [HWN.out, show room ⟨1, 1, 1, []⟩ = 1 by decide]
      go_wp2_with fail
      refine (number_any 1 2 _ (by decide) (by decide) (by decide) (by decide)).mono ?_
      rintro e wq ⟨rfl, rfl⟩
      rw [show (1 : Int) % 2 = 1 by decide]
      go_wp2_with fail
      go_ret
      exact ⟨rfl, HB5.out.trans (below_drewN n)⟩
    case neg =>
      have gl : decide (L < T) = false := decide_eq_false hg
      go_wp2_with fail
      have zs := HB4.out.size
      have HSW := Lib.hid (sweep_any HS5.out.bs HS5.out.hB HS5.out.hW (100 + T) (by show (1 : Nat) ≤ 1000000; decide) (fun x hx => by have := List.mem_singleton.1 hx; subst this; show (0 : Nat) ≤ 1048576; decide) rfl (List.nodup_cons.2 ⟨by simp, List.nodup_nil⟩) rfl)
      refine HSW.out.mono ?_
      rintro e w5 ⟨A5, n5, C5, L5, A6, n6, C6, rfl, ho5, hm5, hi5, hs5⟩
      obtain ⟨p5, hS5, hb5, -, -⟩ := HS5.out.step hs5
      have hgo : (livG L false A2 C2).l.map (whyP 3 (100 + T)) = [0] := by
        show [whyP 3 (100 + T) _] = _
        rw [liv_why L T false _ rfl (by show (if false then (1 : Int) else 0) ≤ 3; decide) rfl, if_neg (by simp; try omega)]
      have hwh : whyP 3 (100 + T) (livX L false A2 C2) = 0 := List.head_eq_of_cons_eq hgo
      have hgp : goneP 3 (100 + T) (livX L false A2 C2) = false := by unfold goneP; rw [hwh]; rfl
      have ho5' : whysP (livG L false A2 C2) (100 + T) = [] := by unfold whysP; rw [show (livG L false A2 C2).retry = 3 from rfl, hgo]; rfl
      rw [ho5'] at hi5
      have hm5' : L5.map (·.m) = [] := by
        rw [hm5]; show ([livX L false A2 C2].filter (goneP 3 (100 + T))).map (·.m) = _
        rw [List.filter_cons, hgp]; rfl
      obtain rfl : n5 = 0 := by have h1 := ho5.len; have h2 := congrArg List.length hm5'; simp at h2; first | omega | (subst h2; simpa using h1.symm)
      obtain rfl : n6 = 0 := by have h1 := hi5.len; simpa using h1.symm
      have hst : sweepS (livG L false A2 C2) (100 + T) = takeS (livG L false A2 C2) (goneP 3 (100 + T)) := by unfold sweepS; rw [if_neg (fun h => absurd h.2.1 (by show ¬ (1 : Int) = 3; decide))]; rfl
      rw [hst] at hS5
      have hwn : (takeS (livG L false A2 C2) (goneP 3 (100 + T))).w = ⟨0, 1, 1, [0]⟩ := by
        show takeW _ _ = _
        unfold takeW
        rw [show (livG L false A2 C2).l.filter (fun x => !goneP 3 (100 + T) x) = [livX L false A2 C2] by show [livX L false A2 C2].filter _ = _; rw [List.filter_cons, hgp]; rfl]
        rfl
      have HS5 := Lib.hid hS5
      have HB5 := Lib.hid (HB4.out.trans (hb5.mono z1))
      have HWN := Lib.hid hwn
      have HO5 := Lib.hid ho5
      have HM5 := Lib.hid hm5'
      have HI5 := Lib.hid hi5
      clear hS5 hb5 hgo hwh hgp ho5' hm5 hm5' hi5 ho5 hst hs5 hwn
      go_wp2_with fail
      refine (bar_no HS5.out.bs rfl).mono ?_
      rintro e wq ⟨rfl, rfl⟩
      go_wp2_with fail
      refine (broom_any HS5.out.bs (by rw [HWN.out]; decide) (by rw [HWN.out]; decide)).mono ?_
      rintro e w6 ⟨rfl, n, rfl⟩
      rw [HWN.out, show room ⟨0, 1, 1, [0]⟩ = 0 by decide]
      go_wp2_with fail
      refine (number_any 0 2 _ (by decide) (by decide) (by decide) (by decide)).mono ?_
      rintro e wq ⟨rfl, rfl⟩
      rw [show (0 : Int) % 2 = 0 by decide]
      go_wp2_with fail
      go_ret
      exact ⟨rfl, HB5.out.trans (below_drewN n)⟩
end Go.Proofs.YthjjneanabnjoaaDoor
