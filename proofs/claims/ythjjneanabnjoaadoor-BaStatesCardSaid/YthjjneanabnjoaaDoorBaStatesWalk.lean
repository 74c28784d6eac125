/-
  BaStates: the walk.
-/
import Derived.Test.YthjjneanabnjoaaDoorBaHearsPlain
import Derived.Test.YthjjneanabnjoaaDoorSee
import Derived.Test.YthjjneanabnjoaaDoorNumber
namespace Go.Proofs.YthjjneanabnjoaaDoor
open Go.ChangeShapes Go.WideShapes Go.ChangeAt Go.RowKit
set_option linter.unusedVariables false

/-- the session of one frame -/
def staX (fly : Bool) (A : Option Addr) (C : Nat) : Fm := ⟨⟨0, 0, 0, 0, [], 0, if fly then 1 else 0, 100⟩, fly, A, C⟩
def staG (fly : Bool) (A : Option Addr) (C : Nat) : BS := ⟨⟨0, 1, 1, [0]⟩, 20, 3, 100, 1, 0, [staX fly A C], false, 0⟩
def sta0 (state token sz : Int) : BS := ⟨⟨1, 1, sz, []⟩, 20, 3, 100, state, token, [], false, 0⟩
theorem sta_ack (A : Option Addr) (C : Nat) : ackP 0 1 (staX true A C) = true := by simp [ackP, nearP, staX]
theorem sta_heard (A : Option Addr) (C : Nat) : heardS (staG true A C) 0 1 = sta0 1 0 1 := by
  have h1 : (staG true A C).l.filter (fun x => !ackP 0 1 x) = [] := by
    show [staX true A C].filter _ = _
    rw [List.filter_cons, sta_ack]; rfl
  unfold heardS landS takeS takeW
  rw [h1]; rfl
theorem sta_got (A : Option Addr) (C : Nat) : ((staG true A C).l.filter (ackP 0 1)).map (·.m) = [(staX true A C).m] := by
  show ([staX true A C].filter _).map _ = _
  rw [List.filter_cons, sta_ack]; rfl
theorem sta_room {z : Int} (h : 0 ≤ z) : room ⟨1, 1, z, []⟩ = z := by
  show max (z - (1 - 1) % 4096) 0 = z
  omega

set_option maxRecDepth 100000 in
set_option maxHeartbeats 12800000 in
theorem baStates_walk (w : World) {E : Nat → Addr} (hE : Errs allErr w E) (a0 : Int) (w0 : (Lit.int .i64 a0).wf = true) (a1 : Int) (w1 : (Lit.int .i64 a1).wf = true) (a2 : Int) (w2 : (Lit.int .i64 a2).wf = true) (a3 : Int) (w3 : (Lit.int .i64 a3).wf = true) :
    Calls Tryd.prog 6 #[.int .i64 a0, .int .i64 a1, .int .i64 a2, .int .i64 a3] w fun e w' => e = .returned (.bool true) ∧ Below w.heap.size w w' := by
  obtain ⟨x0, x1⟩ := bounds_i64 w0
  obtain ⟨y0, y1⟩ := bounds_i64 w1
  obtain ⟨u0, u1⟩ := bounds_i64 w2
  obtain ⟨v0, v1⟩ := bounds_i64 w3
  have NT := Lib.hid (fun w => number_any a0 256 w (by decide) (by decide) x0 x1)
  have NO := Lib.hid (fun w => number_any a1 256 w (by decide) (by decide) y0 y1)
  have NS := Lib.hid (fun w => number_any a2 2 w (by decide) (by decide) u0 u1)
  have NZ := Lib.hid (fun w => number_any a3 100 w (by decide) (by decide) v0 v1)
  have t0 := Int.emod_nonneg a0 (show (256 : Int) ≠ 0 by omega)
  have t1 := Int.emod_lt_of_pos a0 (show (0 : Int) < 256 by omega)
  have s0 := Int.emod_nonneg a2 (show (2 : Int) ≠ 0 by omega)
  have s1 := Int.emod_lt_of_pos a2 (show (0 : Int) < 2 by omega)
  have z0 := Int.emod_nonneg a3 (show (100 : Int) ≠ 0 by omega)
  have z1' := Int.emod_lt_of_pos a3 (show (0 : Int) < 100 by omega)
  generalize a0 % 256 = tk at *
  generalize a1 % 256 = ot at *
  generalize a2 % 2 = sts at *
  generalize a3 % 100 = sz at *
  clear w0 w1 w2 w3 x0 x1 y0 y1 u0 u1 v0 v1
  have HR := Lib.hid (And.intro (And.intro t0 t1) (And.intro (And.intro s0 s1) (And.intro z0 z1')))
  clear t0 t1 s0 s1 z0 z1'
  have HE := Lib.hid hE
  clear hE
  go_enter Tryd.func6, Tryd.ntmps6
  go_wp2_with fail
  refine (bfirst_any w).mono ?_
  rintro e w1 ⟨rfl, hb1⟩
  have HB1 := Lib.hid hb1
  have z1 := hb1.size
  clear hb1
  go_wp2_with fail
  refine (NT.out w1).mono ?_
  rintro e wq ⟨rfl, rfl⟩
  go_wp2_with fail
  refine (NO.out w1).mono ?_
  rintro e wq ⟨rfl, rfl⟩
  go_wp2_with fail
  refine (NS.out w1).mono ?_
  rintro e wq ⟨rfl, rfl⟩
  go_wp2_with fail
  refine (NZ.out w1).mono ?_
  rintro e wq ⟨rfl, rfl⟩
  clear NT NO NS NZ
  go_wp2_with fail
  refine (bnew_ok 20 3 100 w1 (by decide) (by decide) (by decide) (by decide) (by decide) (by decide)).mono ?_
  rintro e w2 hnew
  obtain ⟨B, p, rfl, hS2, hb2⟩ := ss_new hnew
  have HSa := Lib.hid hS2
  have HBa := Lib.hid (HB1.out.trans (hb2.mono z1))
  clear hS2 hb2 hnew HB1
  have HEk1 := Lib.hid (HE.out.below HBa.out (Nat.le_refl _))
  have HXk1 := Lib.hid (end_state (E := E) HSa.out.bs (HEk1.out.cell 9 (by decide)) (.inl rfl))
  go_wp2_with fail
  refine HXk1.out.mono ?_
  rintro e wq ⟨rfl, rfl⟩
  clear HXk1 HEk1
  have HEk2 := Lib.hid (HE.out.below HBa.out (Nat.le_refl _))
  have HIk2 := Lib.hid (is_any HEk2.out (some 9) (by intro i h; injection h with h; subst h; decide) 110)
  go_wp2_with fail
  refine HIk2.out.mono ?_
  rintro e vk2 ⟨rfl, hbk2⟩
  rw [show (errCode (some 9) == 110) = true by decide]
  clear HIk2 HEk2
  have HSk2 := Lib.hid (HSa.out.below hbk2 (Nat.le_refl _))
  have HBk2 := Lib.hid (HBa.out.trans (hbk2.mono HBa.out.size))
  clear hbk2 HSa HBa
  have HEk3 := Lib.hid (HE.out.below HBk2.out (Nat.le_refl _))
  have HXk3 := Lib.hid (answer_state (E := E) HSk2.out.bs (HEk3.out.cell 9 (by decide)) 0 0 0 (.inl (by show (1 : Int) ≠ 2; decide)))
  go_wp2_with fail
  refine HXk3.out.mono ?_
  rintro e wq ⟨rfl, rfl⟩
  clear HXk3 HEk3
  have HEk4 := Lib.hid (HE.out.below HBk2.out (Nat.le_refl _))
  have HIk4 := Lib.hid (is_any HEk4.out (some 9) (by intro i h; injection h with h; subst h; decide) 110)
  go_wp2_with fail
  refine HIk4.out.mono ?_
  rintro e vk4 ⟨rfl, hbk4⟩
  rw [show (errCode (some 9) == 110) = true by decide]
  clear HIk4 HEk4
  have HSk4 := Lib.hid (HSk2.out.below hbk4 (Nat.le_refl _))
  have HBk4 := Lib.hid (HBk2.out.trans (hbk4.mono HBk2.out.size))
  clear hbk4 HSk2 HBk2
  have HEk5 := Lib.hid (HE.out.below HBk4.out (Nat.le_refl _))
  have HF := Lib.hid (fresh_ok HSk4.out.bs HSk4.out.bas (pk 0) none 0 0 (pk_row _ _) (by decide) (by show (1 : Int) ≠ 2; decide) rfl (by show (0 : Int) ≤ 1; decide) (by show (1 : Int) ≤ 1000000; decide) (by show ¬ room ⟨0, 0, 1, []⟩ = 0; decide) (by show 0 ≤ 1000000; decide) (by show 0 ≤ 1000000; decide) (by decide) ⟨by show (0 : Int) ≤ 100; decide, by show (100 : Int) ≤ 1125899906842624; decide⟩ (fun k hk => by cases hk))
  go_wp2_with fail
  refine HF.out.mono ?_
  rintro e w5 ⟨A2, C2, A3, C3, rfl, ho3, hs5⟩
  clear HF ho3 HEk5
  obtain ⟨pk5, hSk5, hbk5, -, -⟩ := HSk4.out.step hs5
  have HSk5 : Hid (Ss w5 w1.heap.size B pk5 (staG false A2 C2)) := Lib.hid (by exact hSk5)
  have HBk5 := Lib.hid (HBk4.out.trans (hbk5.mono z1))
  clear hs5 hSk5 hbk5 HSk4 HBk4
  have e7 : mpA (freshM (newS 20 3 100) (pk 0) 0) A3 C3 = #[.int .i64 0, .int .u32 0, .int .i64 0, .int .i64 0, .slice A3 0 C3, .int .i64 0, .int .i64 0, .int .i64 100] := rfl
  rw [e7]
  clear e7
  have HSk6 := Lib.hid (HSk5.out.alloc (.cells #[.int .i64 0, .int .u32 0, .int .i64 0, .int .i64 0, .slice A3 0 C3, .int .i64 0, .int .i64 0, .int .i64 100] 34))
  have HBk6 := Lib.hid (HBk5.out.alloc (HBk5.out.size) (.cells #[.int .i64 0, .int .u32 0, .int .i64 0, .int .i64 0, .slice A3 0 C3, .int .i64 0, .int .i64 0, .int .i64 100] 34))
  clear HSk5 HBk5
  have HEk7 := Lib.hid (HE.out.below HBk6.out (Nat.le_refl _))
  have HXk7 := Lib.hid (ask_state (E := E) HSk6.out.bs (HEk7.out.cell 9 (by decide)) tk HR.out.1.1 HR.out.1.2 (.inr (by show 0 < 1; decide)))
  go_wp2_with fail
  refine HXk7.out.mono ?_
  rintro e w6 ⟨rfl, nd, hw6⟩
  have hbk7 : Below (w5.alloc (.cells #[.int .i64 0, .int .u32 0, .int .i64 0, .int .i64 0, .slice A3 0 C3, .int .i64 0, .int .i64 0, .int .i64 100] 34)).heap.size (w5.alloc (.cells #[.int .i64 0, .int .u32 0, .int .i64 0, .int .i64 0, .slice A3 0 C3, .int .i64 0, .int .i64 0, .int .i64 100] 34)) w6 := by rw [hw6]; exact below_drewN nd
  clear HXk7 HEk7 hw6
  have HSk7 := Lib.hid (HSk6.out.below hbk7 (Nat.le_refl _))
  have HBk7 := Lib.hid (HBk6.out.trans (hbk7.mono HBk6.out.size))
  clear hbk7 HSk6 HBk6
  have HEk8 := Lib.hid (HE.out.below HBk7.out (Nat.le_refl _))
  have HIk8 := Lib.hid (is_any HEk8.out (some 9) (by intro i h; injection h with h; subst h; decide) 110)
  go_wp2_with fail
  refine HIk8.out.mono ?_
  rintro e vk8 ⟨rfl, hbk8⟩
  rw [show (errCode (some 9) == 110) = true by decide]
  clear HIk8 HEk8
  have HSk8 := Lib.hid (HSk7.out.below hbk8 (Nat.le_refl _))
  have HBk8 := Lib.hid (HBk7.out.trans (hbk8.mono HBk7.out.size))
  clear hbk8 HSk7 HBk7
  have hok : ∀ (j : Nat) (y : Int), [(0 : Int)][j]? = some y → goes (staG false A2 C2).l [0] j y = true := by
    intro j y hj
    rcases j with _ | j
    · have e : (0 : Int) = y := Option.some.inj hj
      subst e; rfl
    · simp at hj
  have HA := Lib.hid (HSk8.out.alloc (.cells #[.int .i64 0] 3))
  have HD := Lib.hid (HBk8.out.alloc (HBk8.out.size) (.cells #[.int .i64 0] 3))
  have HE0 := Lib.hid (HE.out.below HD.out (Nat.le_refl _))
  have hrow := row_int1' vk8 0 3 vk8.heap.size rfl
  have HW := Lib.hid (went_pass (E := E) HA.out.bs (HE0.out.cell 9 (by decide)) (some ⟨vk8.heap.size, 0, none⟩) 1 1 [0] hrow (fun k hk hx => by have e : vk8.heap.size = k := Option.some.inj hk; have := (HSk8.out.ge k hx).2; omega) hok (fun x hx => by have e := List.mem_singleton.1 hx; subst e; exact ⟨by show (0 : Int) ≤ 0; decide, by show (0 : Int) ≤ 1000000; decide⟩))
  clear hrow hok
  go_wp2_with fail
  refine HW.out.mono ?_
  rintro e w7 (⟨h, -⟩ | ⟨-, rfl, hs7⟩)
  case inl => exact absurd h (by show ¬ (false = true); decide)
  clear HW HE0 HSk8 HBk8
  obtain ⟨pk9, hSk9, hbk9, -, -⟩ := HA.out.step hs7
  have HSk9 : Hid (Ss w7 w1.heap.size B pk9 (staG true A2 C2)) := Lib.hid (by exact hSk9)
  have HBk9 := Lib.hid (HD.out.trans (hbk9.mono z1))
  clear hs7 hSk9 hbk9 HA HD
  have HEk10 := Lib.hid (HE.out.below HBk9.out (Nat.le_refl _))
  have HH := Lib.hid (show Calls Tryd.prog 19 #[.pointer (some ⟨B, 0, none⟩), .agg #[.int .u8 0, .int .u8 0, .int .u8 0, .int .u8 0, .int .u8 0, .int .u8 0, .int .u8 0, .int .u8 0, .int .u8 0, .int .u8 0, .int .u8 0, .int .u8 0, .int .i64 0, .int .i64 0, .int .u64 1]] w7 (HeardOk w7 w1.heap.size B pk9 (staG true A2 C2) 0 1) from heard_ok HSk9.out.bs HSk9.out.bas (fun _ => 0) (fun _ => 0) 0 0 1 rfl (by decide) (by decide) rfl (by decide) (by decide) (by show 1 ≤ 1000000; decide) (fun x hx => by have e := List.mem_singleton.1 hx; subst e; show (0 : Nat) ≤ 1048576; decide) rfl (List.nodup_cons.2 ⟨by simp, List.nodup_nil⟩) rfl)
  go_wp2_with fail
  refine HH.out.mono ?_
  rintro e w8 ⟨A8, n8, C8, L8, rfl, ho8, hm8, hs8⟩
  obtain rfl : n8 = 1 := by
    have h1 := ho8.len
    have h2 := congrArg List.length (hm8.trans (sta_got A2 C2))
    rw [List.length_map] at h2
    have h4 : L8.length = 1 := h2
    omega
  clear ho8 hm8 HH HEk10
  obtain ⟨pk10, hSk10, hbk10, -, -⟩ := HSk9.out.step hs8
  have HSk10 : Hid (Ss w8 w1.heap.size B pk10 (sta0 1 0 1)) := Lib.hid (by rw [← sta_heard A2 C2]; exact hSk10)
  have HBk10 := Lib.hid (HBk9.out.trans (hbk10.mono z1))
  clear hs8 hSk10 hbk10 HSk9 HBk9
  have HX := Lib.hid (ask_ok HSk10.out.bs tk HR.out.1.1 HR.out.1.2 rfl rfl)
  go_wp2_with fail
  refine HX.out.mono ?_
  rintro e w9 ⟨rfl, hs9⟩
  rw [show (sta0 1 0 1).w.nx = 1 from rfl]
  clear HX
  obtain ⟨pk11, hSk11, hbk11, -, -⟩ := HSk10.out.step hs9
  have HSk11 : Hid (Ss w9 w1.heap.size B pk11 (sta0 2 tk 1)) := Lib.hid (by exact hSk11)
  have HBk11 := Lib.hid (HBk10.out.trans (hbk11.mono z1))
  clear hs9 hSk11 hbk11 HSk10 HBk10
  have HEk12 := Lib.hid (HE.out.below HBk11.out (Nat.le_refl _))
  have HX := Lib.hid (show Calls Tryd.prog 12 #[.pointer (some ⟨B, 0, none⟩), .agg #[.int .i64 0, .int .u32 0, .int .i64 0, .int .i64 0, .slice none 0 0], .int .i64 0] w9 (FreshNo E w9 9) from fresh_state (E := E) HSk11.out.bs (HEk12.out.cell 9 (by decide)) (pk 0) none 0 0 rfl)
  go_wp2_with fail
  refine HX.out.mono ?_
  rintro e w10 ⟨rfl, hb10⟩
  rw [zmp_eq]
  clear HX HEk12
  have HSk12 := Lib.hid (HSk11.out.below hb10 (Nat.le_refl _))
  have HBk12 := Lib.hid (HBk11.out.trans (hb10.mono HBk11.out.size))
  clear hb10 HSk11 HBk11
  have HSk13 := Lib.hid (HSk12.out.alloc (.cells #[.int .i64 0, .int .u32 0, .int .i64 0, .int .i64 0, .slice none 0 0, .int .i64 0, .int .i64 0, .int .i64 0] 34))
  have HBk13 := Lib.hid (HBk12.out.alloc (HBk12.out.size) (.cells #[.int .i64 0, .int .u32 0, .int .i64 0, .int .i64 0, .slice none 0 0, .int .i64 0, .int .i64 0, .int .i64 0] 34))
  clear HSk12 HBk12
  by_cases hot : ot = tk
  case pos =>
    subst hot
    have g1 : (ot != ot) = false := by simp
    have g2 : (ot == ot) = true := by simp
    have HEk14 := Lib.hid (HE.out.below HBk13.out (Nat.le_refl _))
    have HX := Lib.hid (show Calls Tryd.prog 18 #[.pointer (some ⟨B, 0, none⟩), .int .i64 ot, .int .i64 0, .int .i64 0] (w10.alloc (.cells #[.int .i64 0, .int .u32 0, .int .i64 0, .int .i64 0, .slice none 0 0, .int .i64 0, .int .i64 0, .int .i64 0] 34)) _ from answer_on HSk13.out.bs (HEk14.out.sub (by decide)) 0 rfl (by decide) (by decide) (by show (1 : Int) ≤ 20; decide) (by show (20 : Int) ≤ 64; decide) rfl)
    go_wp2_with fail
    refine HX.out.mono ?_
    rintro e w11 ⟨rfl, hs11⟩
    clear HX HEk14
    obtain ⟨pk14, hSk14, hbk14, -, -⟩ := HSk13.out.step hs11
    have HSk14 : Hid (Ss w11 w1.heap.size B pk14 (sta0 3 ot 20)) := Lib.hid (by exact hSk14)
    have HBk14 := Lib.hid (HBk13.out.trans (hbk14.mono z1))
    clear hs11 hSk14 hbk14 HSk13 HBk13
    go_wp2_with fail
    refine (bstate_any HSk14.out.bs).mono ?_
    rintro e wq ⟨rfl, rfl⟩
    rw [show (sta0 3 ot 20).state = 3 from rfl]
    have HEk15 := Lib.hid (HE.out.below HBk14.out (Nat.le_refl _))
    have HIk15 := Lib.hid (is_any HEk15.out (some 9) (by intro i h; injection h with h; subst h; decide) 110)
    go_wp2_with fail
    refine HIk15.out.mono ?_
    rintro e vk15 ⟨rfl, hbk15⟩
    rw [show (errCode (some 9) == 110) = true by decide]
    clear HIk15 HEk15
    have HSk15 := Lib.hid (HSk14.out.below hbk15 (Nat.le_refl _))
    have HBk15 := Lib.hid (HBk14.out.trans (hbk15.mono HBk14.out.size))
    clear hbk15 HSk14 HBk14
    go_wp2_with fail
    refine (bstate_any HSk15.out.bs).mono ?_
    rintro e wq ⟨rfl, rfl⟩
    rw [show (sta0 3 ot 20).state = 3 from rfl]
    go_wp2_with fail
    refine (broom_any HSk15.out.bs (by show 0 ≤ 20; decide) (by show 20 ≤ 1000000; decide)).mono ?_
    rintro e rk16 ⟨rfl, nd, hrk16⟩
    rw [show (sta0 3 ot 20).w = ⟨1, 1, 20, []⟩ from rfl]
    rw [show room _ = (20 : Int) from sta_room (by decide)]
    have hbk16 : Below vk15.heap.size vk15 rk16 := by rw [hrk16]; exact below_drewN nd
    clear hrk16
    have HSk16 := Lib.hid (HSk15.out.below hbk16 (Nat.le_refl _))
    have HBk16 := Lib.hid (HBk15.out.trans (hbk16.mono HBk15.out.size))
    clear hbk16 HSk15 HBk15
    go_wp2_with fail
    go_ret
    exact ⟨rfl, HBk16.out⟩
  case neg =>
    have g1 : (ot != tk) = true := by simp [hot]
    have g2 : (ot == tk) = false := by simp [hot]
    have HEk17 := Lib.hid (HE.out.below HBk13.out (Nat.le_refl _))
    have HXk17 := Lib.hid (answer_state (E := E) HSk13.out.bs (HEk17.out.cell 9 (by decide)) ot 0 0 (.inr (show ot ≠ tk from hot)))
    go_wp2_with fail
    refine HXk17.out.mono ?_
    rintro e wq ⟨rfl, rfl⟩
    clear HXk17 HEk17
    go_wp2_with fail
    refine (bstate_any HSk13.out.bs).mono ?_
    rintro e wq ⟨rfl, rfl⟩
    rw [show (sta0 2 tk 1).state = 2 from rfl]
    have HEk18 := Lib.hid (HE.out.below HBk13.out (Nat.le_refl _))
    have HIk18 := Lib.hid (is_any HEk18.out (some 9) (by intro i h; injection h with h; subst h; decide) 110)
    go_wp2_with fail
    refine HIk18.out.mono ?_
    rintro e vk18 ⟨rfl, hbk18⟩
    rw [show (errCode (some 9) == 110) = true by decide]
    clear HIk18 HEk18
    have HSk18 := Lib.hid (HSk13.out.below hbk18 (Nat.le_refl _))
    have HBk18 := Lib.hid (HBk13.out.trans (hbk18.mono HBk13.out.size))
    clear hbk18 HSk13 HBk13
    have HEk19 := Lib.hid (HE.out.below HBk18.out (Nat.le_refl _))
    have HIk19 := Lib.hid (is_any HEk19.out (some 9) (by intro i h; injection h with h; subst h; decide) 110)
    go_wp2_with fail
    refine HIk19.out.mono ?_
    rintro e vk19 ⟨rfl, hbk19⟩
    rw [show (errCode (some 9) == 110) = true by decide]
    clear HIk19 HEk19
    have HSk19 := Lib.hid (HSk18.out.below hbk19 (Nat.le_refl _))
    have HBk19 := Lib.hid (HBk18.out.trans (hbk19.mono HBk18.out.size))
    clear hbk19 HSk18 HBk18
    by_cases hst : sts = 0
    case neg =>
      have g3 : decide (0 < sts) = true := decide_eq_true (by have := HR.out.2.1; omega)
      have HX := Lib.hid (show Calls Tryd.prog 18 #[.pointer (some ⟨B, 0, none⟩), .int .i64 tk, .int .i64 sts, .int .i64 sz] vk19 _ from answer_no HSk19.out.bs sts sz rfl hst)
      go_wp2_with fail
      refine HX.out.mono ?_
      rintro e w11 ⟨rfl, hs11⟩
      clear HX
      obtain ⟨pk20, hSk20, hbk20, -, -⟩ := HSk19.out.step hs11
      have HSk20 : Hid (Ss w11 w1.heap.size B pk20 (sta0 1 tk 1)) := Lib.hid (by exact hSk20)
      have HBk20 := Lib.hid (HBk19.out.trans (hbk20.mono z1))
      clear hs11 hSk20 hbk20 HSk19 HBk19
      go_wp2_with fail
      refine (bstate_any HSk20.out.bs).mono ?_
      rintro e wq ⟨rfl, rfl⟩
      rw [show (sta0 1 tk 1).state = 1 from rfl]
      go_wp2_with fail
      refine (broom_any HSk20.out.bs (by show 0 ≤ (1 : Int); decide) (by show (1 : Int) ≤ 1000000; decide)).mono ?_
      rintro e rk21 ⟨rfl, nd, hrk21⟩
      rw [show (sta0 1 tk 1).w = ⟨1, 1, 1, []⟩ from rfl]
      rw [show room _ = (1 : Int) from sta_room (by decide)]
      have hbk21 : Below w11.heap.size w11 rk21 := by rw [hrk21]; exact below_drewN nd
      clear hrk21
      have HSk21 := Lib.hid (HSk20.out.below hbk21 (Nat.le_refl _))
      have HBk21 := Lib.hid (HBk20.out.trans (hbk21.mono HBk20.out.size))
      clear hbk21 HSk20 HBk20
      go_wp2_with fail
      go_ret
      exact ⟨rfl, HBk21.out⟩
    case pos =>
      subst hst
      by_cases hsz : 0 < sz
      case pos =>
        have g4 : decide (0 < sz) = true := decide_eq_true hsz
        obtain ⟨z, hz⟩ : ∃ z, min 20 sz = z := ⟨_, rfl⟩
        have hz0 : 1 ≤ z := by omega
        have hz1 : z ≤ 20 := by omega
        have hon : onS (sta0 2 tk 1) sz = sta0 3 tk z := by unfold onS ansN; rw [if_pos hsz, ← hz]; rfl
        have HEk22 := Lib.hid (HE.out.below HBk19.out (Nat.le_refl _))
        have HX := Lib.hid (show Calls Tryd.prog 18 #[.pointer (some ⟨B, 0, none⟩), .int .i64 tk, .int .i64 0, .int .i64 sz] vk19 _ from answer_on HSk19.out.bs (HEk22.out.sub (by decide)) sz rfl HR.out.2.2.1 (by have := HR.out.2.2.2; omega) (by show (1 : Int) ≤ 20; decide) (by show (20 : Int) ≤ 64; decide) rfl)
        go_wp2_with fail
        refine HX.out.mono ?_
        rintro e w11 ⟨rfl, hs11⟩
        clear HX HEk22
        obtain ⟨pk22, hSk22, hbk22, -, -⟩ := HSk19.out.step hs11
        have HSk22 : Hid (Ss w11 w1.heap.size B pk22 (sta0 3 tk z)) := Lib.hid (by rw [← hon]; exact hSk22)
        have HBk22 := Lib.hid (HBk19.out.trans (hbk22.mono z1))
        clear hs11 hSk22 hbk22 HSk19 HBk19
        go_wp2_with fail
        refine (broom_any HSk22.out.bs (by show 0 ≤ z; omega) (by show z ≤ 1000000; omega)).mono ?_
        rintro e rk23 ⟨rfl, nd, hrk23⟩
        rw [show (sta0 3 tk z).w = ⟨1, 1, z, []⟩ from rfl]
        rw [show room _ = z from sta_room (by omega)]
        have hbk23 : Below w11.heap.size w11 rk23 := by rw [hrk23]; exact below_drewN nd
        clear hrk23
        have HSk23 := Lib.hid (HSk22.out.below hbk23 (Nat.le_refl _))
        have HBk23 := Lib.hid (HBk22.out.trans (hbk23.mono HBk22.out.size))
        clear hbk23 HSk22 HBk22
        try rw [hz]
        go_wp2_with fail
        refine (bstate_any HSk23.out.bs).mono ?_
        rintro e wq ⟨rfl, rfl⟩
        rw [show (sta0 3 tk z).state = 3 from rfl]
        have HEk24 := Lib.hid (HE.out.below HBk23.out (Nat.le_refl _))
        have HX := Lib.hid (end_ok HSk23.out.bs (HEk24.out.sub (by decide)) (by show (3 : Int) ≠ 1; decide) rfl rfl)
        go_wp2_with fail
        refine HX.out.mono ?_
        rintro e w12 ⟨rfl, hs12⟩
        clear HX HEk24
        obtain ⟨pk24, hSk24, hbk24, -, -⟩ := HSk23.out.step hs12
        have HSk24 : Hid (Ss w12 w1.heap.size B pk24 (sta0 1 tk 1)) := Lib.hid (by exact hSk24)
        have HBk24 := Lib.hid (HBk23.out.trans (hbk24.mono z1))
        clear hs12 hSk24 hbk24 HSk23 HBk23
        go_wp2_with fail
        refine (bstate_any HSk24.out.bs).mono ?_
        rintro e wq ⟨rfl, rfl⟩
        rw [show (sta0 1 tk 1).state = 1 from rfl]
        go_wp2_with fail
        refine (broom_any HSk24.out.bs (by show 0 ≤ (1 : Int); decide) (by show (1 : Int) ≤ 1000000; decide)).mono ?_
        rintro e rk25 ⟨rfl, nd, hrk25⟩
        rw [show (sta0 1 tk 1).w = ⟨1, 1, 1, []⟩ from rfl]
        rw [show room _ = (1 : Int) from sta_room (by decide)]
        have hbk25 : Below w12.heap.size w12 rk25 := by rw [hrk25]; exact below_drewN nd
        clear hrk25
        have HSk25 := Lib.hid (HSk24.out.below hbk25 (Nat.le_refl _))
        have HBk25 := Lib.hid (HBk24.out.trans (hbk25.mono HBk24.out.size))
        clear hbk25 HSk24 HBk24
        go_wp2_with fail
        go_ret
        exact ⟨rfl, HBk25.out⟩
      case neg =>
        have g4 : decide (0 < sz) = false := decide_eq_false hsz
        obtain ⟨z, hz⟩ : ∃ z, (20 : Int) = z := ⟨_, rfl⟩
        have hz0 : 1 ≤ z := by omega
        have hz1 : z ≤ 20 := by omega
        have hon : onS (sta0 2 tk 1) sz = sta0 3 tk z := by unfold onS ansN; rw [if_neg hsz, ← hz]; rfl
        have HEk26 := Lib.hid (HE.out.below HBk19.out (Nat.le_refl _))
        have HX := Lib.hid (show Calls Tryd.prog 18 #[.pointer (some ⟨B, 0, none⟩), .int .i64 tk, .int .i64 0, .int .i64 sz] vk19 _ from answer_on HSk19.out.bs (HEk26.out.sub (by decide)) sz rfl HR.out.2.2.1 (by have := HR.out.2.2.2; omega) (by show (1 : Int) ≤ 20; decide) (by show (20 : Int) ≤ 64; decide) rfl)
        go_wp2_with fail
        refine HX.out.mono ?_
        rintro e w11 ⟨rfl, hs11⟩
        clear HX HEk26
        obtain ⟨pk26, hSk26, hbk26, -, -⟩ := HSk19.out.step hs11
        have HSk26 : Hid (Ss w11 w1.heap.size B pk26 (sta0 3 tk z)) := Lib.hid (by rw [← hon]; exact hSk26)
        have HBk26 := Lib.hid (HBk19.out.trans (hbk26.mono z1))
        clear hs11 hSk26 hbk26 HSk19 HBk19
        go_wp2_with fail
        refine (broom_any HSk26.out.bs (by show 0 ≤ z; omega) (by show z ≤ 1000000; omega)).mono ?_
        rintro e rk27 ⟨rfl, nd, hrk27⟩
        rw [show (sta0 3 tk z).w = ⟨1, 1, z, []⟩ from rfl]
        rw [show room _ = z from sta_room (by omega)]
        have hbk27 : Below w11.heap.size w11 rk27 := by rw [hrk27]; exact below_drewN nd
        clear hrk27
        have HSk27 := Lib.hid (HSk26.out.below hbk27 (Nat.le_refl _))
        have HBk27 := Lib.hid (HBk26.out.trans (hbk27.mono HBk26.out.size))
        clear hbk27 HSk26 HBk26
        try rw [hz]
        go_wp2_with fail
        refine (bstate_any HSk27.out.bs).mono ?_
        rintro e wq ⟨rfl, rfl⟩
        rw [show (sta0 3 tk z).state = 3 from rfl]
        have HEk28 := Lib.hid (HE.out.below HBk27.out (Nat.le_refl _))
        have HX := Lib.hid (end_ok HSk27.out.bs (HEk28.out.sub (by decide)) (by show (3 : Int) ≠ 1; decide) rfl rfl)
        go_wp2_with fail
        refine HX.out.mono ?_
        rintro e w12 ⟨rfl, hs12⟩
        clear HX HEk28
        obtain ⟨pk28, hSk28, hbk28, -, -⟩ := HSk27.out.step hs12
        have HSk28 : Hid (Ss w12 w1.heap.size B pk28 (sta0 1 tk 1)) := Lib.hid (by exact hSk28)
        have HBk28 := Lib.hid (HBk27.out.trans (hbk28.mono z1))
        clear hs12 hSk28 hbk28 HSk27 HBk27
        go_wp2_with fail
        refine (bstate_any HSk28.out.bs).mono ?_
        rintro e wq ⟨rfl, rfl⟩
        rw [show (sta0 1 tk 1).state = 1 from rfl]
        go_wp2_with fail
        refine (broom_any HSk28.out.bs (by show 0 ≤ (1 : Int); decide) (by show (1 : Int) ≤ 1000000; decide)).mono ?_
        rintro e rk29 ⟨rfl, nd, hrk29⟩
        rw [show (sta0 1 tk 1).w = ⟨1, 1, 1, []⟩ from rfl]
        rw [show room _ = (1 : Int) from sta_room (by decide)]
        have hbk29 : Below w12.heap.size w12 rk29 := by rw [hrk29]; exact below_drewN nd
        clear hrk29
        have HSk29 := Lib.hid (HSk28.out.below hbk29 (Nat.le_refl _))
        have HBk29 := Lib.hid (HBk28.out.trans (hbk29.mono HBk28.out.size))
        clear hbk29 HSk28 HBk28
        go_wp2_with fail
        go_ret
        exact ⟨rfl, HBk29.out⟩
end Go.Proofs.YthjjneanabnjoaaDoor
