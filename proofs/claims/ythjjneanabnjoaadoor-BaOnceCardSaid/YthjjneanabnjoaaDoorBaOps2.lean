/-
  ba: Answer, End, Barred.
-/
import Derived.Test.YthjjneanabnjoaaDoorBaOps
namespace Go.Proofs.YthjjneanabnjoaaDoor
open Go.ChangeShapes Go.WideShapes Go.ChangeAt Go.RowKit
set_option linter.unusedVariables false

section
variable {w : World} {base B : Nat} {p : BP} {s : BS} {E : Nat → Addr}
set_option maxHeartbeats 800000 in
theorem answer_state (h : Bs w base B p s) (hE : w.cell? ⟨1, 0, none⟩ = some (errV E 9)) (token status size : Int) (hs : s.state ≠ 2 ∨ token ≠ s.token) :
    Calls Tryd.prog 18 #[.pointer (some ⟨B, 0, none⟩), .int .i64 token, .int .i64 status, .int .i64 size] w fun e w' => e = .returned (errV E 9) ∧ w = w' := by
  have c4 := h.c4
  have c5 := h.c5
  have hc' : w.cell? ⟨1, 0, none⟩ = some (.iface 115 (.pointer (some (E 9)))) := hE
  by_cases hs1 : s.state = 2
  · have hl : token ≠ s.token := by rcases hs with h | h; exact absurd hs1 h; exact h
    have g3 : (s.state != 2) = false := by simp [hs1]
    have g4 : (token != s.token) = true := by simp [hl]
    clear h hs hs1 hE hl
    go_enter Tryd.func18, Tryd.ntmps18
    go_wp2_with fail
    go_ret
    exact ⟨rfl, rfl⟩
  · have g3 : (s.state != 2) = true := by simp [hs1]
    clear h hs hs1 hE
    go_enter Tryd.func18, Tryd.ntmps18
    go_wp2_with fail
    go_ret
    exact ⟨rfl, rfl⟩
set_option maxHeartbeats 800000 in
theorem answer_no (h : Bs w base B p s) (status size : Int) (hs : s.state = 2) (hst : status ≠ 0) :
    Calls Tryd.prog 18 #[.pointer (some ⟨B, 0, none⟩), .int .i64 s.token, .int .i64 status, .int .i64 size] w fun e w' => e = .returned .nilIface ∧ BStep w w' base B p s { s with state := 1 } := by
  have c4 := h.c4
  have f4 := h.fr 4
  have c5 := h.c5
  rw [hs] at c4
  have g4 : (s.token != s.token) = false := by simp
  have g5 : (status != 0) = true := by simp [hst]
  have HB1 := Lib.hid (h.setc 4 (.int .i64 1) { s with state := 1 } rfl rfl rfl)
  clear h hs hst
  go_enter Tryd.func18, Tryd.ntmps18
  go_wp2_with fail
  go_ret
  exact ⟨rfl, p, HB1.out, touch_set _ _ _ _ _ (.inl rfl), fun k hk => .inl hk⟩
/-- the window's size behind an answer -/
def ansN (s : BS) (size : Int) : Int := if 0 < size then min s.sz size else s.sz
def onS (s : BS) (size : Int) : BS := { s with w := { s.w with sz := ansN s size }, state := 3 }
theorem resize_ok (h : Bs w base B p s) (hE : Errs [2, 9] w E) (n : Int) (h1 : 1 ≤ n) (h2 : n ≤ 64) (ho : s.w.o = []) :
    Calls Tryd.prog 45 #[.pointer (some ⟨p.W, 0, none⟩), .int .i64 n] w fun e w' => e = .returned .nilIface ∧ Bs w' base B p { s with w := { s.w with sz := n } } ∧ Touch (bsS B p s) w w' := by
  refine (resize_any h.win hE n).mono ?_
  rintro e w1 ⟨rfl, hw, ht⟩
  have e1 : rszR s.w n = none := by unfold rszR; rw [if_neg (by omega), if_neg (by rw [ho]; simp)]
  have e2 : rszS s.w n = { s.w with sz := n } := by unfold rszS; rw [if_pos e1]
  rw [e1]
  rw [e2] at hw
  refine ⟨rfl, h.winStep hw ht, ht.mono fun k _ hk => ?_⟩
  rcases hk with e | e
  · exact .inr (.inl e)
  · exact .inr (.inr (.inl e))
set_option maxHeartbeats 1600000 in
theorem answer_on (h : Bs w base B p s) (hE : Errs [2, 9] w E) (size : Int) (hs : s.state = 2) (h1 : 0 ≤ size) (h2 : size < 1024) (hz1 : 1 ≤ s.sz) (hz2 : s.sz ≤ 64) (ho : s.w.o = []) :
    Calls Tryd.prog 18 #[.pointer (some ⟨B, 0, none⟩), .int .i64 s.token, .int .i64 0, .int .i64 size] w fun e w' => e = .returned .nilIface ∧ BStep w w' base B p s (onS s size) := by
  have c4 := h.c4
  have c5 := h.c5
  have c1 := h.c1
  have c0 := h.c0
  rw [hs] at c4
  have g4 : (s.token != s.token) = false := by simp
  have q1 : decide (size < 0) = false := decide_eq_false (by omega)
  have q2 : decide (1024 ≤ size) = false := decide_eq_false (by omega)
  by_cases hp : 0 < size
  case pos =>
    obtain ⟨n, hn⟩ : ∃ n, ansN s size = n := ⟨_, rfl⟩
    have hn1 : (if size < s.sz then size else s.sz) = n := by rw [← hn]; unfold ansN; rw [if_pos hp]; split <;> omega
    have hn1' : (if s.sz < size then s.sz else size) = n := by rw [← hn]; unfold ansN; rw [if_pos hp]; split <;> omega
    have hmin : min s.sz size = n := by rw [← hn]; unfold ansN; rw [if_pos hp]
    have hn2 : 1 ≤ n ∧ n ≤ 64 := by rw [← hmin]; omega
    have HC := Lib.hid (resize_ok h hE n hn2.1 hn2.2 ho)
    have HO := Lib.hid (show onS s size = { s with w := { s.w with sz := n }, state := 3 } by unfold onS; rw [hn])
    have hp2 : decide (0 < size) = true := decide_eq_true hp
    clear h hE hs hz1 hz2 ho hn hn2
    go_enter Tryd.func18, Tryd.ntmps18
    go_wp2_with fail
    refine HC.out.mono ?_
    rintro e w1 ⟨rfl, hB1, ht1⟩
    have d4 := hB1.c4
    have f4 := hB1.fr 4
    have HB2 := Lib.hid (hB1.setc 4 (.int .i64 3) { s with w := { s.w with sz := n }, state := 3 } rfl rfl rfl)
    have HT := Lib.hid (ht1.trans (touch_set (bsS B p s) w1 B 4 (.int .i64 3) (.inl rfl)) (fun _ _ x => x))
    clear hB1 ht1 hn1 hn1' hmin
    go_wp2_with fail
    go_ret
    exact ⟨rfl, p, by rw [HO.out]; exact HB2.out, HT.out, fun k hk => .inl hk⟩
  case neg =>
    obtain ⟨n, hn⟩ : ∃ n, ansN s size = n := ⟨_, rfl⟩
    have hn1 : s.sz = n := by rw [← hn]; unfold ansN; rw [if_neg hp]
    have HC := Lib.hid (resize_ok h hE s.sz hz1 hz2 ho)
    have HO := Lib.hid (show onS s size = { s with w := { s.w with sz := s.sz }, state := 3 } by unfold onS; rw [hn, hn1])
    have hp2 : decide (0 < size) = false := decide_eq_false hp
    clear h hE hs hz1 hz2 ho hn hn1
    go_enter Tryd.func18, Tryd.ntmps18
    go_wp2_with fail
    refine HC.out.mono ?_
    rintro e w1 ⟨rfl, hB1, ht1⟩
    have d4 := hB1.c4
    have f4 := hB1.fr 4
    have HB2 := Lib.hid (hB1.setc 4 (.int .i64 3) { s with w := { s.w with sz := s.sz }, state := 3 } rfl rfl rfl)
    have HT := Lib.hid (ht1.trans (touch_set (bsS B p s) w1 B 4 (.int .i64 3) (.inl rfl)) (fun _ _ x => x))
    clear hB1 ht1
    go_wp2_with fail
    go_ret
    exact ⟨rfl, p, by rw [HO.out]; exact HB2.out, HT.out, fun k hk => .inl hk⟩
theorem end_state (h : Bs w base B p s) (hE : w.cell? ⟨1, 0, none⟩ = some (errV E 9)) (hs : s.state = 1 ∨ 0 < s.l.length) :
    Calls Tryd.prog 27 #[.pointer (some ⟨B, 0, none⟩)] w fun e w' => e = .returned (errV E 9) ∧ w = w' := by
  have c4 := h.c4
  have c6 := h.c6
  have hc' : w.cell? ⟨1, 0, none⟩ = some (.iface 115 (.pointer (some (E 9)))) := hE
  by_cases hs1 : s.state = 1
  · rw [hs1] at c4
    clear h hs hs1 hE
    go_enter Tryd.func27, Tryd.ntmps27
    go_wp2_with fail
    go_ret
    exact ⟨rfl, rfl⟩
  · have hl : 0 < s.l.length := by rcases hs with h | h; exact absurd h hs1; exact h
    have g3 : (s.state == 1) = false := by simp [hs1]
    have g4 : decide ((0 : Int) < (s.l.length : Int)) = true := decide_eq_true (by omega)
    clear h hs hs1 hE
    go_enter Tryd.func27, Tryd.ntmps27
    go_wp2_with fail
    go_ret
    exact ⟨rfl, rfl⟩
def endS (s : BS) : BS := { s with w := { s.w with sz := 1 }, state := 1, asks := false, vain := 0 }
set_option maxHeartbeats 1600000 in
theorem end_ok (h : Bs w base B p s) (hE : Errs [2, 9] w E) (hs : s.state ≠ 1) (hl : s.l = []) (ho : s.w.o = []) :
    Calls Tryd.prog 27 #[.pointer (some ⟨B, 0, none⟩)] w fun e w' => e = .returned .nilIface ∧ BStep w w' base B p s (endS s) := by
  have c4 := h.c4
  have c6 := h.c6
  have c0 := h.c0
  rw [hl] at c6
  have g3 : (s.state == 1) = false := by simp [hs]
  have HC := Lib.hid (resize_ok h hE 1 (by decide) (by decide) ho)
  clear h hE hs hl ho
  go_enter Tryd.func27, Tryd.ntmps27
  go_wp2_with fail
  refine HC.out.mono ?_
  rintro e w1 ⟨rfl, hB1, ht1⟩
  have d4 := hB1.c4
  have f4 := hB1.fr 4
  have hB2 := hB1.setc 4 (.int .i64 1) { s with w := { s.w with sz := 1 }, state := 1 } rfl rfl rfl
  have d7 := hB2.c7
  have f7 := hB2.fr 7
  have hB3 := hB2.setc 7 (.bool false) { s with w := { s.w with sz := 1 }, state := 1, asks := false } rfl rfl rfl
  have d8 := hB3.c8
  have f8 := hB3.fr 8
  have HB4 := Lib.hid (hB3.setc 8 (.int .i64 0) (endS s) rfl rfl rfl)
  have HT := Lib.hid (((ht1.trans (touch_set (bsS B p s) w1 B 4 (.int .i64 1) (.inl rfl)) (fun _ _ x => x)).trans (touch_set (bsS B p s) _ B 7 (.bool false) (.inl rfl)) (fun _ _ x => x)).trans (touch_set (bsS B p s) _ B 8 (.int .i64 0) (.inl rfl)) (fun _ _ x => x))
  clear hB1 hB2 hB3 ht1
  go_wp2_with fail
  go_ret
  exact ⟨rfl, p, HB4.out, HT.out, fun k hk => .inl hk⟩
/-- a question was asked -/
def barS (s : BS) (done : Bool) : BS := if s.asks then (if done || decide (s.vain + 1 > s.retry) then { s with asks := false, vain := 0 } else { s with vain := s.vain + 1 }) else s
theorem bsS_l {s s' : BS} {B : Nat} {p : BP} {k : Nat} (e : s'.l = s.l) (hk : bsS B p s' k) : bsS B p s k := by unfold bsS at *; rwa [e] at hk
theorem barS_l (s : BS) (d : Bool) : (barS s d).l = s.l := by
  unfold barS
  split
  · split <;> rfl
  · rfl
set_option maxHeartbeats 1600000 in
theorem barred_any (h : Bs w base B p s) (done : Bool) (hv : 0 ≤ s.vain) (hv2 : s.vain ≤ 1000000) :
    Calls Tryd.prog 30 #[.pointer (some ⟨B, 0, none⟩), .bool done] w fun e w' => e = .returned (.tuple #[]) ∧ BStep w w' base B p s (barS s done) := by
  have c7 := h.c7
  by_cases ha : s.asks = true
  case neg =>
    have ha' : s.asks = false := by simpa using ha
    rw [ha'] at c7
    have HS := Lib.hid (show barS s done = s by unfold barS; rw [ha']; rfl)
    have H := Lib.hid h
    clear h ha ha'
    go_enter Tryd.func30, Tryd.ntmps30
    go_wp2_with fail
    exact bodyPost_ret (v := .tuple #[]) (results_none rfl _ _ _) rfl ⟨rfl, by rw [HS.out]; exact bstep_refl H.out⟩
  case pos =>
    rw [ha] at c7
    have c8 := h.c8
    have f8 := h.fr 8
    have w8 : IntKind.i64.wrap (s.vain + 1) = s.vain + 1 := IntWalk.i64_in _ (by omega)
    have hB1 := h.setc 8 (.int .i64 (s.vain + 1)) { s with vain := s.vain + 1 } rfl rfl rfl
    have d8 := hB1.c8
    have d2 := hB1.c2
    have d7 := hB1.c7
    simp only [ha] at d7
    have f7 := hB1.fr 7
    have HB1 := Lib.hid hB1
    have HT1 := Lib.hid (touch_set (bsS B p s) w B 8 (.int .i64 (s.vain + 1)) (.inl rfl))
    have HA := Lib.hid (show ({ s with vain := s.vain + 1 } : BS).asks = true from ha)
    cases hd : done with
    | true =>
      have HS := Lib.hid (show barS s true = { s with asks := false, vain := 0 } by unfold barS; rw [ha]; simp)
      clear h ha hB1 hv hv2 hd
      go_enter Tryd.func30, Tryd.ntmps30
      go_wp2_with fail
      go_quiet (fail)
      have hW := HB1.out.drewN nq
      have k7 := hW.c7
      have l7 := hW.fr 7
      rw [HA.out] at k7
      have hB2 := hW.setc 7 (.bool false) { s with vain := s.vain + 1, asks := false } rfl rfl rfl
      have k8 := hB2.c8
      have l8 := hB2.fr 8
      have HB3 := Lib.hid (hB2.setc 8 (.int .i64 0) { s with asks := false, vain := 0 } rfl rfl rfl)
      have HT3 := Lib.hid (((HT1.out.trans (touch_drew (bsS B p s) _ nq) (fun _ _ x => x)).trans (touch_set (bsS B p s) _ B 7 (.bool false) (.inl rfl)) (fun _ _ x => x)).trans (touch_set (bsS B p s) _ B 8 (.int .i64 0) (.inl rfl)) (fun _ _ x => x))
      clear hW hB2
      go_wp2_with fail
      refine bodyPost_end (results_none rfl _ _ _) rfl ?_
      exact ⟨rfl, p, by rw [HS.out]; exact HB3.out, HT3.out, fun k hk => .inl (bsS_l (barS_l s _) hk)⟩
    | false =>
      by_cases hr : s.vain + 1 > s.retry
      · have g1 : decide (s.retry < s.vain + 1) = true := decide_eq_true (by omega)
        have HS := Lib.hid (show barS s false = { s with asks := false, vain := 0 } by unfold barS; rw [ha]; simp; omega)
        clear h ha hB1 hv hv2 hd hr
        go_enter Tryd.func30, Tryd.ntmps30
        go_wp2_with fail
        go_quiet (fail)
        have hW := HB1.out.drewN nq
        have k7 := hW.c7
        have l7 := hW.fr 7
        rw [HA.out] at k7
        have hB2 := hW.setc 7 (.bool false) { s with vain := s.vain + 1, asks := false } rfl rfl rfl
        have k8 := hB2.c8
        have l8 := hB2.fr 8
        have HB3 := Lib.hid (hB2.setc 8 (.int .i64 0) { s with asks := false, vain := 0 } rfl rfl rfl)
        have HT3 := Lib.hid (((HT1.out.trans (touch_drew (bsS B p s) _ nq) (fun _ _ x => x)).trans (touch_set (bsS B p s) _ B 7 (.bool false) (.inl rfl)) (fun _ _ x => x)).trans (touch_set (bsS B p s) _ B 8 (.int .i64 0) (.inl rfl)) (fun _ _ x => x))
        clear hW hB2
        go_wp2_with fail
        refine bodyPost_end (results_none rfl _ _ _) rfl ?_
        exact ⟨rfl, p, by rw [HS.out]; exact HB3.out, HT3.out, fun k hk => .inl (bsS_l (barS_l s _) hk)⟩
      · have g1 : decide (s.retry < s.vain + 1) = false := decide_eq_false (by omega)
        have HS := Lib.hid (show barS s false = { s with vain := s.vain + 1 } by unfold barS; rw [ha]; simp; omega)
        clear h ha hB1 hv hv2 hd hr
        go_enter Tryd.func30, Tryd.ntmps30
        go_wp2_with fail
        go_quiet (fail)
        go_wp2_with fail
        refine bodyPost_end (results_none rfl _ _ _) rfl ?_
        exact ⟨rfl, p, by rw [HS.out]; exact HB1.out.drewN nq, HT1.out.trans (touch_drew (bsS B p s) _ nq) (fun _ _ x => x), fun k hk => .inl (bsS_l (barS_l s _) hk)⟩
end
end Go.Proofs.YthjjneanabnjoaaDoor
