/-
  ba: New, State, Room, Start, Bar, Ask, Answer, End, Barred.
-/
import Derived.Test.YthjjneanabnjoaaDoorBaPred
namespace Go.Proofs.YthjjneanabnjoaaDoor
open Go.ChangeShapes Go.WideShapes Go.ChangeAt Go.RowKit
set_option linter.unusedVariables false

/-- a session that is new -/
def newS (size retry life : Int) : BS := ⟨⟨0, 0, 1, []⟩, size, retry, life, 1, 0, [], false, 0⟩
def NewR (w : World) (size retry life : Int) (e : Ending) (w' : World) : Prop := ∃ B p, e = .returned (.tuple #[.pointer (some ⟨B, 0, none⟩), .nilIface]) ∧ Bs w' w.heap.size B p (newS size retry life) ∧ w.heap.size ≤ B ∧ w.heap.size ≤ p.W ∧ Below w.heap.size w w'
set_option maxHeartbeats 1600000 in
theorem bnew_ok (size retry life : Int) (w : World) (h1 : 1 ≤ size) (h2 : size ≤ 64) (h3 : 0 ≤ retry) (h4 : retry ≤ 15) (h5 : 1 ≤ life) (h6 : life ≤ 1099511627776) :
    Calls Tryd.prog 11 #[.int .i64 size, .int .i64 retry, .int .i64 life] w (NewR w size retry life) := by
  have g1 : decide (size < 1) = false := decide_eq_false (by omega)
  have g2 : decide (64 < size) = false := decide_eq_false (by omega)
  have g3 : decide (retry < 0) = false := decide_eq_false (by omega)
  have g4 : decide (15 < retry) = false := decide_eq_false (by omega)
  have g5 : decide (life < 1) = false := decide_eq_false (by omega)
  have g6 : decide (1099511627776 < life) = false := decide_eq_false (by omega)
  clear h1 h2 h3 h4 h5 h6
  go_enter Tryd.func11, Tryd.ntmps11
  go_wp2_with fail
  refine (new_ok 0 1 w (by decide) (by decide) (by decide) (by decide)).mono ?_
  rintro e w1 ⟨rfl, hw, hb⟩
  have HW := Lib.hid hw
  have HB := Lib.hid hb
  clear hw hb
  go_wp2_with fail
  go_ret2
  refine ⟨w1.heap.size, ⟨w.heap.size, none, 0, none, 0⟩, rfl, ⟨Blk.new _ _ _, HW.out.alloc _, World.ownsRow_nil _ _ _ _, fun x hx => by cases hx⟩, HB.out.size, Nat.le_refl _, HB.out.alloc HB.out.size _⟩

section
variable {w : World} {base B : Nat} {p : BP} {s : BS}
theorem bstate_any (h : Bs w base B p s) : Calls Tryd.prog 28 #[.pointer (some ⟨B, 0, none⟩)] w fun e w' => e = .returned (.int .i64 s.state) ∧ w = w' := by
  have c4 := h.c4
  go_enter Tryd.func28, Tryd.ntmps28
  go_wp2_with fail
  go_ret
  exact ⟨rfl, rfl⟩
theorem bstart_any (h : Bs w base B p s) : Calls Tryd.prog 23 #[.pointer (some ⟨B, 0, none⟩)] w fun e w' => e = .returned (.int .i64 s.w.st) ∧ w = w' := by
  have c0 := h.c0
  have HC := Lib.hid (start_any h.win)
  go_enter Tryd.func23, Tryd.ntmps23
  go_wp2_with fail
  refine HC.out.mono ?_
  rintro e w1 ⟨rfl, rfl⟩
  go_wp2_with fail
  go_ret
  exact ⟨rfl, rfl⟩
theorem broom_any (h : Bs w base B p s) (h1 : 0 ≤ s.w.sz) (h2 : s.w.sz ≤ 1000000) : Calls Tryd.prog 16 #[.pointer (some ⟨B, 0, none⟩)] w fun e w' => e = .returned (.int .i64 (room s.w)) ∧ ∃ n, w' = w.drewN n := by
  have c0 := h.c0
  have HC := Lib.hid (room_any h.win h1 h2)
  obtain ⟨R, hR⟩ : ∃ R, room s.w = R := ⟨_, rfl⟩
  rw [hR] at HC ⊢
  clear hR
  go_enter Tryd.func16, Tryd.ntmps16
  go_wp2_with fail
  refine HC.out.mono ?_
  rintro e w1 ⟨rfl, hn⟩
  go_wp2_with fail
  go_ret
  exact ⟨rfl, hn⟩
theorem bar_no (h : Bs w base B p s) (ha : s.asks = false) : Calls Tryd.prog 15 #[.pointer (some ⟨B, 0, none⟩)] w fun e w' => e = .returned (.tuple #[.int .i64 0, .bool false]) ∧ w = w' := by
  have c7 := h.c7
  rw [ha] at c7
  go_enter Tryd.func15, Tryd.ntmps15
  go_wp2_with fail
  go_ret2
  exact ⟨rfl, rfl⟩
theorem bar_yes (h : Bs w base B p s) (ha : s.asks = true) : Calls Tryd.prog 15 #[.pointer (some ⟨B, 0, none⟩)] w fun e w' => e = .returned (.tuple #[.int .i64 s.w.st, .bool true]) ∧ w = w' := by
  have c7 := h.c7
  have c0 := h.c0
  rw [ha] at c7
  have HC := Lib.hid (start_any h.win)
  go_enter Tryd.func15, Tryd.ntmps15
  go_wp2_with fail
  refine HC.out.mono ?_
  rintro e w1 ⟨rfl, rfl⟩
  go_wp2_with fail
  go_ret2
  exact ⟨rfl, rfl⟩
/-- asked -/
def askS (s : BS) (token : Int) : BS := { s with state := 2, token := token }
set_option maxHeartbeats 800000 in
theorem ask_ok (h : Bs w base B p s) (token : Int) (h1 : 0 ≤ token) (h2 : token < 256) (hs : s.state = 1) (hl : s.l = []) :
    Calls Tryd.prog 17 #[.pointer (some ⟨B, 0, none⟩), .int .i64 token] w fun e w' => e = .returned (.tuple #[.int .i64 s.w.nx, .nilIface]) ∧ BStep w w' base B p s (askS s token) := by
  have g1 : decide (token < 0) = false := decide_eq_false (by omega)
  have g2 : decide (256 ≤ token) = false := decide_eq_false (by omega)
  have c4 := h.c4
  have f4 := h.fr 4
  have c6 := h.c6
  rw [hs] at c4
  rw [hl] at c6
  have hB1 := h.setc 4 (.int .i64 2) { s with state := 2 } rfl rfl rfl
  have c5 := hB1.c5
  have f5 := hB1.fr 5
  have hB2 := hB1.setc 5 (.int .i64 token) (askS s token) rfl rfl rfl
  have c0 := hB2.c0
  have HT := Lib.hid ((touch_set (bsS B p s) w B 4 (.int .i64 2) (.inl rfl)).trans (touch_set (bsS B p s) (w.setCell ⟨B, 4, none⟩ (.int .i64 2)) B 5 (.int .i64 token) (.inl rfl)) (fun _ _ x => x))
  have HC := Lib.hid (ahead_any hB2.win)
  have H2 := Lib.hid hB2
  clear h hs hl h1 h2 hB1 hB2
  go_enter Tryd.func17, Tryd.ntmps17
  go_wp2_with fail
  refine HC.out.mono ?_
  rintro e w1 ⟨rfl, rfl⟩
  go_wp2_with fail
  go_ret2
  exact ⟨rfl, p, H2.out, HT.out, fun k hk => .inl hk⟩
set_option maxHeartbeats 800000 in
theorem ask_state (h : Bs w base B p s) {E : Nat → Addr} (hE : w.cell? ⟨1, 0, none⟩ = some (errV E 9)) (token : Int) (h1 : 0 ≤ token) (h2 : token < 256) (hs : s.state ≠ 1 ∨ 0 < s.l.length) :
    Calls Tryd.prog 17 #[.pointer (some ⟨B, 0, none⟩), .int .i64 token] w fun e w' => e = .returned (.tuple #[.int .i64 0, errV E 9]) ∧ ∃ n, w' = w.drewN n := by
  have g1 : decide (token < 0) = false := decide_eq_false (by omega)
  have g2 : decide (256 ≤ token) = false := decide_eq_false (by omega)
  have c4 := h.c4
  have c6 := h.c6
  have hc' : w.cell? ⟨1, 0, none⟩ = some (.iface 115 (.pointer (some (E 9)))) := hE
  by_cases hs1 : s.state = 1
  · have hl : 0 < s.l.length := by rcases hs with h | h; exact absurd hs1 h; exact h
    have g3 : (s.state != 1) = false := by simp [hs1]
    have g4 : decide ((0 : Int) < (s.l.length : Int)) = true := decide_eq_true (by omega)
    clear h hs hs1 h1 h2 hE
    go_enter Tryd.func17, Tryd.ntmps17
    go_wp2_with fail
    go_quiet (fail)
    go_wp2_with fail
    go_ret2
    exact ⟨rfl, ⟨_, rfl⟩⟩
  · have g3 : (s.state != 1) = true := by simp [hs1]
    clear h hs hs1 h1 h2 hE
    go_enter Tryd.func17, Tryd.ntmps17
    go_wp2_with fail
    go_quiet (fail)
    go_wp2_with fail
    go_ret2
    exact ⟨rfl, ⟨_, rfl⟩⟩
end
end Go.Proofs.YthjjneanabnjoaaDoor
