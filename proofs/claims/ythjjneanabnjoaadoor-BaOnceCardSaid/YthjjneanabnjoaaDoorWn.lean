/-
  win.Win in memory: New, Start, Ahead, Room, Next.
-/
import Derived.Test.YthjjneanabnjoaaDoorSeqDist
import Derived.Test.YthjjneanabnjoaaDoorIntsFn
import Derived.Test.YthjjneanabnjoaaDoorErr
import Derived.Deep.RegionWith
namespace Go.Proofs.YthjjneanabnjoaaDoor
open Go.ChangeShapes Go.WideShapes Go.ChangeAt Go.RowKit
set_option linter.unusedVariables false

/-- a window: start, next, size, what is out -/
structure WS where
  st : Int
  nx : Int
  sz : Int
  o : List Int
def winC (s : WS) (A : Option Addr) (C : Nat) : Array Value := #[.int .i64 s.st, .int .i64 s.nx, .int .i64 s.sz, .slice A s.o.length C]
structure Wn (w : World) (base B : Nat) (A : Option Addr) (C : Nat) (s : WS) : Prop where
  blk : Blk w B (winC s A C) 94
  own : OwnI w base A s.o.length C s.o
def wnS (B : Nat) (A : Option Addr) : Nat → Prop := fun k => k = B ∨ Go.Proofs.YthjjneanabnjoaaDoor.blk A = some k
section
variable {w w' : World} {base B C : Nat} {A : Option Addr} {s : WS}
theorem Wn.c0 (h : Wn w base B A C s) : w.cell? ⟨B, 0, none⟩ = some (.int .i64 s.st) := h.blk.cell 0
theorem Wn.c1 (h : Wn w base B A C s) : w.cell? ⟨B, 1, none⟩ = some (.int .i64 s.nx) := h.blk.cell 1
theorem Wn.c2 (h : Wn w base B A C s) : w.cell? ⟨B, 2, none⟩ = some (.int .i64 s.sz) := h.blk.cell 2
theorem Wn.c3 (h : Wn w base B A C s) : w.cell? ⟨B, 3, none⟩ = some (.slice A s.o.length C) := h.blk.cell 3
theorem Wn.ne (h : Wn w base B A C s) : some B ≠ Go.Proofs.YthjjneanabnjoaaDoor.blk A := own_ne h.own h.blk (by decide)
theorem Wn.below {D : Nat} (h : Wn w base B A C s) (hb : Below D w w') (hD : w.heap.size ≤ D) : Wn w' base B A C s := ⟨h.blk.below hb (Nat.lt_of_lt_of_le h.blk.lt hD), h.own.below hb hD⟩
theorem Wn.alloc (h : Wn w base B A C s) (o : Obj) : Wn (w.alloc o) base B A C s := ⟨h.blk.alloc o, h.own.alloc o⟩
theorem Wn.drewN (h : Wn w base B A C s) (n : Nat) : Wn (w.drewN n) base B A C s := ⟨h.blk, h.own⟩
theorem Wn.drew (h : Wn w base B A C s) : Wn w.drew base B A C s := ⟨h.blk, h.own⟩
theorem Wn.belowT (h : Wn w base B A C s) (hB : base ≤ B) (ht : Touch (wnS B A) w w') : Below base w w' :=
  ht.below (fun k hk => by
    rcases hk with rfl | hk
    · exact hB
    · exact (h.own.ge k hk).1) (Nat.le_trans hB (Nat.le_of_lt h.blk.lt))
theorem Wn.touch {S : Nat → Prop} (h : Wn w base B A C s) (ht : Touch S w w') (h1 : ¬ S B) (h2 : ∀ k, Go.Proofs.YthjjneanabnjoaaDoor.blk A = some k → ¬ S k) : Wn w' base B A C s := ⟨h.blk.touch ht h1, h.own.touch ht h2⟩
end

set_option maxHeartbeats 400000 in
theorem new_ok (st sz : Int) (w : World) (h0 : 0 ≤ st) (h1 : st < 4096) (h2 : 1 ≤ sz) (h3 : sz ≤ 64) :
    Calls Tryd.prog 32 #[.int .i64 st, .int .i64 sz] w fun e w' => e = .returned (.tuple #[.pointer (some ⟨w.heap.size, 0, none⟩), .nilIface]) ∧ Wn w' w.heap.size w.heap.size none 0 ⟨st, st, sz, []⟩ ∧ Below w.heap.size w w' := by
  go_enter Tryd.func32, Tryd.ntmps32
  go_wp2_with fail
  go_ret2
  exact ⟨rfl, ⟨Blk.new _ _ _, ownI_nil _ _⟩, (Below.refl _ _).alloc (Nat.le_refl _) _⟩

theorem start_any {w : World} {base B C : Nat} {A : Option Addr} {s : WS} (h : Wn w base B A C s) :
    Calls Tryd.prog 42 #[.pointer (some ⟨B, 0, none⟩)] w fun e w' => e = .returned (.int .i64 s.st) ∧ w = w' := by
  have c0 := h.c0
  go_enter Tryd.func42, Tryd.ntmps42
  go_wp2_with fail
  go_ret
  exact ⟨rfl, rfl⟩
theorem ahead_any {w : World} {base B C : Nat} {A : Option Addr} {s : WS} (h : Wn w base B A C s) :
    Calls Tryd.prog 44 #[.pointer (some ⟨B, 0, none⟩)] w fun e w' => e = .returned (.int .i64 s.nx) ∧ w = w' := by
  have c0 := h.c1
  go_enter Tryd.func44, Tryd.ntmps44
  go_wp2_with fail
  go_ret
  exact ⟨rfl, rfl⟩
/-- how many numbers it gives still -/
def room (s : WS) : Int := max (s.sz - (s.nx - s.st) % 4096) 0

set_option maxHeartbeats 1600000 in
theorem room_any {w : World} {base B C : Nat} {A : Option Addr} {s : WS} (h : Wn w base B A C s) (h1 : 0 ≤ s.sz) (h2 : s.sz ≤ 1000000) :
    Calls Tryd.prog 43 #[.pointer (some ⟨B, 0, none⟩)] w fun e w' => e = .returned (.int .i64 (room s)) ∧ ∃ n, w' = w.drewN n := by
  have c0 := h.c0
  have c1 := h.c1
  have c2 := h.c2
  have e1 := Int.emod_nonneg (s.nx - s.st) (show (4096 : Int) ≠ 0 by omega)
  have e2 := Int.emod_lt_of_pos (s.nx - s.st) (show (0 : Int) < 4096 by omega)
  have HR := Lib.hid (show room s = max (s.sz - (s.nx - s.st) % 4096) 0 from rfl)
  go_enter Tryd.func43, Tryd.ntmps43
  go_wp2_with fail
  go_quiet ((go_at_call 47; exact quiet_same (dist_any s.st s.nx _)))
  go_wp2_with fail
  go_ret
  exact ⟨ret_i64 HR.out.symm, _, rfl⟩

/-- Next -/
def nextS (s : WS) : WS := ⟨s.st, (s.nx + 1) % 4096, s.sz, s.o ++ [s.nx]⟩

set_option maxHeartbeats 800000 in
theorem next_no {w : World} {base B C : Nat} {A : Option Addr} {s : WS} (h : Wn w base B A C s) (h1 : 0 ≤ s.sz) (h2 : s.sz ≤ 1000000) (hr : room s = 0) :
    Calls Tryd.prog 33 #[.pointer (some ⟨B, 0, none⟩)] w fun e w' => e = .returned (.tuple #[.int .i64 0, .bool false]) ∧ ∃ n, w' = w.drewN n := by
  go_enter Tryd.func33, Tryd.ntmps33
  go_wp2_with fail
  refine (room_any h h1 h2).mono ?_
  rintro e w1 ⟨rfl, n, rfl⟩
  rw [hr]
  go_wp2_with fail
  go_ret2
  exact ⟨rfl, n, rfl⟩

set_option maxHeartbeats 1600000 in
theorem next_yes {w : World} {base B C : Nat} {A : Option Addr} {s : WS} (h : Wn w base B A C s) (h1 : 0 ≤ s.sz) (h2 : s.sz ≤ 1000000) (hr : ¬ room s = 0) (hl : s.o.length ≤ 1000000) (hB : base ≤ w.heap.size) :
    Calls Tryd.prog 33 #[.pointer (some ⟨B, 0, none⟩)] w fun e w' => e = .returned (.tuple #[.int .i64 s.nx, .bool true]) ∧
      ∃ A2 C2, Wn w' base B A2 C2 (nextS s) ∧ Touch (wnS B A) w w' ∧ (∀ k, blk A2 = some k → blk A = some k ∨ w.heap.size ≤ k) := by
  have H := Lib.hid h
  have hlt := h.blk.lt
  clear h
  obtain ⟨R, hR⟩ : ∃ R, room s = R := ⟨_, rfl⟩
  rw [hR] at hr
  have HRR := Lib.hid hR
  clear hR
  go_enter Tryd.func33, Tryd.ntmps33
  go_wp2_with fail
  refine (room_any H.out h1 h2).mono ?_
  rintro e w1 ⟨rfl, n, rfl⟩
  rw [HRR.out]
  have c1 : (w.drewN n).cell? ⟨B, 1, none⟩ = some (.int .i64 s.nx) := H.out.c1
  have f1 : (w.drewN n).frozen? ⟨B, 1, none⟩ = false := H.out.blk.frozen 1
  have c3 : (w.drewN n).cell? ⟨B, 3, none⟩ = some (.slice A s.o.length C) := H.out.c3
  have f3 : (w.drewN n).frozen? ⟨B, 3, none⟩ = false := H.out.blk.frozen 3
  go_wp2_with fail
  refine (add_any _ _ _).mono ?_
  rintro e w2 ⟨rfl, rfl⟩
  go_wp2_with (at_builtin; (refine append_int _ rfl (.tmp 21) (.tmp 23) rfl base A s.o.length C s.o rfl ((((H.out.drewN n).own).far ⟨B, 1, none⟩ H.out.ne _).alloc _) _ 1 1 [s.nx] rfl (row_int1' _ _ _ _ (by simp [World.setCell])) (by omega) (by simp [World.setCell]; omega) ?_; intro A2 C2 w3 hown3 hg3 hat3; have hk3 : Blk w3 B #[.int .i64 s.st, .int .i64 ((s.nx + 1) % 4096), .int .i64 s.sz, .slice A s.o.length C] 94 := Blk.grown (w := (w.drewN n |>.setCell ⟨B, 1, none⟩ (.int .i64 ((s.nx + 1) % 4096))).alloc (.cells #[.int .i64 s.nx] 3)) (Blk.alloc (Blk.set_ (w := w.drewN n) H.out.blk 1 _) _) hg3 H.out.ne; have d3 : w3.cell? ⟨B, 3, none⟩ = some (.slice A s.o.length C) := hk3.cell 3; have df3 := hk3.frozen 3))
  go_ret2
  have hne3 : some B ≠ blk A2 := by
    rcases hat3 with e | e
    · rw [e]; exact H.out.ne
    · rw [e]; intro x; injection x with x; simp [World.setCell] at x; omega
  refine ⟨rfl, A2, C2, ⟨?_, ?_⟩, ?_, ?_⟩
  · have := hk3.set_ 3 (.slice A2 (s.o.length + 1) C2)
    simp only [winC, nextS, List.length_append, List.length_singleton]
    exact this
  · have := hown3.far ⟨B, 3, none⟩ hne3 (.slice A2 (s.o.length + 1) C2)
    simp only [nextS, List.length_append, List.length_singleton]
    exact this
  · have t1 : Touch (wnS B A) w (((w.drewN n).setCell ⟨B, 1, none⟩ (.int .i64 ((s.nx + 1) % 4096))).alloc (.cells #[.int .i64 s.nx] 3)) :=
      ((touch_drew _ w n).trans (touch_set (wnS B A) _ _ _ _ (.inl rfl)) (fun _ _ x => x)).trans (touch_alloc (wnS B A) _ _) (fun _ _ x => x)
    exact (t1.trans (touch_of_grown (S := wnS B A) hg3 (fun k hk => .inr hk)) (fun _ _ x => x)).trans (touch_set _ _ _ _ _ (.inl rfl)) (fun _ _ x => x)
  · intro k hk
    rcases hat3 with e | e
    · exact .inl (e ▸ hk)
    · right; rw [e] at hk; injection hk with hk; simp [World.setCell] at hk; omega
end Go.Proofs.YthjjneanabnjoaaDoor
