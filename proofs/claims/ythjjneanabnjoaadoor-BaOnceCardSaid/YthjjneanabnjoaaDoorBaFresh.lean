/-
  ba: Fresh.
-/
import Derived.Test.YthjjneanabnjoaaDoorBaPred
namespace Go.Proofs.YthjjneanabnjoaaDoor
open Go.ChangeShapes Go.WideShapes Go.ChangeAt Go.RowKit
set_option linter.unusedVariables false

/-- a packet: its cells; the frame made of it -/
def pkA (m : Mp) (A : Option Addr) (C : Nat) : Array Value := #[.int .i64 m.id, .int .u32 m.flow, .int .i64 m.tid, .int .i64 m.at_, .slice A m.body.length C]
def freshM (s : BS) (m : Mp) (now : Int) : Mp := { m with seq := s.w.nx, sent := 0, unt := now + s.life }
/-- what it hands back where it gives none -/
def FreshNo (E : Nat → Addr) (w : World) (c : Nat) (e : Ending) (w' : World) : Prop := e = .returned (.tuple #[.agg zmp, errV E c]) ∧ Below w.heap.size w w'
theorem zmp_eq : zmp = #[.int .i64 0, .int .u32 0, .int .i64 0, .int .i64 0, .slice none 0 0, .int .i64 0, .int .i64 0, .int .i64 0] := rfl

section
variable {w : World} {base B : Nat} {p : BP} {s : BS} {E : Nat → Addr}
set_option maxRecDepth 100000 in
set_option maxHeartbeats 1600000 in
theorem fresh_state (h : Bs w base B p s) (hE : w.cell? ⟨1, 0, none⟩ = some (errV E 9)) (m : Mp) (A : Option Addr) (C : Nat) (now : Int) (hs : s.state = 2) :
    Calls Tryd.prog 12 #[.pointer (some ⟨B, 0, none⟩), .agg (pkA m A C), .int .i64 now] w (FreshNo E w 9) := by
  have hk0 := (h.alloc (.cells (pkA m A C) 32)).alloc (.cells zmp 34)
  have c4 := hk0.c4
  rw [hs] at c4
  have hr0 := Blk.new (w.alloc (.cells (pkA m A C) 32)) zmp 34
  rw [show (w.alloc (.cells (pkA m A C) 32)).heap.size = w.heap.size + 1 by simp] at hr0
  have hb0 : Below w.heap.size w ((w.alloc (.cells (pkA m A C) 32)).alloc (.cells zmp 34)) := ((Below.refl _ _).alloc (Nat.le_refl _) _).alloc (by simp) _
  have hlt := World.block_lt_of_cell? w _ hE
  simp only [] at hlt
  have ce := Lib.cell?_alloc_some (.cells zmp 34) (Lib.cell?_alloc_some (.cells (pkA m A C) 32) hE)
  have HR := Lib.hid hr0
  have HB := Lib.hid hb0
  have HCE := Lib.hid ce
  clear hr0 hb0 hk0 h ce hE
  rw [zmp_eq] at c4 HR HB HCE
  go_enter Tryd.func12, Tryd.ntmps12
  go_wp2_with fail
  generalize (w.alloc _).alloc _ = W0 at *
  refine wp_zero_err (by kernel_rfl) _ _ _ _ _ _ _ _ _ _ _ _ 34 zmp zmp (errV E 9) (by decide) (by decide) (by decide) (by simp) (by simp) rfl HR.out (by kernel_rfl) (by kernel_rfl) rfl (by kernel_rfl) (by intro w; kernel_rfl) HCE.out (by omega) ?_
  intro w1 hk1 hg1
  go_wp2_with fail
  exact ret_cell_tmp rfl _ _ zmp (errV E 9) rfl hk1 (by kernel_rfl) (by kernel_rfl) rfl rfl ⟨rfl, Below.grown HB.out hg1 (by have := HR.out.lt; omega) (by simp)⟩

set_option maxRecDepth 100000 in
set_option maxHeartbeats 3200000 in
theorem fresh_full (h : Bs w base B p s) (hE : w.cell? ⟨2, 0, none⟩ = some (errV E 8)) (m : Mp) (A : Option Addr) (C : Nat) (now : Int) (hs : s.state ≠ 2) (h1 : 0 ≤ s.w.sz) (h2 : s.w.sz ≤ 1000000) (hf : s.asks = true ∨ room s.w = 0) :
    Calls Tryd.prog 12 #[.pointer (some ⟨B, 0, none⟩), .agg (pkA m A C), .int .i64 now] w (FreshNo E w 8) := by
  have hk0 := (h.alloc (.cells (pkA m A C) 32)).alloc (.cells zmp 34)
  have c4 := hk0.c4
  have c7 := hk0.c7
  have c0 := hk0.c0
  have g4 : (s.state == 2) = false := by simp [hs]
  have hr0 := Blk.new (w.alloc (.cells (pkA m A C) 32)) zmp 34
  rw [show (w.alloc (.cells (pkA m A C) 32)).heap.size = w.heap.size + 1 by simp] at hr0
  have hb0 : Below w.heap.size w ((w.alloc (.cells (pkA m A C) 32)).alloc (.cells zmp 34)) := ((Below.refl _ _).alloc (Nat.le_refl _) _).alloc (by simp) _
  have hlt := World.block_lt_of_cell? w _ hE
  simp only [] at hlt
  have ce := Lib.cell?_alloc_some (.cells zmp 34) (Lib.cell?_alloc_some (.cells (pkA m A C) 32) hE)
  have HR := Lib.hid hr0
  have HB := Lib.hid hb0
  have HCE := Lib.hid ce
  have HK := Lib.hid hk0
  clear hr0 hb0 hk0 h ce hE hs
  rw [zmp_eq] at c4 c7 c0 HR HB HCE HK
  by_cases ha : s.asks = true
  case pos =>
    rw [ha] at c7
    clear HK c0 ha hf
    go_enter Tryd.func12, Tryd.ntmps12
    go_wp2_with fail
    generalize (w.alloc _).alloc _ = W0 at *
    refine wp_zero_err (by kernel_rfl) _ _ _ _ _ _ _ _ _ _ _ _ 34 zmp zmp (errV E 8) (by decide) (by decide) (by decide) (by simp) (by simp) rfl HR.out (by kernel_rfl) (by kernel_rfl) rfl (by kernel_rfl) (by intro w; kernel_rfl) HCE.out (by omega) ?_
    intro w1 hk1 hg1
    go_wp2_with fail
    exact ret_cell_tmp rfl _ _ zmp (errV E 8) rfl hk1 (by kernel_rfl) (by kernel_rfl) rfl rfl ⟨rfl, Below.grown HB.out hg1 (by have := HR.out.lt; omega) (by simp)⟩
  case neg =>
    have ha' : s.asks = false := by simpa using ha
    have hr : room s.w = 0 := by rcases hf with h | h; exact absurd h ha; exact h
    rw [ha'] at c7
    have HC := Lib.hid (next_no HK.out.win h1 h2 hr)
    clear HK ha ha' hf hr
    go_enter Tryd.func12, Tryd.ntmps12
    go_wp2_with fail
    refine HC.out.mono ?_
    rintro e w1 ⟨rfl, n, rfl⟩
    go_wp2_with fail
    have HR1 := Lib.hid (HR.out.drewN n)
    have HB1 := Lib.hid (HB.out.trans (below_drewN n))
    have HCE1 := Lib.hid (show (World.drewN ((w.alloc (.cells (pkA m A C) 32)).alloc (.cells #[.int .i64 0, .int .u32 0, .int .i64 0, .int .i64 0, .slice none 0 0, .int .i64 0, .int .i64 0, .int .i64 0] 34)) n).cell? ⟨2, 0, none⟩ = some (errV E 8) from HCE.out)
    clear HC HR HB HCE c0 c4 c7
    generalize ((w.alloc _).alloc _).drewN n = W0 at *
    refine wp_zero_err (by kernel_rfl) _ _ _ _ _ _ _ _ _ _ _ _ 34 zmp zmp (errV E 8) (by decide) (by decide) (by decide) (by simp) (by simp) rfl HR1.out (by kernel_rfl) (by kernel_rfl) rfl (by kernel_rfl) (by intro w; kernel_rfl) HCE1.out (by omega) ?_
    intro w1 hk1 hg1
    go_wp2_with fail
    exact ret_cell_tmp rfl _ _ zmp (errV E 8) rfl hk1 (by kernel_rfl) (by kernel_rfl) rfl rfl ⟨rfl, Below.grown HB1.out hg1 (by have := HR1.out.lt; omega) (by simp)⟩
end
end Go.Proofs.YthjjneanabnjoaaDoor
