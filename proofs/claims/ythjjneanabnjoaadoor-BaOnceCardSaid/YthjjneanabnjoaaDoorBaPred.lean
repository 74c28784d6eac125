/-
  The predicates that ba.Session's methods hand over: what flies, what is due, all.
-/
import Derived.Test.YthjjneanabnjoaaDoorBaTake
import Derived.Shelf.Abstract
namespace Go.Proofs.YthjjneanabnjoaaDoor
open Go.ChangeShapes Go.WideShapes Go.ChangeAt Go.RowKit
set_option linter.unusedVariables false

section
variable (W : World) (x : Fm)
theorem bx5 : (W.alloc (.cells (fmC x).toArray 81)).cell? ⟨W.heap.size, 5, none⟩ = some (.int .i64 x.m.seq) := (Blk.new W (fmC x).toArray 81).cell 5
theorem bx6 : (W.alloc (.cells (fmC x).toArray 81)).cell? ⟨W.heap.size, 6, none⟩ = some (.int .i64 x.m.sent) := (Blk.new W (fmC x).toArray 81).cell 6
theorem bx7 : (W.alloc (.cells (fmC x).toArray 81)).cell? ⟨W.heap.size, 7, none⟩ = some (.int .i64 x.m.unt) := (Blk.new W (fmC x).toArray 81).cell 7
theorem bx8 : (W.alloc (.cells (fmC x).toArray 81)).cell? ⟨W.heap.size, 8, none⟩ = some (.bool x.fl) := (Blk.new W (fmC x).toArray 81).cell 8
end
set_option maxHeartbeats 400000 in
theorem pred_flies (w : World) : PredF 60 #[] (·.fl) w := by
  refine ⟨enters_of Tryd.func60 (by kernel_rfl) rfl, fun W x _ => ?_⟩
  change Calls _ _ #[.agg (fmC x).toArray] _ _
  have c8 := bx8 W x
  go_enter Tryd.func60, Tryd.ntmps60
  go_wp2_with fail
  go_ret
  exact ⟨rfl, (Below.refl _ _).alloc (Nat.le_refl _) _⟩
set_option maxHeartbeats 400000 in
theorem pred_flying (w : World) : PredF 52 #[] (·.fl) w := by
  refine ⟨enters_of Tryd.func52 (by kernel_rfl) rfl, fun W x _ => ?_⟩
  change Calls _ _ #[.agg (fmC x).toArray] _ _
  have c8 := bx8 W x
  go_enter Tryd.func52, Tryd.ntmps52
  go_wp2_with fail
  go_ret
  exact ⟨rfl, (Below.refl _ _).alloc (Nat.le_refl _) _⟩
set_option maxHeartbeats 400000 in
theorem pred_due (w : World) : PredF 51 #[] (fun x => !x.fl) w := by
  refine ⟨enters_of Tryd.func51 (by kernel_rfl) rfl, fun W x _ => ?_⟩
  change Calls _ _ #[.agg (fmC x).toArray] _ _
  have c8 := bx8 W x
  go_enter Tryd.func51, Tryd.ntmps51
  go_wp2_with fail
  go_ret
  exact ⟨rfl, (Below.refl _ _).alloc (Nat.le_refl _) _⟩
set_option maxHeartbeats 400000 in
theorem pred_out (w : World) : PredF 55 #[] (fun _ => true) w := by
  refine ⟨enters_of Tryd.func55 (by kernel_rfl) rfl, fun W x _ => ?_⟩
  change Calls _ _ #[.agg (fmC x).toArray] _ _
  go_enter Tryd.func55, Tryd.ntmps55
  go_wp2_with fail
  go_ret
  exact ⟨rfl, (Below.refl _ _).alloc (Nat.le_refl _) _⟩
/-- frame n, not under way -/
def dueN (n : Int) (x : Fm) : Bool := !x.fl && x.m.seq == n
set_option maxHeartbeats 800000 in
theorem pred_went {w : World} {b : Nat} {n : Int} (hb : w.cell? ⟨b, 0, none⟩ = some (.int .i64 n)) : PredF 37 #[.pointer (some ⟨b, 0, none⟩)] (dueN n) w := by
  refine ⟨enters_of Tryd.func37 (by kernel_rfl) rfl, fun W x hW => ?_⟩
  change Calls _ _ #[.agg (fmC x).toArray, .pointer (some ⟨b, 0, none⟩)] _ _
  have hlt := World.block_lt_of_cell? w _ hb
  have c0 : W.cell? ⟨b, 0, none⟩ = some (.int .i64 n) := (hW.cell (p := ⟨b, 0, none⟩) hlt).trans hb
  have c1 : (W.alloc (.cells (fmC x).toArray 81)).cell? ⟨b, 0, none⟩ = some (.int .i64 n) := (World.cell?_alloc_past _ _ _ (Nat.lt_of_lt_of_le hlt hW.size)).trans c0
  have c8 := bx8 W x
  have c5 := bx5 W x
  rcases hfl : x.fl
  · rw [hfl] at c8
    have HR := Lib.hid (show dueN n x = (x.m.seq == n) by unfold dueN; rw [hfl]; rfl)
    go_enter Tryd.func37, Tryd.ntmps37
    go_wp2_with fail
    go_ret
    exact ⟨ret_bool HR.out.symm, (Below.refl _ _).alloc (Nat.le_refl _) _⟩
  · rw [hfl] at c8
    have HR := Lib.hid (show dueN n x = false by unfold dueN; rw [hfl]; rfl)
    go_enter Tryd.func37, Tryd.ntmps37
    go_wp2_with fail
    go_ret
    exact ⟨ret_bool HR.out.symm, (Below.refl _ _).alloc (Nat.le_refl _) _⟩

set_option maxHeartbeats 800000 in
theorem flies_any {w : World} {base B : Nat} {p : BP} {s : BS} (h : Bs w base B p s) :
    Calls Tryd.prog 38 #[.pointer (some ⟨B, 0, none⟩)] w fun e w' => e = .returned (.bool (s.l.any (·.fl))) ∧ Below w.heap.size w w' := by
  have c6 := h.c6
  have HC := Lib.hid (containsFunc_any h.own _ _ _ (pred_flies w))
  go_enter Tryd.func38, Tryd.ntmps38
  go_wp2_with fail
  refine HC.out.mono ?_
  rintro e w1 ⟨rfl, hb1⟩
  go_wp2_with fail
  go_ret
  exact ⟨rfl, hb1⟩
/-- what Due, Flying, Out hand back -/
def ListR (w : World) (L : List Mp) (e : Ending) (w' : World) : Prop := ∃ A n C M, e = .returned (.slice A n C) ∧ OwnM w' w.heap.size A n C M ∧ M.map (·.m) = L ∧ Below w.heap.size w w'
set_option maxHeartbeats 800000 in
theorem due_any {w : World} {base B : Nat} {p : BP} {s : BS} (h : Bs w base B p s) (hl : s.l.length ≤ 1000000) (hbl : ∀ x ∈ s.l, x.m.body.length ≤ 1048576) :
    Calls Tryd.prog 22 #[.pointer (some ⟨B, 0, none⟩)] w (ListR w ((s.l.filter (fun x => !x.fl)).map (·.m))) := by
  have HC := Lib.hid (list_any h hl hbl _ _ _ (pred_due w))
  clear h hbl
  go_enter Tryd.func22, Tryd.ntmps22
  go_wp2_with fail
  refine HC.out.mono ?_
  rintro e w1 ⟨A, n, C, M, rfl, ho, hm, hb1⟩
  go_wp2_with fail
  go_ret
  exact ⟨A, n, C, M, rfl, ho, hm, hb1⟩
set_option maxHeartbeats 800000 in
theorem flying_any {w : World} {base B : Nat} {p : BP} {s : BS} (h : Bs w base B p s) (hl : s.l.length ≤ 1000000) (hbl : ∀ x ∈ s.l, x.m.body.length ≤ 1048576) :
    Calls Tryd.prog 24 #[.pointer (some ⟨B, 0, none⟩)] w (ListR w ((s.l.filter (·.fl)).map (·.m))) := by
  have HC := Lib.hid (list_any h hl hbl _ _ _ (pred_flying w))
  clear h hbl
  go_enter Tryd.func24, Tryd.ntmps24
  go_wp2_with fail
  refine HC.out.mono ?_
  rintro e w1 ⟨A, n, C, M, rfl, ho, hm, hb1⟩
  go_wp2_with fail
  go_ret
  exact ⟨A, n, C, M, rfl, ho, hm, hb1⟩
set_option maxHeartbeats 800000 in
theorem out_any {w : World} {base B : Nat} {p : BP} {s : BS} (h : Bs w base B p s) (hl : s.l.length ≤ 1000000) (hbl : ∀ x ∈ s.l, x.m.body.length ≤ 1048576) :
    Calls Tryd.prog 29 #[.pointer (some ⟨B, 0, none⟩)] w (ListR w (s.l.map (·.m))) := by
  have HC := Lib.hid (list_any h hl hbl _ _ _ (pred_out w))
  rw [List.filter_eq_self.2 (fun _ _ => rfl)] at HC
  clear h hbl
  go_enter Tryd.func29, Tryd.ntmps29
  go_wp2_with fail
  refine HC.out.mono ?_
  rintro e w1 ⟨A, n, C, M, rfl, ho, hm, hb1⟩
  go_wp2_with fail
  go_ret
  exact ⟨A, n, C, M, rfl, ho, hm, hb1⟩
end Go.Proofs.YthjjneanabnjoaaDoor
