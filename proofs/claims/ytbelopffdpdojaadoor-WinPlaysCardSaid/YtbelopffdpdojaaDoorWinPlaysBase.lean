/-
  WinPlays: both sides of a window, one beside the other.
-/
import Derived.Test.YtbelopffdpdojaaDoorRefWin
import Derived.Test.YtbelopffdpdojaaDoorSee
import Derived.Test.YtbelopffdpdojaaDoorDo15
import Derived.Deep.CutBlock
import Derived.Deep.CutRange
namespace Go.Proofs.YtbelopffdpdojaaDoor
open Go.ChangeShapes Go.WideShapes Go.ChangeAt Go.RowKit
set_option linter.unusedVariables false

theorem blk_ne {w : World} {n m : Nat} {cs cs' : Array Value} {t t' : TypeId} (h : Blk w n cs t) (h' : Blk w m cs' t') (ht : t ≠ t') : n ≠ m := by
  rintro rfl
  unfold Blk at h h'
  rw [h] at h'
  injection h' with h'
  injection h' with _ h2
  exact ht h2
section
variable {w w' : World} {base B X C C2 Z st d : Nat} {A A2 : Option Addr} {s : WS} {ds : List Nat}
theorem cross_rw (hb : Wn w base B A C s) (hr : RWn w base X A2 C2 Z st d ds) (hs : ∀ k, blk A = some k → blk A2 ≠ some k) (ht : Touch (wnS B A) w w') : RWn w' base X A2 C2 Z st d ds := by
  refine hr.touch ht ?_ ?_
  · rintro (x | x)
    · exact blk_ne hb.blk hr.blk (by decide) x.symm
    · exact own_ne hb.own hr.blk (by decide) x.symm
  · rintro k hk (x | x)
    · exact own_ne hr.own hb.blk (by decide) (by rw [hk, x])
    · exact hs k x hk
theorem cross_wn (hb : Wn w base B A C s) (hr : RWn w base X A2 C2 Z st d ds) (hs : ∀ k, blk A = some k → blk A2 ≠ some k) (ht : Touch (wnS X A2) w w') : Wn w' base B A C s := by
  refine hb.touch ht ?_ ?_
  · rintro (x | x)
    · exact blk_ne hb.blk hr.blk (by decide) x
    · exact own_ne hr.own hb.blk (by decide) x.symm
  · rintro k hk (x | x)
    · exact own_ne hb.own hr.blk (by decide) (by rw [hk, x])
    · exact hs k hk x
theorem blk_w {n : Nat} {cs : Array Value} {t : TypeId} (hb : Wn w base B A C s) (hk : Blk w n cs t) (hn : n ≠ B) (ht : t ≠ 3) (htt : Touch (wnS B A) w w') : Blk w' n cs t :=
  hk.touch htt (by rintro (x | x); exact hn x; exact own_ne hb.own hk ht x.symm)
theorem blk_x {n : Nat} {cs : Array Value} {t : TypeId} (hr : RWn w base X A2 C2 Z st d ds) (hk : Blk w n cs t) (hn : n ≠ X) (ht : t ≠ 3) (htt : Touch (wnS X A2) w w') : Blk w' n cs t :=
  hk.touch htt (by rintro (x | x); exact hn x; exact own_ne hr.own hk ht x.symm)
theorem aheadC_any {a b c : Int} {v : Value} {Bc : Nat} (h : Blk w Bc #[.int .i64 a, .int .i64 b, .int .i64 c, v] 53) :
    Calls Tryd.prog 12 #[.pointer (some ⟨Bc, 0, none⟩)] w fun e w' => e = .returned (.int .i64 b) ∧ w = w' := by
  have c0 : w.cell? ⟨Bc, 1, none⟩ = some (.int .i64 b) := h.cell 1
  go_enter Tryd.func12, Tryd.ntmps12
  go_wp2_with fail
  go_ret
  exact ⟨rfl, rfl⟩
end

/-- what a round keeps -/
structure PW (w0 w : World) (B X : Nat) (A : Option Addr) (C : Nat) (A2 : Option Addr) (C2 Z st d : Nat) (ds : List Nat) : Prop where
  wn : Wn w w0.heap.size B A C (WH Z st d ds)
  rw_ : RWn w w0.heap.size X A2 C2 Z st d ds
  inv : HInv Z st d ds
  bel : Below w0.heap.size w0 w
  lo : w0.heap.size ≤ B ∧ w0.heap.size ≤ X
  z1 : 1 ≤ Z
  sep : ∀ k, blk A = some k → blk A2 ≠ some k

/-- Done, on both sides -/
theorem done_both {w : World} {base X Z st d i : Nat} {ds : List Nat} (h : HInv Z st d ds) {A2 : Option Addr} {C2 : Nat} (hb : ∃ x, x = (ds.eraseIdx i).headD d ∧ Blk w X #[.int .i64 (atD st x), .int .i64 ((d : Int) - (x : Int)), .int .i64 (Z : Int), .slice A2 (ds.eraseIdx i).length C2] 49)
    (ho : OwnI w base A2 (ds.eraseIdx i).length C2 ((ds.eraseIdx i).map (atD st))) : ∃ st' d' ds', doneS (WH Z st d ds) i = WH Z st' d' ds' ∧ HInv Z st' d' ds' ∧ RWn w base X A2 C2 Z st' d' ds' := by
  obtain ⟨st', d', ds', n1, n2⟩ := WH_done h i
  refine ⟨st', d', ds', n1, n2, ?_⟩
  obtain ⟨x, hx, hk⟩ := hb
  have hlt := h.lt; have hdz := h.dz; have h64 := h.z64; have h5 := n2.dz; have h6 := n2.lt
  have hxd : x ≤ d := by
    rw [hx]
    cases hc : ds.eraseIdx i with
    | nil => exact Nat.le_refl _
    | cons y l =>
      have := h.below y ((List.eraseIdx_sublist ds i).subset (by rw [hc]; exact List.mem_cons_self ..))
      show y ≤ d; omega
  have e0 : (ds.map (atD st)).eraseIdx i = (ds.eraseIdx i).map (atD st) := by
    apply List.ext_getElem?
    intro j
    simp only [List.getElem?_eraseIdx, List.getElem?_map]
    split <;> rfl
  have eo : (ds.eraseIdx i).map (atD st) = ds'.map (atD st') := by
    have := congrArg WS.o n1
    simp only [doneS, WH] at this
    rw [← e0]; exact this
  have es : atD st x = (st' : Int) := by
    have := congrArg WS.st n1
    simp only [doneS, WH, e0] at this
    rw [← this, hx]
    cases ds.eraseIdx i <;> rfl
  have en : atD st d = atD st' d' := by
    have := congrArg WS.nx n1
    simpa only [doneS, WH] using this
  have ed : (d : Int) - (x : Int) = (d' : Int) := by unfold atD at es en; omega
  have el : (ds.eraseIdx i).length = ds'.length := by simpa using congrArg List.length eo
  exact ⟨by rw [← es, ← ed, ← el]; exact hk, by rw [← eo, ← el]; exact ho⟩

set_option maxHeartbeats 800000 in
theorem new_bad (st sz : Int) (w : World) {E : Nat → Addr} (hE : Errs allErr w E) (h : ¬ (0 ≤ st ∧ st < 4096 ∧ 1 ≤ sz ∧ sz ≤ 64)) :
    Calls Tryd.prog 9 #[.int .i64 st, .int .i64 sz] w fun e w' => e = .returned (.tuple #[.pointer none, errV E 2]) ∧ ∃ n, w' = w.drewN n := by
  have hg := hE.at_ 2 0 (by decide) rfl
  by_cases h1 : st < 0
  · clear h
    go_enter Tryd.func9, Tryd.ntmps9
    go_wp2_with fail
    go_quiet (fail)
    go_wp2_with fail
    go_ret2
    exact ⟨rfl, _, rfl⟩
  by_cases h2 : 4096 ≤ st
  · clear h
    go_enter Tryd.func9, Tryd.ntmps9
    go_wp2_with fail
    go_quiet (fail)
    go_wp2_with fail
    go_ret2
    exact ⟨rfl, _, rfl⟩
  by_cases h3 : sz < 1
  · clear h
    go_enter Tryd.func9, Tryd.ntmps9
    go_wp2_with fail
    go_quiet (fail)
    go_wp2_with fail
    go_ret2
    exact ⟨rfl, _, rfl⟩
  · have h4 : 64 < sz := by omega
    clear h
    go_enter Tryd.func9, Tryd.ntmps9
    go_wp2_with fail
    go_quiet (fail)
    go_wp2_with fail
    go_ret2
    exact ⟨rfl, _, rfl⟩

set_option maxHeartbeats 800000 in
theorem valid_any (st sz : Int) (w : World) :
    Calls Tryd.prog 19 #[.int .i64 st, .int .i64 sz] w fun e w' => e = .returned (.bool (decide (0 ≤ st ∧ st < 4096 ∧ 1 ≤ sz ∧ sz ≤ 64))) ∧ w = w' := by
  by_cases h1 : 0 ≤ st
  · by_cases h2 : st < 4096
    · by_cases h3 : 1 ≤ sz
      · by_cases h4 : sz ≤ 64
        · go_enter Tryd.func19, Tryd.ntmps19
          go_wp2_with fail
          go_ret
          exact ⟨ret_bool (by simp [h1, h2, h3, h4]), rfl⟩
        · go_enter Tryd.func19, Tryd.ntmps19
          go_wp2_with fail
          go_ret
          exact ⟨ret_bool (by simp; omega), rfl⟩
      · go_enter Tryd.func19, Tryd.ntmps19
        go_wp2_with fail
        go_ret
        exact ⟨ret_bool (by simp; omega), rfl⟩
    · go_enter Tryd.func19, Tryd.ntmps19
      go_wp2_with fail
      go_ret
      exact ⟨ret_bool (by simp; omega), rfl⟩
  · go_enter Tryd.func19, Tryd.ntmps19
    go_wp2_with fail
    go_ret
    exact ⟨ret_bool (by simp; omega), rfl⟩

set_option maxHeartbeats 400000 in
theorem rnew_any (st sz : Nat) (hst : st < 4096) (w : World) :
    Calls Tryd.prog 20 #[.int .i64 (st : Int), .int .i64 (sz : Int)] w fun e w' => e = .returned (.pointer (some ⟨w.heap.size, 0, none⟩)) ∧ RWn w' w.heap.size w.heap.size none 0 sz st 0 [] ∧ Below w.heap.size w w' := by
  go_enter Tryd.func20, Tryd.ntmps20
  go_wp2_with fail
  go_ret
  exact ⟨rfl, ⟨Blk.new _ _ _, ownI_nil _ _⟩, (Below.refl _ _).alloc (Nat.le_refl _) _⟩
end Go.Proofs.YtbelopffdpdojaaDoor
