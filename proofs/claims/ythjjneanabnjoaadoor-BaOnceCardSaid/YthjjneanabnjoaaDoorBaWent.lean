/-
  ba: Went.
-/
import Derived.Test.YthjjneanabnjoaaDoorBaLand
namespace Go.Proofs.YthjjneanabnjoaaDoor
open Go.ChangeShapes Go.WideShapes Go.ChangeAt Go.RowKit
set_option linter.unusedVariables false

set_option maxHeartbeats 800000 in
theorem containsI_any (A : Option Addr) (n C : Nat) (xs : List Int) (z : Int) (w : World) (h : Row w 1 A n C (xs.map (Value.int .i64))) :
    Calls Tryd.prog 35 #[.slice A n C, .int .i64 z] w fun e w' => e = .returned (.bool (xs.contains z)) ∧ w = w' := by
  by_cases hz : z ∈ xs
  · obtain ⟨i, hi, hfst⟩ : ∃ i : Nat, xs[i]? = some z ∧ ∀ j, j < i → xs[j]? ≠ some z := by
      have hP : ∃ i : Nat, xs[i]? = some z := by
        obtain ⟨i, hi, e⟩ := List.getElem_of_mem hz
        exact ⟨i, by rw [List.getElem?_eq_getElem hi, e]⟩
      have key : ∀ n : Nat, (∃ i, i < n ∧ xs[i]? = some z) → ∃ i : Nat, xs[i]? = some z ∧ ∀ j, j < i → xs[j]? ≠ some z := by
        intro n
        induction n with
        | zero => rintro ⟨i, hi, _⟩; omega
        | succ n ih =>
          rintro ⟨i, hi, e⟩
          by_cases hn : ∃ i, i < n ∧ xs[i]? = some z
          · exact ih hn
          · refine ⟨i, e, fun j hj e2 => hn ⟨j, by omega, e2⟩⟩
      obtain ⟨i, e⟩ := hP
      exact key (i + 1) ⟨i, Nat.lt_succ_self _, e⟩
    have HC := Lib.hid (index_yes A n C xs z w h i hi hfst)
    have HR := Lib.hid (show xs.contains z = true by rw [List.contains_iff_mem]; exact hz)
    have q : decide ((0 : Int) ≤ (i : Int)) = true := decide_eq_true (by omega)
    clear h hi hfst hz
    go_enter Tryd.func35, Tryd.ntmps35
    go_wp2_with fail
    refine HC.out.mono ?_
    rintro e w1 ⟨rfl, rfl⟩
    go_wp2_with fail
    go_ret
    exact ⟨ret_bool HR.out.symm, rfl⟩
  · have HC := Lib.hid (index_no A n C xs z w h hz)
    have HR := Lib.hid (show xs.contains z = false by rw [← Bool.not_eq_true, List.contains_iff_mem]; exact hz)
    clear h hz
    go_enter Tryd.func35, Tryd.ntmps35
    go_wp2_with fail
    refine HC.out.mono ?_
    rintro e w1 ⟨rfl, rfl⟩
    go_wp2_with fail
    go_ret
    exact ⟨ret_bool HR.out.symm, rfl⟩
/-- number i of ns may go: it is none of those ahead of it, and due -/
def goes (l : List Fm) (ns : List Int) (i : Nat) (n : Int) : Bool := !(ns.take i).contains n && l.any (dueN n)
def went1 (ns : List Int) (x : Fm) : Fm := if ns.contains x.m.seq then { x with fl := true, m := { x.m with sent := x.m.sent + 1 } } else x
def wentS (s : BS) (ns : List Int) : BS := { s with l := s.l.map (went1 ns) }
theorem row_takeI {w : World} {A : Option Addr} {n C : Nat} {xs : List Int} (h : Row w 1 A n C (xs.map (Value.int .i64))) {k : Nat} (hk : k ≤ n) : Row w 1 A k C ((xs.take k).map (Value.int .i64)) := by
  have := h.take hk
  rwa [Nat.mul_one, ← List.map_take] at this

set_option maxRecDepth 100000 in
set_option maxHeartbeats 3200000 in
theorem went_none {w : World} {base B : Nat} {p : BP} {s : BS} {E : Nat → Addr} (h : Bs w base B p s) (hE : w.cell? ⟨3, 0, none⟩ = some (errV E 6)) (A : Option Addr) (n C : Nat) (ns : List Int) (hr : Row w 1 A n C (ns.map (Value.int .i64)))
    (i : Nat) (z : Int) (hi : ns[i]? = some z) (hbad : goes s.l ns i z = false) (hok : ∀ j y, j < i → ns[j]? = some y → goes s.l ns j y = true) :
    Calls Tryd.prog 13 #[.pointer (some ⟨B, 0, none⟩), .slice A n C] w fun e w' => e = .returned (errV E 6) ∧ Below w.heap.size w w' := by
  have hmf : ∀ (fn : Fn) (first cap : Array Value) (w : World), (Instr.makeFunc fn first cap).run Tryd.prog w = .ok (.func fn first cap) w := fun _ _ _ _ => rfl
  have hlt := World.block_lt_of_cell? w _ hE
  have hcap := hr.len_cap
  have H := Lib.hid h
  have HE := Lib.hid hE
  have HR := Lib.hid hr
  have HI := Lib.hid hi
  have HBAD := Lib.hid hbad
  have HOK := Lib.hid hok
  have hlen : ns.length = n := by simpa using hr.1
  have hin : i < n := by rw [← hlen]; exact (List.getElem?_eq_some_iff.1 hi).1
  have HLEN := Lib.hid hlen
  clear h hE hr hi hbad hok hlen
  go_enter Tryd.func13, Tryd.ntmps13
  go_wp2_with fail
  go_loopw [11] (fun iv wr => ∃ k : Nat, k ≤ i ∧ iv = .int .i64 k ∧ Below w.heap.size w wr) (fun iv _ => n - (intOf iv).toNat)
  case atStart => exact ⟨0, Nat.zero_le _, rfl, Below.refl _ _⟩
  case round =>
    obtain ⟨k, hk, rfl, hb⟩ := hrel
    have HB := Lib.hid hb
    have hz := hb.size
    clear hb
    have hkn : k < n := by omega
    obtain ⟨y, hy⟩ : ∃ y, ns[k]? = some y := ⟨_, List.getElem?_eq_getElem (by rw [HLEN.out]; exact hkn)⟩
    obtain ⟨g, off, rfl, hg, hcell⟩ := HR.out.at_ (by omega)
    have ck : wr.cell? ⟨g, off + k, none⟩ = some (.int .i64 y) := (HB.out.cell (p := ⟨g, off + k, none⟩) hg).trans (hcell k _ (by rw [List.getElem?_map, hy]; rfl))
    have HY := Lib.hid hy
    clear hcell hy
    have HBX := Lib.hid (HB.out.alloc hz (.cells #[.int .i64 y] 3))
    have HRX := Lib.hid (HR.out.below HBX.out (Nat.le_refl _))
    have cb : (wr.alloc (.cells #[.int .i64 y] 3)).cell? ⟨wr.heap.size, 0, none⟩ = some (.int .i64 y) := (Blk.new wr #[.int .i64 y] 3).cell 0
    have HKON := Lib.hid (show ∀ m, Calls Tryd.prog 35 #[.slice (some ⟨g, off, none⟩) k C, .int .i64 y] ((wr.alloc (.cells #[.int .i64 y] 3)).drewN m) fun e w' => e = .returned (.bool ((ns.take k).contains y)) ∧ ((wr.alloc (.cells #[.int .i64 y] 3)).drewN m) = w' from fun m => containsI_any (some ⟨g, off, none⟩) k C (ns.take k) y _ (row_takeI (HRX.out.drewN m) (by omega)))
    have HS := Lib.hid (H.out.below HBX.out (Nat.le_refl _))
    have he : ∀ m, ((wr.alloc (.cells #[.int .i64 y] 3)).drewN m).cell? ⟨3, 0, none⟩ = some (.iface 115 (.pointer (some (E 6)))) := fun m => (HBX.out.cell (p := ⟨3, 0, none⟩) hlt).trans HE.out
    have hg1 := hk
    cases hdup : (ns.take k).contains y with
    | true =>
      rw [hdup] at HKON
      go_wp2_with fail
      go_quiet ((go_at_call 35; (with_reducible exact quiet_same (HKON.out _))))
      have he1 := he nq
      clear he
      go_wp2_with fail
      go_ret
      exact ⟨rfl, HBX.out.trans (below_drewN nq)⟩
    | false =>
      rw [hdup] at HKON
      have HKN1 := HKON.out 1
      have HCF := Lib.hid (containsFunc_any (HS.out.drewN 1).own _ _ _ (pred_went (w := (wr.alloc (.cells #[.int .i64 y] 3)).drewN 1) cb))
      have d6 := HS.out.c6
      cases hany : s.l.any (dueN y) with
      | true =>
        rw [hany] at HCF
        have hgo : goes s.l ns k y = true := by unfold goes; rw [hdup, hany]; rfl
        have hki : k < i := by
          rcases Nat.lt_or_ge k i with h | h
          · exact h
          · obtain rfl : k = i := by omega
            have := HBAD.out
            rw [HI.out] at HY
            have e := HY.out
            injection e with e
            rw [e, hgo] at this
            cases this
        clear hany hdup hgo he
        go_wp2_with fail
        go_region_with (first
          | (go_at_call 35; refine HKN1.mono ?_; rintro e w2 ⟨rfl, rfl⟩)
          | (go_at_call 36; refine HCF.out.mono ?_; rintro e w3 ⟨rfl, hb3⟩))
        all_goals
          have HB3 := Lib.hid (HBX.out.trans ((below_drewN 1).trans (hb3.mono HBX.out.size)))
          clear hb3
          go_wp2_with fail
          go_roundw
          (case rel => exact ⟨k + 1, by omega, by go_num, HB3.out⟩)
          (case measure => simp [intOf]; omega)
      | false =>
        rw [hany] at HCF
        clear hany hdup
        go_wp2_with fail
        go_region_with (first
          | (go_at_call 35; refine HKN1.mono ?_; rintro e w2 ⟨rfl, rfl⟩)
          | (go_at_call 36; refine HCF.out.mono ?_; rintro e w3 ⟨rfl, hb3⟩; have he3 := (hb3.cell (p := ⟨3, 0, none⟩) (by have := hlt; simp [World.drewN]; omega)).trans (he 1)))
        all_goals
          have HB3 := Lib.hid (HBX.out.trans ((below_drewN 1).trans (hb3.mono HBX.out.size)))
          clear hb3 he
          go_wp2_with fail
          go_ret
          exact ⟨rfl, HB3.out⟩
end Go.Proofs.YthjjneanabnjoaaDoor
