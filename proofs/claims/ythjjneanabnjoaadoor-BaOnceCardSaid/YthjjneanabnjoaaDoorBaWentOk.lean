/-
  ba: Went, where all may go.
-/
import Derived.Test.YthjjneanabnjoaaDoorBaWent
namespace Go.Proofs.YthjjneanabnjoaaDoor
open Go.ChangeShapes Go.WideShapes Go.ChangeAt Go.RowKit
set_option linter.unusedVariables false

def WentR (E : Nat → Addr) (w : World) (base B : Nat) (p : BP) (s : BS) (ns : List Int) (e : Ending) (w' : World) : Prop :=
  (s.l.any (·.fl) = true ∧ e = .returned (errV E 9) ∧ Below w.heap.size w w') ∨ (s.l.any (·.fl) = false ∧ e = .returned .nilIface ∧ BStep w w' base B p s (wentS s ns))
theorem set_same {l : List Fm} {j : Nat} {x : Fm} (h : l[j]? = some x) : l.set j x = l := by
  obtain ⟨hj, rfl⟩ := List.getElem?_eq_some_iff.1 h
  exact List.set_getElem_self hj
def setFl (x : Fm) : Fm := { x with fl := true }
theorem went1_yes {ns : List Int} {x : Fm} (h : ns.contains x.m.seq = true) : went1 ns x = { x with fl := true, m := { x.m with sent := x.m.sent + 1 } } := by unfold went1; rw [if_pos h]
theorem went1_no {ns : List Int} {x : Fm} (h : ns.contains x.m.seq = false) : went1 ns x = x := by unfold went1; rw [if_neg (by rw [h]; decide)]
theorem went1_A (ns : List Int) (x : Fm) : (went1 ns x).A = x.A := by unfold went1; split <;> rfl

set_option maxRecDepth 100000 in
set_option maxHeartbeats 6400000 in
theorem went_pass {w : World} {base B : Nat} {p : BP} {s : BS} {E : Nat → Addr} (h : Bs w base B p s) (hE : w.cell? ⟨1, 0, none⟩ = some (errV E 9)) (A : Option Addr) (n C : Nat) (ns : List Int) (hr : Row w 1 A n C (ns.map (Value.int .i64))) (hsep : ∀ k, blk A = some k → ¬ bsS B p s k)
    (hok : ∀ (j : Nat) (y : Int), ns[j]? = some y → goes s.l ns j y = true) (hsent : ∀ x ∈ s.l, 0 ≤ x.m.sent ∧ x.m.sent ≤ 1000000) :
    Calls Tryd.prog 13 #[.pointer (some ⟨B, 0, none⟩), .slice A n C] w (WentR E w base B p s ns) := by
  have hmf : ∀ (fn : Fn) (first cap : Array Value) (w : World), (Instr.makeFunc fn first cap).run Tryd.prog w = .ok (.func fn first cap) w := fun _ _ _ _ => rfl
  have hlt := World.block_lt_of_cell? w _ hE
  have hcap := hr.len_cap
  have hlcap := (row_of_own h.own).len_cap
  have H := Lib.hid h
  have HE := Lib.hid hE
  have HR := Lib.hid hr
  have HOK := Lib.hid hok
  have HSEP := Lib.hid hsep
  have HSENT := Lib.hid hsent
  have hlen : ns.length = n := by simpa using hr.1
  have HLEN := Lib.hid hlen
  clear h hE hr hok hlen hsep hsent
  go_enter Tryd.func13, Tryd.ntmps13
  go_wp2_with fail
  go_loopw [11] (fun iv wr => ∃ k : Nat, k ≤ n ∧ iv = .int .i64 k ∧ Below w.heap.size w wr) (fun iv _ => n - (intOf iv).toNat)
  case atStart => exact ⟨0, Nat.zero_le _, rfl, Below.refl _ _⟩
  case round =>
    obtain ⟨k, hk, rfl, hb⟩ := hrel
    have HB := Lib.hid hb
    have hz := hb.size
    clear hb
    by_cases hkn : k < n
    case pos =>
      obtain ⟨y, hy⟩ : ∃ y, ns[k]? = some y := ⟨_, List.getElem?_eq_getElem (by rw [HLEN.out]; exact hkn)⟩
      obtain ⟨g, off, rfl, hg, hcell⟩ := HR.out.at_ (by omega)
      have ck : wr.cell? ⟨g, off + k, none⟩ = some (.int .i64 y) := (HB.out.cell (p := ⟨g, off + k, none⟩) hg).trans (hcell k _ (by rw [List.getElem?_map, hy]; rfl))
      have hgo := HOK.out k y hy
      unfold goes at hgo
      rw [Bool.and_eq_true, Bool.not_eq_true'] at hgo
      have HGO := Lib.hid hgo
      clear hcell hy hgo
      have HBX := Lib.hid (HB.out.alloc hz (.cells #[.int .i64 y] 3))
      have HRX := Lib.hid (HR.out.below HBX.out (Nat.le_refl _))
      have cb : (wr.alloc (.cells #[.int .i64 y] 3)).cell? ⟨wr.heap.size, 0, none⟩ = some (.int .i64 y) := (Blk.new wr #[.int .i64 y] 3).cell 0
      have HKN1 := Lib.hid (containsI_any (some ⟨g, off, none⟩) k C (ns.take k) y ((wr.alloc (.cells #[.int .i64 y] 3)).drewN 1) (row_takeI (HRX.out.drewN 1) (by omega)))
      have HS := Lib.hid (H.out.below HBX.out (Nat.le_refl _))
      rw [HGO.out.1] at HKN1
      have HCF := Lib.hid (containsFunc_any (HS.out.drewN 1).own _ _ _ (pred_went (w := (wr.alloc (.cells #[.int .i64 y] 3)).drewN 1) cb))
      rw [HGO.out.2] at HCF
      have d6 := HS.out.c6
      go_wp2_with fail
      go_region_with (first
        | (go_at_call 35; refine HKN1.out.mono ?_; rintro e w2 ⟨rfl, rfl⟩)
        | (go_at_call 36; refine HCF.out.mono ?_; rintro e w3 ⟨rfl, hb3⟩))
      all_goals
        have HB3 := Lib.hid (HBX.out.trans ((below_drewN 1).trans (hb3.mono HBX.out.size)))
        clear hb3
        go_wp2_with fail
        go_roundw
        (case rel => exact ⟨k + 1, by omega, by go_num, HB3.out⟩)
        (case measure => simp [intOf]; omega)
    case neg =>
      have HFC := Lib.hid (flies_any (H.out.below HB.out (Nat.le_refl _)))
      cases hfl : s.l.any (·.fl) with
      | true =>
        rw [hfl] at HFC
        have HFL := Lib.hid hfl
        clear hfl
        go_wp2_with fail
        refine HFC.out.mono ?_
        rintro e w4 ⟨rfl, hb4⟩
        have he : w4.cell? ⟨1, 0, none⟩ = some (.iface 115 (.pointer (some (E 9)))) := (hb4.cell (p := ⟨1, 0, none⟩) (Nat.lt_of_lt_of_le hlt hz)).trans ((HB.out.cell (p := ⟨1, 0, none⟩) hlt).trans HE.out)
        go_wp2_with fail
        go_ret
        exact .inl ⟨HFL.out, rfl, HB.out.trans (hb4.mono hz)⟩
      | false =>
        rw [hfl] at HFC
        have HFL := Lib.hid hfl
        clear hfl
        go_wp2_with fail
        refine HFC.out.mono ?_
        rintro e w4 ⟨rfl, hb4⟩
        have HB4 := Lib.hid (HB.out.trans (hb4.mono hz))
        have HS4 := Lib.hid (H.out.below HB4.out (Nat.le_refl _))
        have e6 := HS4.out.c6
        clear hb4
        go_wp2_with fail
        go_loopw [40] (fun iv w5 => ∃ j : Nat, j ≤ s.l.length ∧ iv = .int .i64 j ∧ Bs w5 base B p { s with l := mapK (went1 ns) s.l j } ∧ Touch (bsS B p s) w w5) (fun iv _ => s.l.length - (intOf iv).toNat)
        case atStart => exact ⟨0, Nat.zero_le _, rfl, by rw [mapK_zero]; exact HS4.out, touch_of_below HB4.out (fun k hk _ => hk)⟩
        case round =>
          obtain ⟨j, hj, rfl, hW, hT⟩ := hrel
          have HW := Lib.hid hW
          have HT := Lib.hid hT
          clear hW hT e6
          by_cases hjn : j < s.l.length
          · obtain ⟨g, hgA, _, _, _, hcell, hfr, _⟩ := own_open HW.out.own (by simp [mapK_len]; omega)
            have hgA' : p.A = some ⟨g, 0, none⟩ := hgA
            obtain ⟨W0, AW0, CW0, A0, C0⟩ := p
            subst hgA'
            obtain ⟨x, hx⟩ : ∃ x, s.l[j]? = some x := ⟨_, List.getElem?_eq_getElem hjn⟩
            have d6 := HW.out.c6
            simp only [mapK_len] at d6
            have HKI := Lib.hid (containsI_any A n C ns x.m.seq wr (HR.out.keep HT.out.size (fun k hk hlt => HT.out.block k hlt (HSEP.out k hk))))
            have c5 : wr.cell? ⟨g, j * 9 + 5, none⟩ = some (.int .i64 x.m.seq) := hcell _ _ (flat_get fmC 9 fmC_len _ j 5 (by decide) (mapK_get hx) rfl)
            have c8 : wr.cell? ⟨g, j * 9 + 8, none⟩ = some (.bool x.fl) := hcell _ _ (flat_get fmC 9 fmC_len _ j 8 (by decide) (mapK_get hx) rfl)
            have f8 := hfr (j * 9 + 8)
            have HSU := Lib.hid (mapK_succ (f := went1 ns) hx)
            cases hc : ns.contains x.m.seq with
            | false =>
              rw [hc] at HKI
              have HSM := Lib.hid (show mapK (went1 ns) s.l (j + 1) = mapK (went1 ns) s.l j by rw [← HSU.out, went1_no hc]; exact set_same (mapK_get hx))
              clear hcell hfr hx hgA hc c8 f8
              go_wp2_with fail
              refine HKI.out.mono ?_
              rintro e w6 ⟨rfl, rfl⟩
              go_wp2_with fail
              go_roundw
              (case rel => exact ⟨j + 1, by omega, by go_num, by rw [HSM.out]; exact HW.out, HT.out⟩)
              (case measure => simp [intOf]; omega)
            | true =>
              rw [hc] at HKI
              have hse := HSENT.out x (List.mem_of_getElem? hx)
              have w1s : IntKind.i64.wrap (x.m.sent + 1) = x.m.sent + 1 := IntWalk.i64_in _ (by omega)
              have hN1 := Bs.setf (p := ⟨W0, AW0, CW0, some ⟨g, 0, none⟩, C0⟩) (x' := setFl x) HW.out (mapK_get hx) (show 8 < 9 by decide) (u := .bool true) rfl rfl rfl rfl
              have hjl : j < ((mapK (went1 ns) s.l j).set j (setFl x)).length := by simp [mapK_len]; omega
              have hx2 : ((mapK (went1 ns) s.l j).set j (setFl x))[j]? = some (setFl x) := by rw [List.getElem?_set_self (by simpa [mapK_len] using hjn)]
              obtain ⟨g', hg', _, _, _, hcell2, hfr2, _⟩ := own_open hN1.own (by show 0 < ((mapK (went1 ns) s.l j).set j (setFl x)).length; omega)
              injection hg' with hg'; injection hg' with hg'; subst hg'
              have c6 : (wr.setCell ⟨g, j * 9 + 8, none⟩ (.bool true)).cell? ⟨g, j * 9 + 6, none⟩ = some (.int .i64 x.m.sent) := hcell2 _ _ (flat_get fmC 9 fmC_len _ j 6 (by decide) hx2 rfl)
              have f6 := hfr2 (j * 9 + 6)
              have HN2 := Lib.hid (Bs.setf (p := ⟨W0, AW0, CW0, some ⟨g, 0, none⟩, C0⟩) (x' := { setFl x with m := { x.m with sent := x.m.sent + 1 } }) hN1 hx2 (show 6 < 9 by decide) (u := .int .i64 (x.m.sent + 1)) rfl rfl rfl rfl)
              have HTN := Lib.hid ((HT.out.trans (touch_set (bsS B ⟨W0, AW0, CW0, some ⟨g, 0, none⟩, C0⟩ s) wr g (j * 9 + 8) (.bool true) (.inr (.inr (.inr (.inl rfl))))) (fun _ _ x => x)).trans (touch_set (bsS B ⟨W0, AW0, CW0, some ⟨g, 0, none⟩, C0⟩ s) _ g (j * 9 + 6) (.int .i64 (x.m.sent + 1)) (.inr (.inr (.inr (.inl rfl))))) (fun _ _ x => x))
              have HSM := Lib.hid (show mapK (went1 ns) s.l (j + 1) = ((mapK (went1 ns) s.l j).set j (setFl x)).set j { setFl x with m := { x.m with sent := x.m.sent + 1 } } by rw [← HSU.out, went1_yes hc, List.set_set]; rfl)
              clear hcell hfr hx hgA hc hcell2 hfr2 hN1 hx2 hjl hse
              go_wp2_with fail
              refine HKI.out.mono ?_
              rintro e w6 ⟨rfl, rfl⟩
              go_wp2_with fail
              go_roundw
              (case rel => exact ⟨j + 1, by omega, by go_num, by rw [HSM.out]; exact HN2.out, HTN.out⟩)
              (case measure => simp [intOf]; omega)
          · have hje : j = s.l.length := by omega
            have HF := Lib.hid (show mapK (went1 ns) s.l j = s.l.map (went1 ns) by rw [hje, mapK_all])
            clear hje
            rw [HF.out] at HW
            go_wp2_with fail
            go_ret
            exact .inr ⟨HFL.out, rfl, p, HW.out, HT.out, fun k hk => .inl (bsS_map (f := went1 ns) (went1_A ns) hk)⟩
end Go.Proofs.YthjjneanabnjoaaDoor
