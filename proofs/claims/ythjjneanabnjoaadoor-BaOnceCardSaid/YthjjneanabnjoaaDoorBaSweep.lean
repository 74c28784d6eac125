/-
  ba: Sweep.
-/
import Derived.Test.YthjjneanabnjoaaDoorBaSweepPred
import Derived.Laws.EntriesVeiled
namespace Go.Proofs.YthjjneanabnjoaaDoor
open Go.ChangeShapes Go.WideShapes Go.ChangeAt Go.RowKit
set_option linter.unusedVariables false

def sweepS (s : BS) (now : Int) : BS :=
  if s.l.any (goneP s.retry now) = true ∧ s.state = 3 ∧ s.asks = false then { takeS s (goneP s.retry now) with asks := true, vain := 0 } else takeS s (goneP s.retry now)
def whysP (s : BS) (now : Int) : List Int := (s.l.map (whyP s.retry now)).filter (fun n => n != 0)
def SweepR (w : World) (base B : Nat) (p : BP) (s : BS) (now : Int) (e : Ending) (w' : World) : Prop :=
  ∃ A n C L A2 n2 C2, e = .returned (.tuple #[.slice A n C, .slice A2 n2 C2]) ∧ OwnM w' w.heap.size A n C L ∧ L.map (·.m) = (s.l.filter (goneP s.retry now)).map (·.m) ∧ OwnI w' w.heap.size A2 n2 C2 (whysP s now) ∧ BStep w w' base B p s (sweepS s now)
theorem whys_snoc {s : BS} {now : Int} {k : Nat} {x : Fm} (hx : s.l[k]? = some x) : ((s.l.take (k + 1)).map (whyP s.retry now)).filter (fun n => n != 0) = ((s.l.take k).map (whyP s.retry now)).filter (fun n => n != 0) ++ (if (whyP s.retry now x != 0) = true then [whyP s.retry now x] else []) := by
  obtain ⟨hk, e⟩ := List.getElem?_eq_some_iff.1 hx
  rw [List.take_succ_eq_append_getElem hk, List.map_append, List.filter_append, e]
  cases h : (whyP s.retry now x != 0) <;> simp [h]
theorem sweepS_l (s : BS) (now : Int) : (sweepS s now).l = (takeS s (goneP s.retry now)).l := by unfold sweepS; split <;> rfl

set_option maxRecDepth 100000 in
set_option maxHeartbeats 6400000 in
theorem sweep_any {w : World} {base B : Nat} {p : BP} {s : BS} (h : Bs w base B p s) (hbB : base ≤ B) (hbW : base ≤ p.W) (now : Int) (hl : s.l.length ≤ 1000000) (hbl : ∀ x ∈ s.l, x.m.body.length ≤ 1048576) (hsq : s.w.o = s.l.map (·.m.seq)) (hnd : s.w.o.Nodup) (hst : s.w.st = s.w.o.headD s.w.nx) :
    Calls Tryd.prog 14 #[.pointer (some ⟨B, 0, none⟩), .int .i64 now] w (SweepR w base B p s now) := by
  have hmf : ∀ (fn : Fn) (first cap : Array Value) (w : World), (Instr.makeFunc fn first cap).run Tryd.prog w = .ok (.func fn first cap) w := fun _ _ _ _ => rfl
  obtain ⟨W0, hW0⟩ : ∃ W0, W0 = ((w.alloc (.cells #[.pointer (some ⟨B, 0, none⟩)] 24)).alloc (.cells #[.int .i64 now] 2)).alloc (.cells #[.func (.func 39) #[] #[.pointer (some ⟨w.heap.size, 0, none⟩), .pointer (some ⟨w.heap.size + 1, 0, none⟩)]] 86) := ⟨_, rfl⟩
  have hb0 : Below w.heap.size w W0 := by rw [hW0]; exact (((Below.refl _ _).alloc (Nat.le_refl _) _).alloc (by simp) _).alloc (by simp; omega) _
  have k0 : Blk W0 w.heap.size #[.pointer (some ⟨B, 0, none⟩)] 24 := by rw [hW0]; exact ((Blk.new w _ _).alloc _).alloc _
  have k1 : Blk W0 (w.heap.size + 1) #[.int .i64 now] 2 := by
    rw [hW0]
    have := (Blk.new (w.alloc (.cells #[.pointer (some ⟨B, 0, none⟩)] 24)) #[.int .i64 now] 2)
    rw [show (w.alloc (.cells #[.pointer (some ⟨B, 0, none⟩)] 24)).heap.size = w.heap.size + 1 by simp] at this
    exact this.alloc _
  have k2 : Blk W0 (w.heap.size + 1 + 1) #[.func (.func 39) #[] #[.pointer (some ⟨w.heap.size, 0, none⟩), .pointer (some ⟨w.heap.size + 1, 0, none⟩)]] 86 := by
    rw [hW0]
    have := (Blk.new ((w.alloc (.cells #[.pointer (some ⟨B, 0, none⟩)] 24)).alloc (.cells #[.int .i64 now] 2)) #[.func (.func 39) #[] #[.pointer (some ⟨w.heap.size, 0, none⟩), .pointer (some ⟨w.heap.size + 1, 0, none⟩)]] 86)
    rw [show ((w.alloc (.cells #[.pointer (some ⟨B, 0, none⟩)] 24)).alloc (.cells #[.int .i64 now] 2)).heap.size = w.heap.size + 1 + 1 by simp] at this
    exact this
  have hlcap := (row_of_own h.own).len_cap
  have hge := h.ge hbB hbW
  have HGE := Lib.hid hge
  have HS0 := Lib.hid (h.below hb0 (Nat.le_refl _))
  have HB0 := Lib.hid hb0
  have K0 := Lib.hid k0
  have K1 := Lib.hid k1
  have K2 := Lib.hid k2
  have HSQ := Lib.hid hsq
  have HND := Lib.hid hnd
  have HST := Lib.hid hst
  have HBL := Lib.hid hbl
  have e0 : W0.cell? ⟨w.heap.size, 0, none⟩ = some (.pointer (some ⟨B, 0, none⟩)) := k0.cell 0
  have e6 := HS0.out.c6
  rw [hW0] at e0 e6
  have lB := h.lt
  have l2 := k2.lt
  clear h hb0 k0 k1 k2 hsq hnd hst hbl hge
  go_enter Tryd.func14, Tryd.ntmps14
  go_wp2_with fail
  rw [← hW0]
  rw [← hW0] at e0 e6
  clear hW0
  go_loopw [7, 18] (fun rv iv wr => ∃ (k : Nat) (A : Option Addr) (n C : Nat), k ≤ s.l.length ∧ iv = .int .i64 k ∧ rv = .slice A n C ∧ n ≤ k ∧ OwnI wr W0.heap.size A n C (((s.l.take k).map (whyP s.retry now)).filter (fun n => n != 0)) ∧ Below W0.heap.size W0 wr) (fun _ iv _ => s.l.length - (intOf iv).toNat)
  case atStart => exact ⟨0, none, 0, 0, Nat.zero_le _, rfl, rfl, Nat.le_refl _, ownI_nil _ _, Below.refl _ _⟩
  case round =>
    obtain ⟨k, A, n, C, hk, rfl, rfl, hnk, ho, hb⟩ := hrel
    have HO := Lib.hid ho
    have HB := Lib.hid hb
    have hs := hb.size
    clear ho hb e0 e6
    by_cases hkn : k < s.l.length
    case pos =>
      obtain ⟨g, hgA, hg1, hg2, hC, hfr, hat⟩ := rowF_at HS0.out.own (by omega)
      rw [hgA]
      obtain ⟨x, hx⟩ : ∃ x, s.l[k]? = some x := ⟨_, List.getElem?_eq_getElem hkn⟩
      have HX := Lib.hid (rangeAt_below (hat k x hx) HB.out hg2)
      have HWS := Lib.hid (whys_snoc (now := now) hx)
      clear hat hfr hx
      go_wp2_with (first
        | (refine wpList_load_mid (by rfl) 81 (.tmp 20) rfl g (k * 9) rfl (fmC x) _ HX.out Tryd.underlying81 rfl (by kernel_rfl) ?_)
        | (refine wpList_store_blk _ (by rfl) 81 _ _ rfl wr.heap.size (fmC x).toArray rfl rfl 81 _ (Blk.new _ _ _) (by kernel_rfl) rfl (by simp [fmC, Value.oneCell']) ?_; intro w3 hk3 hg3; have hb3 := Below.grown ((Below.refl wr.heap.size wr).alloc (Nat.le_refl _) _) hg3 (by simp) (by simp); have HK3 := Lib.hid hk3; have HB3 := Lib.hid (HB.out.trans (hb3.mono hs)); have HO3 := Lib.hid (HO.out.below hb3 (Nat.le_refl _)); have c2 : w3.cell? ⟨w.heap.size + 1 + 1, 0, none⟩ = _ := (K2.out.below HB3.out l2).cell 0; clear hk3 hg3 hb3)
        | (refine wpList_load_blk _ (by rfl) 81 _ rfl wr.heap.size rfl 81 _ _ HK3.out Tryd.underlying81 rfl (by kernel_rfl) ?_))
      have HWY := Lib.hid (why_any (W := w3) (retry := s.retry) (now := now) x ((K0.out.below HB3.out (by omega)).cell 0) ((K1.out.below HB3.out (by omega)).cell 0) ((HS0.out.below HB3.out (Nat.le_refl _)).c2))
      obtain ⟨z, hz⟩ : ∃ z, whyP s.retry now x = z := ⟨_, rfl⟩
      rw [hz] at HWY HWS
      clear hz c2
      refine HWY.out.mono ?_
      rintro e w4 ⟨rfl, hb4⟩
      have HB4 := Lib.hid (HB3.out.trans (hb4.mono HB3.out.size))
      have HO4 := Lib.hid (HO3.out.below hb4 (Nat.le_refl _))
      have z4 := HB4.out.size
      clear hb4
      cases hzz : (z != 0) with
      | true =>
        rw [hzz, if_pos rfl] at HWS
        have HN4 := Lib.hid (HB4.out.alloc z4 (.cells #[.int .i64 z] 3))
        go_wp2_with (at_builtin; refine append_int _ rfl (.tmp 27) (.tmp 29) rfl W0.heap.size A n C _ rfl (HO4.out.alloc _) _ 1 1 [z] rfl (row_int1' _ _ _ _ (by simp)) (by omega) (by simp; omega) ?_; intro A5 C5 w5 ho5 hg5 _; have HO5 := Lib.hid ho5; have HB5 := Lib.hid (below_grown HN4.out (HO4.out.alloc _) (Nat.le_refl _) (by simp; omega) hg5); clear ho5 hg5)
        go_roundw
        case rel => exact ⟨k + 1, A5, n + 1, C5, by omega, by go_num, rfl, by omega, by rw [HWS.out]; exact HO5.out, HB5.out⟩
        case measure => simp [intOf]; omega
      | false =>
        rw [hzz, if_neg (by decide), List.append_nil] at HWS
        go_wp2_with fail
        go_roundw
        case rel => exact ⟨k + 1, A, n, C, by omega, by go_num, rfl, by omega, by rw [HWS.out]; exact HO4.out, HB4.out⟩
        case measure => simp [intOf]; omega
    case neg =>
      have hke : k = s.l.length := by omega
      have HF := Lib.hid (show ((s.l.take k).map (whyP s.retry now)).filter (fun n => n != 0) = whysP s now by rw [hke, List.take_length]; rfl)
      clear hke
      rw [HF.out] at HO
      have e0 : wr.cell? ⟨w.heap.size, 0, none⟩ = some (.pointer (some ⟨B, 0, none⟩)) := (K0.out.below HB.out (by omega)).cell 0
      have HSR := Lib.hid (HS0.out.below HB.out (Nat.le_refl _))
      have HTK := Lib.hid (take_any HSR.out (Nat.le_trans hbB (Nat.le_of_lt HSR.out.lt)) hl HBL.out _ _ _ (pred_gone (a := w.heap.size + 1 + 1) ((K2.out.below HB.out (by omega)).cell 0) e0 ((K1.out.below HB.out (by omega)).cell 0) HSR.out.c2) HSQ.out HND.out HST.out)
      go_wp2_with fail
      refine HTK.out.mono ?_
      rintro e w4 ⟨A4, n4, C4, L4, rfl, ho4, hm4, p4, hS4, hT4, hN4⟩
      have hn4 : n4 = (s.l.filter (goneP s.retry now)).length := by
        have e := congrArg List.length hm4
        rw [List.length_map, List.length_map, ho4.len] at e
        exact e
      have f0 : w4.cell? ⟨w.heap.size, 0, none⟩ = some (.pointer (some ⟨B, 0, none⟩)) := by
        rw [World.cell?_of_block (a := ⟨w.heap.size, 0, none⟩) (hT4.block w.heap.size (by have := HB.out.size; have := HB0.out.size; omega) (fun hx => by have := (HGE.out _ hx).2; omega))]
        exact e0
      have d4 : w4.cell? ⟨B, 4, none⟩ = some (.int .i64 s.state) := hS4.c4
      have d7 : w4.cell? ⟨B, 7, none⟩ = some (.bool s.asks) := hS4.c7
      have HOI := Lib.hid ((HO.out.touch hT4 (fun k hk hx => by have h1 := (HO.out.ge k hk).1; have h2 := (HGE.out k hx).2; have := HB0.out.size; omega)).base_le (b' := w.heap.size) HB0.out.size)
      have hBw := HB0.out.trans (HB.out.mono HB0.out.size)
      have HTW := Lib.hid ((touch_of_below (S := bsS B p s) hBw (fun k hk _ => hk)).trans hT4 (fun _ _ x => x))
      have HNW := Lib.hid (show ∀ k, bsS B p4 (takeS s (goneP s.retry now)) k → bsS B p s k ∨ w.heap.size ≤ k from fun k hk => (hN4 k hk).imp id (fun h => Nat.le_trans hBw.size h))
      have HOM := Lib.hid (ho4.base_le (b' := w.heap.size) hBw.size)
      have HS4 := Lib.hid hS4
      have HM4 := Lib.hid hm4
      clear e0 ho4 hm4 hT4 hN4 hS4 hBw HTK
      have FIN := Lib.hid (fun (e : sweepS s now = takeS s (goneP s.retry now)) => show SweepR w base B p s now (.returned (.tuple #[.slice A4 n4 C4, .slice A n C])) w4 from ⟨A4, n4, C4, L4, A, n, C, rfl, HOM.out, HM4.out, HOI.out, p4, by rw [e]; exact HS4.out, HTW.out, by rw [e]; exact HNW.out⟩)
      by_cases hany : s.l.any (goneP s.retry now) = true
      case neg =>
        have FI := Lib.hid (FIN.out (by unfold sweepS; rw [if_neg (fun h => hany h.1)]))
        have hz : n4 = 0 := by
          rw [hn4, List.length_eq_zero_iff, List.filter_eq_nil_iff]
          intro x hx hq
          exact hany (List.any_eq_true.2 ⟨x, hx, hq⟩)
        subst hz
        clear hany hn4
        go_wp2_with fail
        go_ret2
        exact FI.out
      case pos =>
        have hpos : 0 < n4 := by
          rw [hn4]
          obtain ⟨x, hx, hq⟩ := List.any_eq_true.1 hany
          exact List.length_pos_of_mem (List.mem_filter.2 ⟨hx, hq⟩)
        have g1 : decide ((0 : Int) < (n4 : Int)) = true := decide_eq_true (by omega)
        by_cases hs3 : s.state = 3
        case neg =>
          have FI := Lib.hid (FIN.out (by unfold sweepS; rw [if_neg (fun h => hs3 h.2.1)]))
          have g2 : (s.state == 3) = false := by simp [hs3]
          clear hany hn4 hs3
          go_wp2_with fail
          go_ret2
          exact FI.out
        case pos =>
          have g2 : (s.state == 3) = true := by simp [hs3]
          cases has : s.asks with
          | true =>
            rw [has] at d7
            have FI := Lib.hid (FIN.out (by unfold sweepS; rw [if_neg (fun h => by rw [has] at h; exact absurd h.2.2 (by decide))]))
            clear hany hn4 hs3 has
            go_wp2_with fail
            go_ret2
            exact FI.out
          | false =>
            rw [has] at d7
            have HSW := Lib.hid (show sweepS s now = { takeS s (goneP s.retry now) with asks := true, vain := 0 } by unfold sweepS; rw [if_pos ⟨hany, hs3, has⟩])
            have hS5 := HS4.out.setc 7 (.bool true) { takeS s (goneP s.retry now) with asks := true } rfl rfl rfl
            have e8 := hS5.c8
            have l8 := hS5.fr 8
            have l7 := HS4.out.fr 7
            have d8 := HS4.out.c8
            have HS6 := Lib.hid (hS5.setc 8 (.int .i64 0) { takeS s (goneP s.retry now) with asks := true, vain := 0 } rfl rfl rfl)
            clear hany hn4 hs3 has hS5 FIN
            go_wp2_with fail
            go_region
            go_wp2_with fail
            go_ret2
            have hb4 := HS4.out.blk
            have hb5 : Blk (w4.setCell ⟨B, 7, none⟩ (.bool true)) B _ 78 := hb4.set_ 7 (.bool true)
            have m5 := (HOM.out.far hb4 (by decide) (by decide) 7 (.bool true)).far hb5 (by decide) (by decide) 8 (.int .i64 0)
            have i4 := HOI.out.far ⟨B, 7, none⟩ (own_ne HOI.out hb4 (by decide)) (.bool true)
            have i5 := i4.far ⟨B, 8, none⟩ (own_ne i4 hb5 (by decide)) (.int .i64 0)
            refine ⟨A4, n4, C4, L4, A, n, C, rfl, m5.below (below_drewN 1) (Nat.le_refl _), HM4.out, i5, p4, ?_, ?_, ?_⟩
            · rw [HSW.out]; exact HS6.out.drew
            · exact ((HTW.out.trans (touch_set (bsS B p s) w4 B 7 (.bool true) (.inl rfl)) (fun _ _ x => x)).trans (touch_set (bsS B p s) _ B 8 (.int .i64 0) (.inl rfl)) (fun _ _ x => x)).trans (touch_drew (bsS B p s) _ 1) (fun _ _ x => x)
            · rw [HSW.out]; exact HNW.out
end Go.Proofs.YthjjneanabnjoaaDoor
