/-
  ba.Session.list: copies of the frames of which a predicate holds.
-/
import Derived.Test.YthjjneanabnjoaaDoorBaFn
namespace Go.Proofs.YthjjneanabnjoaaDoor
open Go.ChangeShapes Go.WideShapes Go.ChangeAt Go.RowKit
set_option linter.unusedVariables false

theorem append_mp (w : World) {ops : Array Oper} {rest : List Oper} {o : Oper} {a : Act} {Q : Exit → Act → World → Prop} (hgd : Region.wanted o (yielded ops a.tmps) = true) (s x : Operand)
    (ho : o.op = .call { callee := .builtin .append, args := #[s, x], argTypes := #[38, 38] })
    (base : Nat) (A : Option Addr) (n C : Nat) (L : List Md) (hs : a.eval s = .slice A n C) (hown : OwnM w base A n C L)
    (A' : Option Addr) (c : Nat) (y : Md) (hx : a.eval x = .slice A' 1 c) (hr : Row w 8 A' 1 c (mdC y)) (hy : OwnU8 w base y.A y.m.body.length y.C y.m.body)
    (hsmall : n ≤ 1000000000) (hbase : base ≤ w.heap.size)
    (h : ∀ A2 C2 w', OwnM w' base A2 (n + 1) C2 (L ++ [y]) → Below base w w' → wpList Tryd.prog ops Q rest (a.put o.dst (.slice A2 (n + 1) C2)) w') :
    wpList Tryd.prog ops Q (o :: rest) a w := by
  obtain ⟨i, hi, hz, hsz, hby⟩ := info_parts info_mpdu
  refine wpList_append_row w hgd s x _ ho base _ i _ 8 80 Tryd.underlying38 hi hz hsz hby rfl (by decide) A n C _ hs hown.own A' 1 c _ hx (by simpa using hr) (mdC_one y) (by unfold maxLen; omega) (by omega) hbase ?_
  intro A2 C2 w' h1 h2 h3 _
  refine h A2 C2 w' ⟨?_, ?_⟩ ?_
  · rw [List.flatMap_append, List.flatMap_singleton]
    exact h1
  · intro z hz
    have hk : OwnU8 w base z.A z.m.body.length z.C z.m.body := by
      rcases List.mem_append.1 hz with hz | hz
      · exact hown.body z hz
      · rw [List.mem_singleton] at hz; subst hz; exact hy
    exact hk.keep h2 (own_ne_own hk hown.own (by decide))
  · exact below_grown (Below.refl _ _) hown.own (Nat.le_refl _) hbase h2

theorem md_split (x : Fm) : (fmC x).toArray = fmA x := rfl
theorem blk_md {w : World} {n : Nat} {x : Fm} {t : TypeId} (h : Blk w n (fmC x).toArray t) : w.rangeAt n 0 (mdC ⟨x.m, x.A, x.C⟩) := fun j v hv => by
  rw [Nat.zero_add, h.cell]
  have hj := (List.getElem?_eq_some_iff.1 hv).1
  rw [mdC_len] at hj
  rcases (show j = 0 ∨ j = 1 ∨ j = 2 ∨ j = 3 ∨ j = 4 ∨ j = 5 ∨ j = 6 ∨ j = 7 by omega) with rfl | rfl | rfl | rfl | rfl | rfl | rfl | rfl <;> exact hv
theorem filter_snoc {q : Fm → Bool} {l : List Fm} {k : Nat} {x : Fm} (hx : l[k]? = some x) : (l.take (k + 1)).filter q = (l.take k).filter q ++ (if q x then [x] else []) := by
  obtain ⟨hk, hx⟩ := List.getElem?_eq_some_iff.1 hx
  rw [List.take_succ_eq_append_getElem hk, List.filter_append, hx]
  cases h : q x <;> simp [h]

set_option maxRecDepth 100000 in
set_option maxHeartbeats 4000000 in
theorem list_any {w : World} {base B : Nat} {p : BP} {s : BS} (h : Bs w base B p s) (hl : s.l.length ≤ 1000000) (hbl : ∀ x ∈ s.l, x.m.body.length ≤ 1048576) (kf : FuncId) (cs : Array Value) (q : Fm → Bool) (hq : PredF kf cs q w) :
    Calls Tryd.prog 50 #[.pointer (some ⟨B, 0, none⟩), .func (.func kf) #[] cs] w fun e w' => ∃ A n C L, e = .returned (.slice A n C) ∧ OwnM w' w.heap.size A n C L ∧ L.map (·.m) = (s.l.filter q).map (·.m) ∧ Below w.heap.size w w' := by
  have c6 := h.c6
  have H := Lib.hid h
  have HQ := Lib.hid hq
  have eg := hq.enters
  have HBL := Lib.hid hbl
  clear h hq hbl
  go_enter Tryd.func50, Tryd.ntmps50
  go_wp2_with fail
  go_loopw [5, 13] (fun out i wr => ∃ (k : Nat) (A : Option Addr) (n C : Nat) (L : List Md), k ≤ s.l.length ∧ i = .int .i64 k ∧ out = .slice A n C ∧ n ≤ k ∧ OwnM wr w.heap.size A n C L ∧ L.map (·.m) = ((s.l.take k).filter q).map (·.m) ∧ Below w.heap.size w wr) (fun _ i _ => s.l.length - (intOf i).toNat)
  case atStart => exact ⟨0, none, 0, 0, [], Nat.zero_le _, rfl, rfl, Nat.le_refl _, ownM_nil _ _, rfl, Below.refl _ _⟩
  case round =>
    obtain ⟨k, A, n, C, L, hk, rfl, rfl, hnk, ho, hm, hb⟩ := hrel
    have HO := Lib.hid ho
    have HM := Lib.hid hm
    have HB := Lib.hid hb
    have hs := hb.size
    clear ho hm hb c6
    by_cases hkn : k < s.l.length
    · obtain ⟨g, hgA, hg1, hg2, hC, hfr, hat⟩ := rowF_at H.out.own (by omega)
      rw [hgA]
      obtain ⟨x, hx⟩ : ∃ x, s.l[k]? = some x := ⟨_, List.getElem?_eq_getElem hkn⟩
      have HX := Lib.hid (rangeAt_below (hat k x hx) HB.out hg2)
      have HXX := Lib.hid hx
      have HGA := Lib.hid hgA
      clear hat hfr hx hgA
      have HRW := Lib.hid ((H.out.body x (List.mem_of_getElem? HXX.out)).row)
      have HBX := Lib.hid (HBL.out x (List.mem_of_getElem? HXX.out))
      have HF := Lib.hid (filter_snoc (q := q) HXX.out)
      have hn1 : n ≤ 1000000000 := by omega
      go_wp2_with (first
        | (refine wpList_load_mid (by rfl) 81 (.tmp 15) rfl g (k * 9) rfl (fmC x) _ HX.out Tryd.underlying81 rfl (by kernel_rfl) ?_)
        | (refine wpList_store_blk _ (by rfl) 81 _ _ rfl wr.heap.size (fmC x).toArray rfl rfl 81 _ (Blk.new _ _ _) (by kernel_rfl) rfl (by simp [fmC, Value.oneCell']) ?_; intro w3 hk3 hg3; have hb3 := Below.grown ((Below.refl wr.heap.size wr).alloc (Nat.le_refl _) _) hg3 (by simp) (by simp); have HK3 := Lib.hid hk3; have HB3 := Lib.hid (HB.out.trans (hb3.mono hs)); have HO3 := Lib.hid (HO.out.below hb3 (Nat.le_refl _)); clear hk3 hg3 hb3)
        | (refine wpList_load_blk _ (by rfl) 81 _ rfl wr.heap.size rfl 81 _ _ HK3.out Tryd.underlying81 rfl (by kernel_rfl) ?_))
      refine (HQ.out.call w3 x HB3.out).mono ?_
      rintro e w4 ⟨rfl, hb4⟩
      have HK4 := Lib.hid (HK3.out.below hb4 HK3.out.lt)
      have HB4 := Lib.hid (HB3.out.trans (hb4.mono HB3.out.size))
      have HO4 := Lib.hid (HO3.out.below hb4 (Nat.le_refl _))
      clear hb4
      cases hqx : q x with
      | true =>
        rw [hqx, if_pos rfl] at HF
        clear hqx
        go_wp2_with (first
          | (refine wpList_load_mid (by rfl) 34 (.tmp 21) rfl wr.heap.size 0 rfl (mdC ⟨x.m, x.A, x.C⟩) _ (blk_md HK4.out) Tryd.underlying34 rfl (by kernel_rfl) ?_))
        refine (own_any x.m x.A x.C w4 (HRW.out.below HB4.out (Nat.le_refl _)) HBX.out).mono ?_
        rintro e w5 ⟨A2, C2, rfl, ho5, hb5⟩
        have z4 := HB4.out.size
        have HB5 := Lib.hid (HB4.out.trans (hb5.mono z4))
        have HO5 := Lib.hid (HO4.out.below hb5 (Nat.le_refl _))
        have HW5 := Lib.hid (ho5.base_le z4)
        have z5 := HB5.out.size
        clear ho5 hb5
        have HB6 := Lib.hid (HB5.out.alloc z5 (.cells (mpA x.m A2 C2) 34))
        have HO6 := Lib.hid (HO5.out.alloc (.cells (mpA x.m A2 C2) 34))
        have HW6 := Lib.hid (HW5.out.alloc (.cells (mpA x.m A2 C2) 34))
        have HRO := Lib.hid (row_mpdu w5 ⟨x.m, A2, C2⟩ 34 _ rfl)
        have z6 : w.heap.size ≤ (w5.alloc (.cells (mpA x.m A2 C2) 34)).heap.size := by simp; omega
        unfold mpA at *
        go_wp2_with (at_builtin; refine append_mp _ rfl (.tmp 20) (.tmp 24) rfl w.heap.size A n C L rfl HO6.out (some ⟨w5.heap.size, 0, none⟩) 1 ⟨x.m, A2, C2⟩ rfl HRO.out HW6.out hn1 z6 ?_; intro A7 C7 w7 ho7 hb7)
        go_roundw
        case rel => exact ⟨k + 1, A7, n + 1, C7, L ++ [⟨x.m, A2, C2⟩], by omega, by go_num, rfl, by omega, ho7, by rw [HF.out, List.map_append, List.map_append, HM.out]; rfl, HB6.out.trans (hb7.mono (Nat.le_refl _))⟩
        case measure => simp [intOf]; omega
      | false =>
        rw [hqx, if_neg (by decide), List.append_nil] at HF
        clear hqx
        go_wp2_with fail
        go_roundw
        case rel => exact ⟨k + 1, A, n, C, L, by omega, by go_num, rfl, by omega, HO4.out, by rw [HF.out]; exact HM.out, HB4.out⟩
        case measure => simp [intOf]; omega
    · have hke : k = s.l.length := by omega
      have HF := Lib.hid (show L.map (·.m) = (s.l.filter q).map (·.m) by rw [← List.take_length (l := s.l), ← hke]; exact HM.out)
      clear hke
      go_wp2_with fail
      go_ret
      exact ⟨A, n, C, L, rfl, HO.out, HF.out, HB.out⟩
end Go.Proofs.YthjjneanabnjoaaDoor
