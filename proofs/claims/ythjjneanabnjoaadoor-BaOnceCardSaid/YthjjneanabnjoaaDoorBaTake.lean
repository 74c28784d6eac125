/-
  ba.Session.take: the frames of which a predicate holds go, out of the window too.
-/
import Derived.Test.YthjjneanabnjoaaDoorBaList
import Derived.Test.YthjjneanabnjoaaDoorBaDel
namespace Go.Proofs.YthjjneanabnjoaaDoor
open Go.ChangeShapes Go.WideShapes Go.ChangeAt Go.RowKit
set_option linter.unusedVariables false

theorem nodup_inj {l : List Int} (h : l.Nodup) {i j : Nat} {a : Int} (hi : l[i]? = some a) (hj : l[j]? = some a) : i = j := by
  obtain ⟨h1, e1⟩ := List.getElem?_eq_some_iff.1 hi
  obtain ⟨h2, e2⟩ := List.getElem?_eq_some_iff.1 hj
  rcases Nat.lt_trichotomy i j with h' | h' | h'
  · exact absurd (e1.trans e2.symm) (List.pairwise_iff_getElem.1 h i j h1 h2 h')
  · exact h'
  · exact absurd (e2.trans e1.symm) (List.pairwise_iff_getElem.1 h j i h2 h1 h')
theorem nodup_eraseIdx {l : List Int} (h : l.Nodup) : ∀ {i : Nat} {n : Int}, l[i]? = some n → l.eraseIdx i = l.filter (fun x => decide (x ≠ n)) := by
  induction l with
  | nil => intro i n hi; simp at hi
  | cons y l ih =>
    intro i n hi
    obtain ⟨h1, h2⟩ := List.nodup_cons.1 h
    rcases i with _ | i
    · simp only [List.getElem?_cons_zero, Option.some.injEq] at hi
      subst hi
      rw [List.eraseIdx_zero, List.tail_cons, List.filter_cons, if_neg (by simp), List.filter_eq_self.2]
      intro z hz
      exact decide_eq_true (fun e => h1 (e ▸ hz))
    · rw [List.getElem?_cons_succ] at hi
      rw [List.eraseIdx_cons_succ, List.filter_cons, if_pos, ih h2 hi]
      exact decide_eq_true (fun e => h1 (e ▸ List.mem_of_getElem? hi))
/-- of a window the first k of T are gone -/
def goneW (s : WS) (T : List Int) (k : Nat) : WS := ⟨(s.o.filter (fun n => !(T.take k).contains n)).headD s.nx, s.nx, s.sz, s.o.filter (fun n => !(T.take k).contains n)⟩
theorem goneW_zero {s : WS} (T : List Int) (hst : s.st = s.o.headD s.nx) : goneW s T 0 = s := by
  have e : s.o.filter (fun n => !(T.take 0).contains n) = s.o := List.filter_eq_self.2 (fun x _ => by simp)
  unfold goneW
  rw [e, ← hst]
theorem goneW_succ {s : WS} {T : List Int} {k : Nat} {n : Int} (hnd : s.o.Nodup) (hT : T.Nodup) (hsub : ∀ x ∈ T, x ∈ s.o) (hn : T[k]? = some n) : ∃ i, (goneW s T k).o[i]? = some n ∧ (∀ j, j < i → (goneW s T k).o[j]? ≠ some n) ∧ doneS (goneW s T k) i = goneW s T (k + 1) := by
  have hmem : n ∈ (goneW s T k).o := by
    refine List.mem_filter.2 ⟨hsub n (List.mem_of_getElem? hn), ?_⟩
    have : n ∉ T.take k := by
      intro h
      obtain ⟨j, hj, e⟩ := List.getElem_of_mem h
      rw [List.getElem_take] at e
      rw [List.length_take] at hj
      have := nodup_inj hT (i := j) (j := k) (a := n) (by rw [List.getElem?_eq_getElem (by omega), e]) hn
      omega
    simp [this]
  have hnd2 : (goneW s T k).o.Nodup := hnd.filter _
  obtain ⟨i, hi, e⟩ := List.getElem_of_mem hmem
  refine ⟨i, by rw [List.getElem?_eq_getElem hi, e], fun j hj ej => ?_, ?_⟩
  · have := nodup_inj hnd2 ej (by rw [List.getElem?_eq_getElem hi, e])
    omega
  · have e1 : (goneW s T k).o.eraseIdx i = s.o.filter (fun n => !(T.take (k + 1)).contains n) := by
      rw [nodup_eraseIdx hnd2 (by rw [List.getElem?_eq_getElem hi, e])]
      show (s.o.filter _).filter _ = _
      rw [List.filter_filter]
      apply List.filter_congr
      intro x _
      obtain ⟨hk, hn⟩ := List.getElem?_eq_some_iff.1 hn
      rw [List.take_succ_eq_append_getElem hk, hn]
      by_cases hx : x = n <;> by_cases hy : x ∈ T.take k <;> simp [hx, hy]
    unfold doneS
    rw [e1]
    rfl
/-- the window behind it -/
def takeW (s : BS) (q : Fm → Bool) : WS := ⟨((s.l.filter (fun x => !q x)).map (·.m.seq)).headD s.w.nx, s.w.nx, s.w.sz, (s.l.filter (fun x => !q x)).map (·.m.seq)⟩
def takeS (s : BS) (q : Fm → Bool) : BS := { s with w := takeW s q, l := s.l.filter (fun x => !q x) }
theorem goneW_all {s : BS} (q : Fm → Bool) (hs : s.w.o = s.l.map (·.m.seq)) (hnd : s.w.o.Nodup) : goneW s.w ((s.l.filter q).map (·.m.seq)) ((s.l.filter q).map (·.m.seq)).length = takeW s q := by
  have key : s.w.o.filter (fun n => !(((s.l.filter q).map (·.m.seq)).take ((s.l.filter q).map (·.m.seq)).length).contains n) = (s.l.filter (fun x => !q x)).map (·.m.seq) := by
    rw [List.take_length, hs, List.filter_map]
    congr 1
    apply List.filter_congr
    intro x hx
    have : ((s.l.filter q).map (·.m.seq)).contains x.m.seq = q x := by
      rw [Bool.eq_iff_iff, List.contains_iff_mem, List.mem_map]
      constructor
      · rintro ⟨y, hy, e⟩
        obtain ⟨hy, hqy⟩ := List.mem_filter.1 hy
        have : y = x := by
          obtain ⟨i, hi, rfl⟩ := List.getElem_of_mem hy
          obtain ⟨j, hj, rfl⟩ := List.getElem_of_mem hx
          rw [hs] at hnd
          have := nodup_inj hnd (i := i) (j := j) (a := s.l[j].m.seq) (by rw [List.getElem?_map, List.getElem?_eq_getElem hi, ← e]; rfl) (by rw [List.getElem?_map, List.getElem?_eq_getElem hj]; rfl)
          subst this
          rfl
        rw [← this]; exact hqy
      · intro h
        exact ⟨x, List.mem_filter.2 ⟨hx, h⟩, rfl⟩
    simp only [Function.comp, this]
  unfold goneW takeW
  rw [key]

section
variable {w w' : World} {base B : Nat} {p : BP} {s : BS}
/-- the window has turned -/
theorem Bs.winStep (h : Bs w base B p s) {A : Option Addr} {C : Nat} {ws : WS} (hw : Wn w' base p.W A C ws) (ht : Touch (wnS p.W p.AW) w w') : Bs w' base B ⟨p.W, A, C, p.A, p.C⟩ { s with w := ws } := by
  refine ⟨h.blk.touch ht ?_, hw, own_touch h.own ht ?_, fun x hx => ownU8_touch (h.body x hx) ht ?_⟩
  · rintro (e | e)
    · exact h.neW e
    · exact h.neAW e.symm
  · rintro k hk (e | e)
    · subst e; exact h.neWA hk.symm
    · rcases own_ne_own h.own h.win.own (by decide) with h1 | h1
      · rw [h1] at hk; cases hk
      · exact h1 (hk.trans e.symm)
  · rintro k hk (e | e)
    · subst e; exact h.neWBody hx hk.symm
    · rcases own_ne_own (h.body x hx) h.win.own (by decide) with h1 | h1
      · rw [h1] at hk; cases hk
      · exact h1 (hk.trans e.symm)
theorem OwnM.winStep {base' n C CW : Nat} {A AW : Option Addr} {L : List Md} {W : Nat} {ws : WS} (h : OwnM w base' A n C L) (hw : Wn w base W AW CW ws) (ht : Touch (wnS W AW) w w') : OwnM w' base' A n C L := by
  refine h.touch ht ?_ ?_
  · rintro k hk (e | e)
    · subst e; exact own_ne h.own hw.blk (by decide) hk.symm
    · rcases own_ne_own h.own hw.own (by decide) with h1 | h1
      · rw [h1] at hk; cases hk
      · exact h1 (hk.trans e.symm)
  · rintro x hx k hk (e | e)
    · subst e; exact own_ne (h.body x hx) hw.blk (by decide) hk.symm
    · rcases own_ne_own (h.body x hx) hw.own (by decide) with h1 | h1
      · rw [h1] at hk; cases hk
      · exact h1 (hk.trans e.symm)
theorem OwnM.far {base' n C : Nat} {A : Option Addr} {L : List Md} (h : OwnM w base' A n C L) {k : Nat} {cs : Array Value} {t : TypeId} (hk : Blk w k cs t) (h1 : t ≠ 34) (h2 : t ≠ 5) (i : Nat) (v : Value) : OwnM (w.setCell ⟨k, i, none⟩ v) base' A n C L :=
  ⟨own_far h.own ⟨k, i, none⟩ (own_ne h.own hk h1) v, fun x hx => ownU8_far (h.body x hx) ⟨k, i, none⟩ (own_ne (h.body x hx) hk h2) v⟩
/-- a cell of the session's block -/
theorem Bs.setc (h : Bs w base B p s) (i : Nat) (v : Value) (s' : BS) (e : (bsA p s).setIfInBounds i v = bsA p s') (hw : s'.w = s.w) (hl : s'.l = s.l) : Bs (w.setCell ⟨B, i, none⟩ v) base B p s' := by
  refine ⟨?_, ?_, ?_, ?_⟩
  · rw [← e]; exact h.blk.set_ i v
  · rw [hw]; exact ⟨h.win.blk.far (p := ⟨B, i, none⟩) (Ne.symm h.neW) v, h.win.own.far ⟨B, i, none⟩ h.neAW v⟩
  · rw [hl]; exact own_far h.own ⟨B, i, none⟩ h.neA v
  · rw [hl]; exact fun x hx => ownU8_far (h.body x hx) ⟨B, i, none⟩ (h.neBody hx) v
/-- another row of frames -/
theorem Bs.setl (h : Bs w base B p s) {A : Option Addr} {C : Nat} {l : List Fm} (ho : w.ownsRow base 81 9 (.slice A l.length C) l.length (l.flatMap fmC)) (hb : ∀ x ∈ l, OwnU8 w base x.A x.m.body.length x.C x.m.body) : Bs (w.setCell ⟨B, 6, none⟩ (.slice A l.length C)) base B ⟨p.W, p.AW, p.CW, A, C⟩ { s with l := l } :=
  ⟨h.blk.set_ 6 _, ⟨h.win.blk.far (p := ⟨B, 6, none⟩) (Ne.symm h.neW) _, h.win.own.far ⟨B, 6, none⟩ h.neAW _⟩, own_far ho ⟨B, 6, none⟩ (own_ne ho h.blk (by decide)) _, fun x hx => ownU8_far (hb x hx) ⟨B, 6, none⟩ (own_ne (hb x hx) h.blk (by decide)) _⟩
end
theorem own_base_le {w : World} {base b' sz n C : Nat} {e : TypeId} {A : Option Addr} {vs : List Value} (h : w.ownsRow base e sz (.slice A n C) n vs) (hb : b' ≤ base) : w.ownsRow b' e sz (.slice A n C) n vs := by
  refine ⟨h.1, ?_⟩
  rcases h.2 with h2 | ⟨g, cap, cur, hv, hg, r⟩
  · exact .inl h2
  · exact .inr ⟨g, cap, cur, hv, by omega, r⟩
theorem md_at {w : World} {n : Nat} {x : Md} {t : TypeId} (h : Blk w n (mdC x).toArray t) : w.cell? ⟨n, 5, none⟩ = some (.int .i64 x.m.seq) := h.cell 5

set_option maxRecDepth 100000 in
set_option maxHeartbeats 4000000 in
theorem take_any {w : World} {base B : Nat} {p : BP} {s : BS} (h : Bs w base B p s) (hbase : base ≤ w.heap.size) (hl : s.l.length ≤ 1000000) (hbl : ∀ x ∈ s.l, x.m.body.length ≤ 1048576) (kf : FuncId) (cs : Array Value) (q : Fm → Bool) (hq : PredF kf cs q w)
    (hs : s.w.o = s.l.map (·.m.seq)) (hnd : s.w.o.Nodup) (hst : s.w.st = s.w.o.headD s.w.nx) :
    Calls Tryd.prog 40 #[.pointer (some ⟨B, 0, none⟩), .func (.func kf) #[] cs] w fun e w' => ∃ A n C L, e = .returned (.slice A n C) ∧ OwnM w' w.heap.size A n C L ∧ L.map (·.m) = (s.l.filter q).map (·.m) ∧ BStep w w' base B p s (takeS s q) := by
  have H := Lib.hid h
  have HQ := Lib.hid hq
  have HS := Lib.hid hs
  have HN := Lib.hid hnd
  have HST := Lib.hid hst
  have HC := Lib.hid (list_any h hl hbl kf cs q hq)
  have hlt := h.lt
  clear h hq hs hnd hst hbl
  go_enter Tryd.func40, Tryd.ntmps40
  go_wp2_with fail
  refine HC.out.mono ?_
  rintro e w1 ⟨A1, n1, C1, L1, rfl, ho1, hm1, hb1⟩
  have hH1 := H.out.below hb1 (Nat.le_refl _)
  have c6 := hH1.c6
  have HC1 := Lib.hid (cloneF_any hH1.own hl)
  have H1 := Lib.hid hH1
  have HQ1 := Lib.hid (HQ.out.later hb1)
  have HO1 := Lib.hid ho1
  have HM1 := Lib.hid hm1
  have HB1 := Lib.hid hb1
  have hlt1 := hH1.lt
  clear hH1 ho1 hm1 hb1
  go_wp2_with fail
  refine HC1.out.mono ?_
  rintro e w2 ⟨A2, C2, rfl, ho2, hb2⟩
  have HD2 := Lib.hid (deleteFunc_any ho2 kf cs q HQ1.out hb2 hl)
  clear ho2 hb2 c6
  go_wp2_with fail
  refine HD2.out.mono ?_
  rintro e w3 ⟨m, A3, C3, rfl, rfl, ho3, -, hb3⟩
  have hH3 := H1.out.below hb3 (Nat.le_refl _)
  have c6 := hH3.c6
  have f6 := hH3.fr 6
  have z1 := HB1.out.size
  have z3 := hb3.size
  have hW4 := hH3.setl (l := s.l.filter (fun y => !q y)) (own_base_le ho3 (by omega)) (fun x hx => hH3.body x (List.mem_filter.1 hx).1)
  have hO4 := ((HO1.out.below hb3 (Nat.le_refl _)).far hH3.blk (by decide) (by decide) 6 (.slice A3 (s.l.filter (fun y => !q y)).length C3))
  have hb13 := HB1.out.trans (hb3.mono z1)
  have hT4 : Touch (bsS B p s) w (w3.setCell ⟨B, 6, none⟩ (.slice A3 (s.l.filter (fun y => !q y)).length C3)) := (touch_of_below hb13 (fun k hk _ => hk)).trans (touch_set (bsS B p s) _ _ _ _ (.inl rfl)) (fun _ _ x => x)
  have hN4 : ∀ k, blk A3 = some k → w.heap.size ≤ k := fun k hk => Nat.le_trans z1 (own_ge ho3 k hk).1
  have hz4 : w.heap.size ≤ (w3.setCell ⟨B, 6, none⟩ (.slice A3 (s.l.filter (fun y => !q y)).length C3)).heap.size := hT4.size
  have HL1 := Lib.hid (show L1.length = (s.l.filter q).length by have := congrArg List.length HM1.out; simpa using this)
  have hlen1 := HO1.out.len
  have hn1 : n1 ≤ 1000000 := by have := HL1.out; have := List.length_filter_le q s.l; omega
  obtain ⟨T, hT⟩ : ∃ T, (s.l.filter q).map (·.m.seq) = T := ⟨_, rfl⟩
  have HTT := Lib.hid hT
  have HLT := Lib.hid (show T.length = n1 by rw [← hT, List.length_map]; have := HL1.out; omega)
  have hW4' : Bs (w3.setCell ⟨B, 6, none⟩ (.slice A3 (s.l.filter (fun y => !q y)).length C3)) base B ⟨p.W, p.AW, p.CW, A3, C3⟩ { s with w := goneW s.w T 0, l := s.l.filter (fun y => !q y) } := by
    rw [goneW_zero T HST.out]; exact hW4
  have HW4 := Lib.hid hW4'
  have HO4 := Lib.hid hO4
  have HT4 := Lib.hid hT4
  have HN4 := Lib.hid hN4
  clear hW4 hW4' hO4 hT4 hN4 hH3 ho3 hb3 hb13 hlen1 hT
  go_wp2_with fail
  generalize w3.setCell ⟨B, 6, none⟩ (.slice A3 (s.l.filter (fun y => !q y)).length C3) = w4 at *
  clear c6 f6
  go_loopw [23] (fun iv wr => ∃ (k : Nat) (AW : Option Addr) (CW : Nat), k ≤ n1 ∧ iv = .int .i64 k ∧ Bs wr base B ⟨p.W, AW, CW, A3, C3⟩ { s with w := goneW s.w T k, l := s.l.filter (fun y => !q y) } ∧ OwnM wr w.heap.size A1 n1 C1 L1 ∧ Touch (bsS B p s) w wr ∧ (∀ j, blk AW = some j → blk p.AW = some j ∨ w.heap.size ≤ j)) (fun iv _ => n1 - (intOf iv).toNat)
  case atStart => exact ⟨0, p.AW, p.CW, Nat.zero_le _, rfl, HW4.out, HO4.out, HT4.out, fun j hj => .inl hj⟩
  case round =>
    obtain ⟨k, AW, CW, hk, rfl, hW, hO, hTr, hNr⟩ := hrel
    have HW := Lib.hid hW
    have HO := Lib.hid hO
    have HT := Lib.hid hTr
    have HNR := Lib.hid hNr
    have zr := hTr.size
    have hltB := hW.lt
    have hlW := hW.win.blk.lt
    clear hW hO hTr hNr
    by_cases hkn : k < n1
    · obtain ⟨g, hgA, hg1, hg2, hC, hat⟩ := HO.out.at_ (by omega)
      subst hgA
      obtain ⟨x, hx⟩ : ∃ x, L1[k]? = some x := ⟨_, List.getElem?_eq_getElem (by rw [HO.out.len]; exact hkn)⟩
      have HX := Lib.hid (show wr.rangeAt g (k * 8) (mdC x) from fun j v hv => hat k x hx j v hv)
      have hxT : T[k]? = some x.m.seq := by
        have e := congrArg (fun l => l[k]?) HM1.out
        simp only [List.getElem?_map, hx, Option.map_some] at e
        rw [← HTT.out, List.getElem?_map]
        cases hf : (s.l.filter q)[k]? with
        | none => rw [hf] at e; cases e
        | some y => rw [hf] at e; simp only [Option.map_some, Option.some.injEq] at e ⊢; rw [e]
      have hTn : T.Nodup := by rw [← HTT.out]; exact (HS.out ▸ HN.out : (s.l.map (·.m.seq)).Nodup).sublist (List.filter_sublist.map _)
      have hTs : ∀ y ∈ T, y ∈ s.w.o := by
        intro y hy
        rw [← HTT.out] at hy
        rw [HS.out]
        obtain ⟨z, hz, rfl⟩ := List.mem_map.1 hy
        exact List.mem_map.2 ⟨z, (List.mem_filter.1 hz).1, rfl⟩
      obtain ⟨i, hi, hfst, hdone⟩ := goneW_succ HN.out hTn hTs hxT
      have HI := Lib.hid hi
      have HFS := Lib.hid hfst
      have HDN := Lib.hid hdone
      have hol : (goneW s.w T k).o.length ≤ 1000000 := by
        have h1 := List.length_filter_le (fun n => !(T.take k).contains n) s.w.o
        have h2 : s.w.o.length = s.l.length := by rw [HS.out, List.length_map]
        show (s.w.o.filter _).length ≤ _
        omega
      have hbw : base ≤ wr.heap.size := by omega
      have HSUB := Lib.hid (show ∀ j, j < w.heap.size → wnS p.W AW j → bsS B p s j from fun j hj hx => by
        rcases hx with e | e
        · exact .inr (.inl e)
        · rcases HNR.out j e with h | h
          · exact .inr (.inr (.inl h))
          · omega)
      clear hat hx hxT hTn hTs hi hfst hdone
      go_wp2_with (first
        | (refine wpList_load_mid (by rfl) 34 (.tmp 25) rfl g (k * 8) rfl (mdC x) _ HX.out Tryd.underlying34 rfl (by kernel_rfl) ?_)
        | (refine wpList_store_blk _ (by rfl) 34 _ _ rfl wr.heap.size (mdC x).toArray rfl rfl 34 _ (Blk.new _ _ _) (by kernel_rfl) rfl (by simp [mdC, Value.oneCell']) ?_; intro w5 hk5 hg5; have hb5 := Below.grown ((Below.refl wr.heap.size wr).alloc (Nat.le_refl _) _) hg5 (by simp) (by simp); have HB5 := Lib.hid hb5; have HW5 := Lib.hid (HW.out.below hb5 (Nat.le_refl _)); have HO5 := Lib.hid (HO.out.below hb5 (Nat.le_refl _)); have c5 := md_at hk5; have cW : w5.cell? ⟨B, 0, none⟩ = some (.pointer (some ⟨p.W, 0, none⟩)) := HW5.out.c0; have zb5 := hb5.size; clear hk5 hg5 hb5))
      go_region_with (go_at_call 63; refine (done_yes HW5.out.drew.win x.m.seq i HI.out HFS.out hol (by show base ≤ w5.heap.size; omega)).mono ?_; rintro e w6 ⟨rfl, A6, C6, hw6, ht6, hn6⟩; have HW6 := Lib.hid (HW5.out.drew.winStep hw6 ht6); have HO6 := Lib.hid (OwnM.winStep (w := w5.drew) (HO5.out.below (below_drewN 1) (Nat.le_refl _)) HW5.out.drew.win ht6); have HT6 := Lib.hid ht6; have HN6 := Lib.hid hn6; clear hw6 ht6 hn6)
      all_goals
        have hrelT := (HT.out.trans (touch_of_below HB5.out (fun k hk _ => hk)) (fun _ _ x => x)).trans ((touch_drew (wnS p.W AW) w5 1).trans HT6.out (fun _ _ x => x)) (fun j hj hx => HSUB.out j hj hx)
        have hnew : ∀ j, blk A6 = some j → blk p.AW = some j ∨ w.heap.size ≤ j := fun j hj => .inr (Nat.le_trans zr (Nat.le_trans zb5 (HN6.out j hj)))
        rw [HDN.out] at HW6
        have HRT := Lib.hid hrelT
        have HNW := Lib.hid hnew
        clear hrelT hnew
        go_wp2_with fail
        go_roundw
        (case rel => exact ⟨k + 1, A6, C6, by omega, by go_num, HW6.out, HO6.out, HRT.out, HNW.out⟩)
        (case measure => simp [intOf]; omega)
    · have hke : k = n1 := by omega
      have hfin : goneW s.w T k = takeW s q := by
        rw [hke, ← HLT.out, ← HTT.out]
        exact goneW_all q HS.out HN.out
      have HF := Lib.hid hfin
      clear hke hfin
      rw [HF.out] at HW
      go_wp2_with fail
      go_ret
      refine ⟨A1, n1, C1, rfl, L1, HO.out, HM1.out, ⟨p.W, AW, CW, A3, C3⟩, HW.out, HT.out, ?_⟩
      rintro j (e | e | e | e | ⟨x, hx, e⟩)
      · exact .inl (.inl e)
      · exact .inl (.inr (.inl e))
      · rcases HNR.out j e with h | h
        · exact .inl (.inr (.inr (.inl h)))
        · exact .inr h
      · exact .inr (HN4.out j e)
      · exact .inl (.inr (.inr (.inr (.inr ⟨x, (List.mem_filter.1 hx).1, e⟩))))
end Go.Proofs.YthjjneanabnjoaaDoor
