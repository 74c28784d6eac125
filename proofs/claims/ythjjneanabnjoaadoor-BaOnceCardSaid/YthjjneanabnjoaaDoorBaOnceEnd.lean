/-
  BaOnce's closure: what came out is marked as gone.
-/
import Derived.Test.YthjjneanabnjoaaDoorBaOncePlain
import Derived.Test.YthjjneanabnjoaaDoorBools
namespace Go.Proofs.YthjjneanabnjoaaDoor
open Go.ChangeShapes Go.WideShapes Go.ChangeAt Go.RowKit
set_option linter.unusedVariables false

/-- the law's own three variables -/
structure Bk (w : World) (base bn bg bo : Nat) (G : Option Addr) (K n over : Nat) (fl : Nat → Bool) : Prop where
  cn : Blk w bn #[.int .i64 (n : Int)] 3
  cg : Blk w bg #[.slice G K K] 68
  co : Blk w bo #[.int .i64 (over : Int)] 3
  own : OwnB w base G K K ((List.range K).map fl)
  ne : bn ≠ bo
def bkS (bo : Nat) (G : Option Addr) : Nat → Prop := fun k => k = bo ∨ blk G = some k
theorem ne_of_type {w : World} {a b : Nat} {cs ds : Array Value} {t u : TypeId} (h1 : Blk w a cs t) (h2 : Blk w b ds u) (h : t ≠ u) : a ≠ b := by
  intro e
  subst e
  unfold Blk at h1 h2
  rw [h1] at h2
  injection h2 with h2
  injection h2 with _ h2
  exact h h2
section
variable {w w' : World} {base bn bg bo K n over : Nat} {G : Option Addr} {fl : Nat → Bool}
theorem Bk.touch {S : Nat → Prop} (h : Bk w base bn bg bo G K n over fl) (ht : Touch S w w') (h1 : ¬ S bn) (h2 : ¬ S bg) (h3 : ¬ S bo) (h4 : ∀ k, blk G = some k → ¬ S k) : Bk w' base bn bg bo G K n over fl :=
  ⟨h.cn.touch ht h1, h.cg.touch ht h2, h.co.touch ht h3, h.own.touch ht h4, h.ne⟩
theorem Bk.below {D : Nat} (h : Bk w base bn bg bo G K n over fl) (hb : Below D w w') (hD : w.heap.size ≤ D) : Bk w' base bn bg bo G K n over fl :=
  ⟨h.cn.below hb (Nat.lt_of_lt_of_le h.cn.lt hD), h.cg.below hb (Nat.lt_of_lt_of_le h.cg.lt hD), h.co.below hb (Nat.lt_of_lt_of_le h.co.lt hD), h.own.below hb hD, h.ne⟩
theorem Bk.alloc (h : Bk w base bn bg bo G K n over fl) (o : Obj) : Bk (w.alloc o) base bn bg bo G K n over fl := ⟨h.cn.alloc o, h.cg.alloc o, h.co.alloc o, h.own.alloc o, h.ne⟩
theorem Bk.setN (h : Bk w base bn bg bo G K n over fl) (m : Nat) : Bk (w.setCell ⟨bn, 0, none⟩ (.int .i64 (m : Int))) base bn bg bo G K m over fl :=
  ⟨h.cn.set_ 0 _, h.cg.far (p := ⟨bn, 0, none⟩) (fun e => ne_of_type h.cn h.cg (by decide) e.symm) _, h.co.far (p := ⟨bn, 0, none⟩) (fun e => h.ne e.symm) _, h.own.far ⟨bn, 0, none⟩ (own_ne h.own h.cn (by decide)) _, h.ne⟩
theorem Bk.setO (h : Bk w base bn bg bo G K n over fl) (m : Nat) : Bk (w.setCell ⟨bo, 0, none⟩ (.int .i64 (m : Int))) base bn bg bo G K n m fl :=
  ⟨h.cn.far (p := ⟨bo, 0, none⟩) h.ne _, h.cg.far (p := ⟨bo, 0, none⟩) (fun e => ne_of_type h.co h.cg (by decide) e.symm) _, h.co.set_ 0 _, h.own.far ⟨bo, 0, none⟩ (own_ne h.own h.co (by decide)) _, h.ne⟩
theorem marks_set {L : List Md} {k i : Nat} {x : Md} (hx : L[k]? = some x) (hi : x.m.id = (i : Int)) : ((List.range K).map (marks fl (L.take k))).set i true = (List.range K).map (marks fl (L.take (k + 1))) := by
  obtain ⟨hk, e⟩ := List.getElem?_eq_some_iff.1 hx
  have hs : ∀ j, marks fl (L.take (k + 1)) j = (marks fl (L.take k) j || decide (i = j)) := by
    intro j
    unfold marks
    rw [List.take_succ_eq_append_getElem hk, List.any_append, e]
    simp only [List.any_cons, List.any_nil, Bool.or_false, hi]
    rw [Bool.or_assoc]
    congr 2
    by_cases h : i = j
    · subst h; simp
    · simp [h]; omega
  apply List.ext_getElem
  · simp
  · intro j h1 h2
    simp at h1 h2
    rw [List.getElem_set, List.getElem_map, List.getElem_map, List.getElem_range, hs]
    by_cases h : i = j
    · subst h; simp
    · simp [h]
theorem marks_new {R : Nat} {L : List Md} (he : Ends K R n fl L) {k : Nat} {x : Md} (hx : L[k]? = some x) : marks fl (L.take k) x.m.id.toNat = false := by
  obtain ⟨hk, e⟩ := List.getElem?_eq_some_iff.1 hx
  obtain ⟨h1, h2, h3⟩ := he.id x (List.mem_of_getElem? hx)
  unfold marks
  rw [h3, Bool.false_or, List.any_eq_false]
  intro y hy hyx
  have hyx' : y.m.id = x.m.id := by have := beq_iff_eq.1 hyx; omega
  obtain ⟨a, ha, rfl⟩ := List.getElem_of_mem hy
  rw [List.getElem_take] at hyx'
  have hak : a < k := by rw [List.length_take] at ha; omega
  have hnd := he.ids
  unfold List.Nodup at hnd
  rw [List.pairwise_map] at hnd
  rw [← e] at hyx'
  exact List.pairwise_iff_getElem.1 hnd a k (by omega) hk hak hyx'
set_option maxRecDepth 100000 in
set_option maxHeartbeats 6400000 in
theorem end_any {bm m C : Nat} {A : Option Addr} {L : List Md} {R : Nat} (h : Bk w base bn bg bo G K n over fl) (hL : OwnM w bm A m C L) (he : Ends K R n fl L) (hR : R ≤ 1000) (hm : m ≤ 1000) (ho : over ≤ 1000000) (hK : K ≤ 1000000) (q1 : Int) (hq : q1 = (R : Int) + 1) :
    Calls Tryd.prog 31 #[.slice A m C, .int .i64 q1, .pointer (some ⟨bn, 0, none⟩), .pointer (some ⟨bg, 0, none⟩), .pointer (some ⟨bo, 0, none⟩)] w fun e w' => e = .returned (.bool true) ∧ Bk w' base bn bg bo G K n (over + m) (marks fl L) ∧ Touch (bkS bo G) w w' := by
  have hlen := hL.len
  obtain ⟨gg, hG, hg1, hg2, _, _⟩ := h.own.open_ (by have := he.room; omega)
  subst hG
  have H := Lib.hid h
  have HM := Lib.hid hL
  have HX := Lib.hid he
  have hm0 : bo ≠ gg := fun e => own_ne h.own h.co (by decide) (by rw [e]; rfl)
  have HNE := Lib.hid hm0
  have hlc := hL.own
  have HQ := Lib.hid hq
  clear h hL he hm0 hq
  go_enter Tryd.func31, Tryd.ntmps31
  go_wp2_with fail
  go_loopw [8] (fun iv wr => ∃ (k : Nat), k ≤ m ∧ iv = .int .i64 k ∧ Bk wr base bn bg bo (some ⟨gg, 0, none⟩) K n (over + k) (marks fl (L.take k)) ∧ Touch (bkS bo (some ⟨gg, 0, none⟩)) w wr) (fun iv _ => m - (intOf iv).toNat)
  case atStart => exact ⟨0, Nat.zero_le _, rfl, by have := H.out; rw [show marks fl (L.take 0) = fl by funext j; unfold marks; simp]; exact this, Touch.refl _ _⟩
  case round =>
    obtain ⟨k, hk, rfl, hbk, ht⟩ := hrel
    have HK := Lib.hid hbk
    have HT := Lib.hid ht
    clear hbk ht
    by_cases hkm : k < m
    case pos =>
      obtain ⟨g, rfl, hga, hgb, hC, hat⟩ := HM.out.at_ (by omega)
      obtain ⟨x, hx⟩ : ∃ x, L[k]? = some x := ⟨_, List.getElem?_eq_getElem (by omega)⟩
      obtain ⟨i1, i2, i3⟩ := HX.out.id x (List.mem_of_getElem? hx)
      have s1 := HX.out.sent x (List.mem_of_getElem? hx)
      have hrm := HX.out.room
      have hnew := marks_new HX.out hx
      obtain ⟨i, hi⟩ : ∃ i : Nat, x.m.id = (i : Int) := ⟨x.m.id.toNat, by omega⟩
      have hne1 : g ≠ bo := fun e => own_ne hlc H.out.co (by decide) (by rw [← e]; rfl)
      have hne2 : g ≠ gg := by
        rcases own_ne_own hlc H.out.own (by decide) with h | h
        · cases h
        · exact fun e => h (by rw [e])
      have hnS : ¬ bkS bo (some ⟨gg, 0, none⟩) g := by
        rintro (h | h)
        · exact hne1 h
        · exact hne2 (Option.some.inj h).symm
      have hcell : ∀ j u, (mdC x)[j]? = some u → wr.cell? ⟨g, k * 8 + j, none⟩ = some u := fun j u hu => by
        have h1 := hat k x hx j u hu
        have h2 := HT.out.block g hgb hnS
        rw [← h1]
        unfold World.cell?
        rw [h2]
      have c0 : wr.cell? ⟨g, k * 8, none⟩ = some (.int .i64 (i : Int)) := by have := hcell 0 _ rfl; rw [hi] at this; exact this
      have c6 := hcell 6 _ rfl
      have d0 : wr.cell? ⟨bn, 0, none⟩ = some (.int .i64 (n : Int)) := HK.out.cn.cell 0
      have d1 : wr.cell? ⟨bg, 0, none⟩ = some (.slice (some ⟨gg, 0, none⟩) K K) := HK.out.cg.cell 0
      have hKp : 0 < K := by omega
      obtain ⟨gg', hgg, _, _, _, hcb, hfb, hset⟩ := HK.out.own.open_ hKp
      have hgg2 : gg = gg' := by simpa using hgg
      subst hgg2
      clear hgg
      have d2 : wr.cell? ⟨gg, i, none⟩ = some (.bool false) := by
        refine hcb i false ?_
        rw [List.getElem?_map, List.getElem?_range (by omega)]
        rw [hi] at hnew
        exact congrArg some hnew
      have d3 := hfb i
      have g1 : decide ((i : Int) < 1) = false := decide_eq_false (by omega)
      have g2 : decide (n < i) = false := decide_eq_false (by omega)
      have g3 : decide (q1 < x.m.sent) = false := decide_eq_false (by have := HQ.out; omega)
      have b1 : (0 : Int) ≤ (i : Int) := by omega
      have b2 : (i : Int) < (K : Int) := by omega
      have HK1 := Lib.hid (show Bk (wr.setCell ⟨gg, i, none⟩ (.bool true)) base bn bg bo (some ⟨gg, 0, none⟩) K n (over + k) (marks fl (L.take (k + 1))) from
        ⟨HK.out.cn.far (p := ⟨gg, i, none⟩) (fun e => own_ne HK.out.own HK.out.cn (by decide) (by rw [show bn = gg from e]; rfl)) _, HK.out.cg.far (p := ⟨gg, i, none⟩) (fun e => own_ne HK.out.own HK.out.cg (by decide) (by rw [show bg = gg from e]; rfl)) _, HK.out.co.far (p := ⟨gg, i, none⟩) (fun e => own_ne HK.out.own HK.out.co (by decide) (by rw [show bo = gg from e]; rfl)) _, by rw [← marks_set hx hi]; exact hset i true, HK.out.ne⟩)
      have d4 : (wr.setCell ⟨gg, i, none⟩ (.bool true)).cell? ⟨bo, 0, none⟩ = some (.int .i64 ((over : Int) + (k : Int))) := HK1.out.co.cell 0
      have d5 := HK1.out.co.frozen 0
      have e1 : IntKind.i64.wrap ((over : Int) + (k : Int) + 1) = (over : Int) + (k : Int) + 1 := IntWalk.i64_in _ (by omega)
      have e2 : ((over + (k + 1) : Nat) : Int) = (over : Int) + (k : Int) + 1 := by omega
      have hk2 := HK1.out.setO (over + (k + 1))
      rw [e2] at hk2
      have HK2 := Lib.hid hk2
      have HT2 := Lib.hid ((HT.out.trans (touch_set (bkS bo (some ⟨gg, 0, none⟩)) wr gg i (.bool true) (.inr rfl)) (fun _ _ h => h)).trans (touch_set (bkS bo (some ⟨gg, 0, none⟩)) (wr.setCell ⟨gg, i, none⟩ (.bool true)) bo 0 (.int .i64 ((over : Int) + (k : Int) + 1)) (.inl rfl)) (fun _ _ h => h))
      generalize x.m.sent = sx at *
      clear hk2 e2 hcell hat hx hcb hfb hset hnew i1 i2 i3 s1 hlc hi
      go_wp2_with fail
      go_roundw
      case rel => exact ⟨k + 1, by omega, by go_num, HK2.out, HT2.out⟩
      case measure => simp [intOf]; omega
    case neg =>
      obtain rfl : k = m := by omega
      have HF := Lib.hid (show L.take k = L by rw [← hlen, List.take_length])
      go_wp2_with fail
      go_ret
      exact ⟨rfl, by have := HK.out; rw [HF.out] at this; exact this, HT.out⟩
end
end Go.Proofs.YthjjneanabnjoaaDoor
