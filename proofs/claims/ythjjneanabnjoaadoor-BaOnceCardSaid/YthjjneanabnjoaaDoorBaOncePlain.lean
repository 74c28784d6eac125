/-
  BaOnce's plain law: what a session keeps, whatever it is told.
-/
import Derived.Test.YthjjneanabnjoaaDoorBaHeard
import Derived.Test.YthjjneanabnjoaaDoorBaSweep
import Derived.Test.YthjjneanabnjoaaDoorBaWentOk
import Derived.Test.YthjjneanabnjoaaDoorBaFreshOk
import Derived.Test.YthjjneanabnjoaaDoorBaLaw
import Derived.Test.YthjjneanabnjoaaDoorWnPlain
namespace Go.Proofs.YthjjneanabnjoaaDoor
open Go.ChangeShapes Go.WideShapes Go.ChangeAt Go.RowKit
set_option linter.unusedVariables false

theorem atD_inj {st a b : Nat} (hst : st < 4096) (ha : a < 64) (hb : b < 64) (h : atD st a = atD st b) : a = b := by unfold atD at h; omega
theorem WH_sub {Z st d : Nat} {ds ds' : List Nat} (h : HInv Z st d ds) (hs : ds'.Sublist ds) : ∃ st' d' ds2, (⟨(ds'.map (atD st)).headD (atD st d), atD st d, (Z : Int), ds'.map (atD st)⟩ : WS) = WH Z st' d' ds2 ∧ HInv Z st' d' ds2 := by
  have hlt := h.lt; have hdz := h.dz; have h64 := h.z64
  have hup : ds'.Pairwise (· < ·) := h.up.sublist hs
  have hbl : ∀ j ∈ ds', j < d := fun j hj => h.below j (hs.subset hj)
  cases ds' with
  | nil =>
    refine ⟨(st + d) % 4096, 0, [], ?_, hinv_start _ _ (Nat.mod_lt _ (by omega)) h64⟩
    have e1 : atD st d = (((st + d) % 4096 : Nat) : Int) := by unfold atD; omega
    have e2 : atD st d = atD ((st + d) % 4096) 0 := by unfold atD; omega
    simp only [WH, List.map_nil, List.headD_nil]
    rw [← e1, ← e2]
  | cons x ds1 =>
    obtain ⟨hx1, hx2⟩ := List.pairwise_cons.1 hup
    have hxd := hbl x (List.mem_cons_self ..)
    refine ⟨(st + x) % 4096, d - x, (x :: ds1).map (· - x), ?_, Nat.mod_lt _ (by omega), ?_, ?_, by omega, h64, fun e => by simp at e, fun _ => by simp⟩
    · have e1 : atD st x = (((st + x) % 4096 : Nat) : Int) := by unfold atD; omega
      have e2 : atD st d = atD ((st + x) % 4096) (d - x) := by unfold atD; omega
      have e3 : (x :: ds1).map (atD st) = ((x :: ds1).map (· - x)).map (atD ((st + x) % 4096)) := by
        rw [List.map_map]
        apply List.map_congr_left
        intro j hj
        have hxj : x ≤ j := by
          rcases List.mem_cons.1 hj with rfl | hj
          · exact Nat.le_refl _
          · exact Nat.le_of_lt (hx1 j hj)
        have := hbl j hj
        simp only [Function.comp]
        unfold atD; omega
      simp only [WH, List.map_cons, List.headD_cons] at *
      rw [← e1, ← e2]
      congr 1
    · rw [List.pairwise_map]
      refine hup.imp_of_mem ?_
      intro a b ha hb hab
      have hxa : x ≤ a := by
        rcases List.mem_cons.1 ha with rfl | ha
        · exact Nat.le_refl _
        · exact Nat.le_of_lt (hx1 a ha)
      omega
    · intro j hj
      obtain ⟨y, hy, rfl⟩ := List.mem_map.1 hj
      have hxy : x ≤ y := by
        rcases List.mem_cons.1 hy with rfl | hy
        · exact Nat.le_refl _
        · exact Nat.le_of_lt (hx1 y hy)
      have := hbl y hy
      omega
/-- what is gone behind a list -/
def marks (fl : Nat → Bool) (L : List Md) (j : Nat) : Bool := fl j || L.any (fun x => x.m.id == (j : Int))
/-- what a session keeps -/
structure OI (Z R n : Nat) (fl : Nat → Bool) (s : BS) : Prop where
  win : ∃ st d ds, s.w = WH Z st d ds ∧ HInv Z st d ds
  seqs : s.w.o = s.l.map (·.m.seq)
  body : ∀ x ∈ s.l, x.m.body = []
  sent : ∀ x ∈ s.l, 0 ≤ x.m.sent ∧ x.m.sent ≤ (R : Int) + 1
  ids : (s.l.map (·.m.id)).Nodup
  id : ∀ x ∈ s.l, 1 ≤ x.m.id ∧ x.m.id ≤ (n : Int) ∧ fl x.m.id.toNat = false
  hi : ∀ j, n < j → fl j = false
  state : s.state ≠ 2
  vain : s.vain = 0
  retry : s.retry = (R : Int)
  life : s.life = 1000
section
variable {Z R n : Nat} {fl : Nat → Bool} {s : BS}
theorem OI.sz (h : OI Z R n fl s) : 0 ≤ s.w.sz ∧ s.w.sz ≤ 1000000 := by
  obtain ⟨st, d, ds, e, i⟩ := h.win
  have := i.z64
  rw [e]
  exact ⟨by show (0 : Int) ≤ (Z : Int); omega, by show (Z : Int) ≤ 1000000; omega⟩
theorem OI.len (h : OI Z R n fl s) : s.l.length ≤ 64 := by
  obtain ⟨st, d, ds, e, i⟩ := h.win
  have h1 := congrArg List.length h.seqs
  rw [e] at h1
  have h2 := i.len; have h3 := i.dz; have h4 := i.z64
  simp [WH] at h1
  omega
theorem OI.olen (h : OI Z R n fl s) : s.w.o.length ≤ 64 := by rw [h.seqs, List.length_map]; exact h.len
theorem OI.nodup (h : OI Z R n fl s) : s.w.o.Nodup := by
  obtain ⟨st, d, ds, e, i⟩ := h.win
  rw [e]
  show (ds.map (atD st)).Nodup
  unfold List.Nodup
  rw [List.pairwise_map]
  refine i.up.imp_of_mem ?_
  intro a b ha hb hab e
  have h1 := i.below a ha; have h2 := i.below b hb; have h3 := i.dz; have h4 := i.z64
  have := atD_inj i.lt (by omega) (by omega) e
  omega
theorem OI.st_range (h : OI Z R n fl s) : 0 ≤ s.w.st ∧ s.w.st < 4096 := by
  obtain ⟨st, d, ds, e, i⟩ := h.win
  have := i.lt
  rw [e]
  exact ⟨by show (0 : Int) ≤ (st : Int); omega, by show (st : Int) < 4096; omega⟩
theorem OI.head (h : OI Z R n fl s) : s.w.st = s.w.o.headD s.w.nx := by
  obtain ⟨st, d, ds, e, i⟩ := h.win
  have := i.lt
  rw [e]
  show (st : Int) = (ds.map (atD st)).headD (atD st d)
  cases ds with
  | nil =>
    have := i.nil rfl
    subst this
    show (st : Int) = atD st 0
    unfold atD; omega
  | cons x ds =>
    have := i.zero (by simp)
    simp at this
    subst this
    show (st : Int) = atD st 0
    unfold atD; omega
theorem OI.seq_near (h : OI Z R n fl s) {x : Fm} (hx : x ∈ s.l) : (x.m.seq - s.w.st) % 4096 < 64 := by
  obtain ⟨st, d, ds, e, i⟩ := h.win
  have hm : x.m.seq ∈ s.w.o := by rw [h.seqs]; exact List.mem_map.2 ⟨x, hx, rfl⟩
  rw [e] at hm ⊢
  obtain ⟨j, hj, ej⟩ := List.mem_map.1 (show x.m.seq ∈ ds.map (atD st) from hm)
  have h1 := i.below j hj; have h2 := i.dz; have h3 := i.z64; have h4 := i.lt
  show (x.m.seq - (st : Int)) % 4096 < 64
  rw [← ej]
  unfold atD
  omega
theorem OI.near (h : OI Z R n fl s) (hf : s.l.any (·.fl) = true) : s.l.any (nearP s.w.st) = true := by
  obtain ⟨x, hx, hfx⟩ := List.any_eq_true.1 hf
  refine List.any_eq_true.2 ⟨x, hx, ?_⟩
  unfold nearP
  rw [hfx, decide_eq_true (h.seq_near hx)]
  rfl
theorem OI.bodies (h : OI Z R n fl s) : ∀ x ∈ s.l, x.m.body.length ≤ 1048576 := fun x hx => by rw [h.body x hx]; decide
theorem OI.same {s' : BS} (h : OI Z R n fl s) (e1 : s'.w = s.w) (e2 : s'.l = s.l) (e3 : s'.state = s.state) (e4 : s'.vain = 0) (e5 : s'.retry = s.retry) (e6 : s'.life = s.life) : OI Z R n fl s' := by
  refine ⟨?_, ?_, ?_, ?_, ?_, ?_, h.hi, ?_, e4, ?_, ?_⟩
  · rw [e1]; exact h.win
  · rw [e1, e2]; exact h.seqs
  · rw [e2]; exact h.body
  · rw [e2]; exact h.sent
  · rw [e2]; exact h.ids
  · rw [e2]; exact h.id
  · rw [e3]; exact h.state
  · rw [e5]; exact h.retry
  · rw [e6]; exact h.life
theorem OI.maps (h : OI Z R n fl s) (f : Fm → Fm) (h1 : ∀ x, (f x).m.id = x.m.id ∧ (f x).m.seq = x.m.seq ∧ (f x).m.body = x.m.body) (h2 : ∀ x ∈ s.l, 0 ≤ (f x).m.sent ∧ (f x).m.sent ≤ (R : Int) + 1) : OI Z R n fl { s with l := s.l.map f } := by
  have e1 : (s.l.map f).map (·.m.seq) = s.l.map (·.m.seq) := by rw [List.map_map]; exact List.map_congr_left (fun x _ => (h1 x).2.1)
  have e2 : (s.l.map f).map (·.m.id) = s.l.map (·.m.id) := by rw [List.map_map]; exact List.map_congr_left (fun x _ => (h1 x).1)
  refine ⟨h.win, ?_, ?_, ?_, ?_, ?_, h.hi, h.state, h.vain, h.retry, h.life⟩
  · show s.w.o = _; rw [h.seqs]; exact e1.symm
  · intro x hx
    obtain ⟨y, hy, rfl⟩ := List.mem_map.1 hx
    rw [(h1 y).2.2]; exact h.body y hy
  · intro x hx
    obtain ⟨y, hy, rfl⟩ := List.mem_map.1 hx
    exact h2 y hy
  · show ((s.l.map f).map (·.m.id)).Nodup
    rw [e2]; exact h.ids
  · intro x hx
    obtain ⟨y, hy, rfl⟩ := List.mem_map.1 hx
    rw [(h1 y).1]; exact h.id y hy
theorem OI.land (h : OI Z R n fl s) : OI Z R n fl (landS s) := h.maps land1 (fun x => ⟨rfl, rfl, rfl⟩) (fun x hx => h.sent x hx)
theorem OI.went (h : OI Z R n fl s) (ns : List Int) (hs : ∀ x ∈ s.l, x.m.sent ≤ (R : Int)) : OI Z R n fl (wentS s ns) := by
  refine h.maps (went1 ns) (fun x => ?_) (fun x hx => ?_)
  · unfold went1; split <;> exact ⟨rfl, rfl, rfl⟩
  · have h1 := hs x hx; have h2 := (h.sent x hx).1
    unfold went1
    split
    · exact ⟨by show 0 ≤ x.m.sent + 1; omega, by show x.m.sent + 1 ≤ _; omega⟩
    · exact ⟨h2, by omega⟩
theorem filter_two {α : Type} (q : α → Bool) (l : List α) : (l.filter q).length + (l.filter (fun x => !q x)).length = l.length := by
  induction l with
  | nil => rfl
  | cons x l ih => cases hq : q x <;> simp [hq] <;> omega
theorem OI.take (h : OI Z R n fl s) (q : Fm → Bool) (L : List Md) (hL : L.map (·.m) = (s.l.filter q).map (·.m)) : OI Z R n (marks fl L) (takeS s q) ∧ L.length + (takeS s q).l.length = s.l.length := by
  have hmemL : ∀ y ∈ L, ∃ x ∈ s.l, q x = true ∧ x.m = y.m := by
    intro y hy
    have : y.m ∈ (s.l.filter q).map (·.m) := by rw [← hL]; exact List.mem_map.2 ⟨y, hy, rfl⟩
    obtain ⟨x, hx, e⟩ := List.mem_map.1 this
    exact ⟨x, (List.mem_filter.1 hx).1, (List.mem_filter.1 hx).2, e⟩
  have hsub : (s.l.filter (fun x => !q x)).Sublist s.l := List.filter_sublist
  have hmem : ∀ x ∈ s.l.filter (fun x => !q x), x ∈ s.l := fun x hx => hsub.subset hx
  have hlen := congrArg List.length hL
  rw [List.length_map, List.length_map] at hlen
  refine ⟨⟨?_, rfl, fun x hx => h.body x (hmem x hx), fun x hx => h.sent x (hmem x hx), h.ids.sublist (hsub.map _), fun x hx => ?_, fun j hj => ?_, h.state, h.vain, h.retry, h.life⟩, ?_⟩
  · obtain ⟨st, d, ds, e, i⟩ := h.win
    have hso : ((s.l.filter (fun x => !q x)).map (·.m.seq)).Sublist (ds.map (atD st)) := by
      have h1 := hsub.map (fun x : Fm => x.m.seq)
      rw [← h.seqs, e] at h1
      exact h1
    obtain ⟨ds', hd, e'⟩ := List.sublist_map_iff.1 hso
    obtain ⟨st', d', ds2, e2, i2⟩ := WH_sub i hd
    refine ⟨st', d', ds2, ?_, i2⟩
    rw [← e2]
    show takeW s q = _
    unfold takeW
    rw [e', e]
    rfl
  · obtain ⟨h1, h2, h3⟩ := h.id x (hmem x hx)
    refine ⟨h1, h2, ?_⟩
    unfold marks
    rw [h3, Bool.false_or, List.any_eq_false]
    intro y hy hyx
    obtain ⟨z, hz, hqz, ez⟩ := hmemL y hy
    have e : z.m.id = x.m.id := by
      rw [ez]
      have := beq_iff_eq.1 hyx
      omega
    have hqx : q x = false := by simpa using (List.mem_filter.1 hx).2
    have hnd := h.ids
    unfold List.Nodup at hnd
    rw [List.pairwise_map] at hnd
    have hzx : z = x := by
      obtain ⟨a, ha, rfl⟩ := List.getElem_of_mem hz
      obtain ⟨b, hb, rfl⟩ := List.getElem_of_mem (hmem x hx)
      rcases Nat.lt_trichotomy a b with hab | hab | hab
      · exact absurd e (List.pairwise_iff_getElem.1 hnd a b ha hb hab)
      · subst hab; rfl
      · exact absurd e.symm (List.pairwise_iff_getElem.1 hnd b a hb ha hab)
    rw [hzx, hqx] at hqz
    cases hqz
  · unfold marks
    rw [h.hi j hj, Bool.false_or, List.any_eq_false]
    intro y hy hyj
    obtain ⟨z, hz, _, ez⟩ := hmemL y hy
    have h2 := (h.id z hz).2.1
    have := beq_iff_eq.1 hyj
    rw [ez] at h2
    omega
  · show L.length + (s.l.filter (fun x => !q x)).length = _
    rw [hlen]
    exact filter_two q s.l
/-- what the closure asks of what came out -/
structure Ends (K R n : Nat) (fl : Nat → Bool) (L : List Md) : Prop where
  ids : (L.map (·.m.id)).Nodup
  id : ∀ x ∈ L, 1 ≤ x.m.id ∧ x.m.id ≤ (n : Int) ∧ fl x.m.id.toNat = false
  sent : ∀ x ∈ L, x.m.sent ≤ (R : Int) + 1
  room : n < K
theorem OI.ends (h : OI Z R n fl s) (q : Fm → Bool) (L : List Md) (hL : L.map (·.m) = (s.l.filter q).map (·.m)) {K : Nat} (hK : n < K) : Ends K R n fl L := by
  have hmemL : ∀ y ∈ L, ∃ x ∈ s.l, x.m = y.m := by
    intro y hy
    have : y.m ∈ (s.l.filter q).map (·.m) := by rw [← hL]; exact List.mem_map.2 ⟨y, hy, rfl⟩
    obtain ⟨x, hx, e⟩ := List.mem_map.1 this
    exact ⟨x, (List.mem_filter.1 hx).1, e⟩
  refine ⟨?_, fun y hy => ?_, fun y hy => ?_, hK⟩
  · have e : L.map (·.m.id) = (s.l.filter q).map (·.m.id) := by
      have := congrArg (List.map (fun m : Mp => m.id)) hL
      rw [List.map_map, List.map_map] at this
      exact this
    rw [e]
    exact h.ids.sublist ((List.filter_sublist).map _)
  · obtain ⟨x, hx, e⟩ := hmemL y hy
    rw [← e]; exact h.id x hx
  · obtain ⟨x, hx, e⟩ := hmemL y hy
    rw [← e]; exact (h.sent x hx).2
theorem OI.sweep (h : OI Z R n fl s) (now : Int) (L : List Md) (hL : L.map (·.m) = (s.l.filter (goneP s.retry now)).map (·.m)) : OI Z R n (marks fl L) (sweepS s now) ∧ L.length + (sweepS s now).l.length = s.l.length ∧ ∀ x ∈ (sweepS s now).l, x.fl = false → x.m.sent ≤ (R : Int) := by
  obtain ⟨h1, h2⟩ := h.take (goneP s.retry now) L hL
  refine ⟨?_, by rw [sweepS_l]; exact h2, fun x hx hf => ?_⟩
  · unfold sweepS
    split
    · exact h1.same rfl rfl rfl rfl rfl rfl
    · exact h1
  · rw [sweepS_l] at hx
    have hq := (List.mem_filter.1 (show x ∈ s.l.filter (fun x => !goneP s.retry now x) from hx)).2
    have h3 : whyP s.retry now x = 0 := by simpa [goneP] using hq
    unfold whyP at h3
    rw [hf, if_neg (by decide)] at h3
    by_cases hs : x.m.sent > s.retry
    · rw [if_pos hs] at h3; exact absurd h3 (by decide)
    · rw [h.retry] at hs; omega
theorem OI.whys (now : Int) : (whysP s now).length = (s.l.filter (goneP s.retry now)).length := by
  unfold whysP
  rw [List.filter_map, List.length_map]
  rfl
theorem OI.goes (h : OI Z R n fl s) (hf : s.l.any (·.fl) = false) (k : Nat) : ∀ (j : Nat) (y : Int), (s.w.o.take k)[j]? = some y → goes s.l (s.w.o.take k) j y = true := by
  intro j y hj
  obtain ⟨hjl, ej⟩ := List.getElem?_eq_some_iff.1 hj
  have hnd : (s.w.o.take k).Nodup := h.nodup.sublist (List.take_sublist _ _)
  unfold Go.Proofs.YthjjneanabnjoaaDoor.goes
  have h1 : ((s.w.o.take k).take j).contains y = false := by
    rw [← Bool.not_eq_true, List.contains_iff_mem]
    intro hm
    obtain ⟨i, hi, e⟩ := List.getElem_of_mem hm
    rw [List.getElem_take] at e
    have hij : i < j := by rw [List.length_take] at hi; omega
    exact List.pairwise_iff_getElem.1 hnd i j (by omega) hjl hij (e.trans ej.symm)
  have h2 : s.l.any (dueN y) = true := by
    have hm : y ∈ s.w.o := List.mem_of_mem_take (List.mem_of_getElem? hj)
    rw [h.seqs] at hm
    obtain ⟨x, hx, e⟩ := List.mem_map.1 hm
    refine List.any_eq_true.2 ⟨x, hx, ?_⟩
    have hfx : x.fl = false := by have := List.any_eq_false.1 hf x hx; simpa using this
    unfold dueN
    rw [hfx, e]
    simp
  rw [h1, h2]; rfl
theorem OI.fresh (h : OI Z R n fl s) (hr : ¬ room s.w = 0) (now : Int) (A : Option Addr) (C : Nat) : OI Z R (n + 1) fl (freshS s (pk ((n : Int) + 1)) now A C) := by
  have hm : ∀ x ∈ (freshS s (pk ((n : Int) + 1)) now A C).l, x ∈ s.l ∨ x = ⟨freshM s (pk ((n : Int) + 1)) now, false, A, C⟩ := fun x hx => by
    rcases List.mem_append.1 (show x ∈ s.l ++ [_] from hx) with hx | hx
    · exact .inl hx
    · exact .inr (List.mem_singleton.1 hx)
  refine ⟨?_, ?_, fun x hx => ?_, fun x hx => ?_, ?_, fun x hx => ?_, fun j hj => h.hi j (by omega), h.state, h.vain, h.retry, h.life⟩
  · obtain ⟨st, d, ds, e, i⟩ := h.win
    rw [e, WH_room i] at hr
    obtain ⟨e2, i2⟩ := WH_next i (by omega)
    exact ⟨st, d + 1, ds ++ [d], by show nextS s.w = _; rw [e]; exact e2, i2⟩
  · show s.w.o ++ [s.w.nx] = (s.l ++ [_]).map _
    rw [h.seqs, List.map_append]; rfl
  · rcases hm x hx with hx | rfl
    · exact h.body x hx
    · rfl
  · rcases hm x hx with hx | rfl
    · exact h.sent x hx
    · exact ⟨by show (0 : Int) ≤ 0; omega, by show (0 : Int) ≤ _; omega⟩
  · show ((s.l ++ [_]).map _).Nodup
    rw [List.map_append]
    unfold List.Nodup
    rw [List.pairwise_append]
    refine ⟨h.ids, List.pairwise_singleton _ _, fun a ha b hb => ?_⟩
    obtain ⟨x, hx, rfl⟩ := List.mem_map.1 ha
    have hb' : b = (n : Int) + 1 := List.mem_singleton.1 hb
    have := (h.id x hx).2.1
    omega
  · rcases hm x hx with hx | rfl
    · obtain ⟨h1, h2, h3⟩ := h.id x hx
      exact ⟨h1, by omega, h3⟩
    · refine ⟨by show (1 : Int) ≤ (n : Int) + 1; omega, by show (n : Int) + 1 ≤ _; omega, ?_⟩
      show fl ((n : Int) + 1).toNat = false
      exact h.hi _ (by omega)
theorem OI.bar (h : OI Z R n fl s) : OI Z R n fl (barS s true) := by
  unfold barS
  split
  · rw [if_pos (by rfl)]; exact h.same rfl rfl rfl rfl rfl rfl
  · exact h
theorem OI.heard (h : OI Z R n fl s) (q M : Int) (L : List Md) (hL : L.map (·.m) = (s.l.filter (ackP q M)).map (·.m)) : OI Z R n (marks fl L) (heardS s q M) ∧ L.length + (heardS s q M).l.length = s.l.length := by
  obtain ⟨h1, h2⟩ := h.take (ackP q M) L hL
  exact ⟨h1.land, by show _ + ((takeS s (ackP q M)).l.map land1).length = _; rw [List.length_map]; exact h2⟩
theorem oi_new (sz : Int) (R : Nat) : OI 1 R 0 (fun _ => false) (newS sz (R : Int) 1000) :=
  ⟨⟨0, 0, [], rfl, hinv_start 1 0 (by decide) (by decide)⟩, rfl, (fun x hx => by cases hx), (fun x hx => by cases hx), List.Pairwise.nil, (fun x hx => by cases hx), fun _ _ => rfl, by show (1 : Int) ≠ 2; decide, rfl, rfl, rfl⟩
theorem oi_on (Z R : Nat) (h2 : Z ≤ 64) : OI Z R 0 (fun _ => false) (onS (askS (newS (Z : Int) (R : Int) 1000) 0) 0) :=
  ⟨⟨0, 0, [], rfl, hinv_start Z 0 (by decide) h2⟩, rfl, (fun x hx => by cases hx), (fun x hx => by cases hx), List.Pairwise.nil, (fun x hx => by cases hx), fun _ _ => rfl, by show (3 : Int) ≠ 2; decide, rfl, rfl, rfl⟩
end
end Go.Proofs.YthjjneanabnjoaaDoor
