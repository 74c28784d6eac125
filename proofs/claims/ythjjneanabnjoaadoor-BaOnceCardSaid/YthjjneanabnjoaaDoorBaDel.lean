/-
  slices.Clone, slices.DeleteFunc over rows of ba.frame.
-/
import Derived.Test.YthjjneanabnjoaaDoorBaFn
namespace Go.Proofs.YthjjneanabnjoaaDoor
open Go.ChangeShapes Go.WideShapes Go.ChangeAt Go.RowKit
set_option linter.unusedVariables false

/-- 'clear' of elements of some cells: they are written over -/
theorem run_clear_rows {P : Program} (w : World) (t e ty : TypeId) (z : Value) (ht : P.underlying t = some (.slice e)) (hv : ∀ w, (zeroValue e).run P w = .ok z w) (sz : Nat) (hz : z.cells.size = sz) (hsz : 0 < sz) (h1 : ∀ u ∈ z.cells, u.oneCell' = true) (b o n c : Nat) (hn : 0 < n)
    (hc : ∀ j, j < n * sz → (w.cell? ⟨b, o + j, none⟩).isSome = true) (hf : ∀ j, j < n * sz → w.frozen? ⟨b, o + j, none⟩ = false) :
    (Builtin.clear_ #[t] ty #[.slice (some ⟨b, o, none⟩) n c]).run P w = .ok (.tuple #[]) (w.setCells b o (Builtin.zeroCells z.cells n).toList) := by
  have hl : (Builtin.zeroCells z.cells n).toList.length = n * sz := by simp [Builtin.zeroCells, hz]
  have hst := run_storeCells_cells (P := P) b o (Builtin.zeroCells z.cells n).toList 0 w (by rw [hl]; simpa using hc) (by rw [hl]; simpa using hf) (by
    intro v hv'
    simp only [Builtin.zeroCells, Array.toList_map, List.mem_map] at hv'
    obtain ⟨i, _, rfl⟩ := hv'
    have hi : i % z.cells.size < z.cells.size := Nat.mod_lt _ (by omega)
    rw [getElem!_pos z.cells _ hi]
    exact h1 _ (Array.getElem_mem hi))
  simp only [Nat.add_zero] at hst
  obtain ⟨m, rfl⟩ : ∃ m, n = m + 1 := ⟨n - 1, by omega⟩
  simp [Builtin.clear_, run_underlying ht, hv, hst]

theorem zeroCells_len (z : Array Value) (n sz : Nat) (hz : z.size = sz) : (Builtin.zeroCells z n).toList.length = n * sz := by simp [Builtin.zeroCells, hz]
theorem overL_app (a : List Value) : ∀ (us vs : List Value) (o : Nat), overL (a ++ vs) (a.length + o) us = a ++ overL vs o us := by
  intro us
  induction us with
  | nil => intro vs o; rfl
  | cons u us ih =>
    intro vs o
    simp only [overL]
    rw [List.set_append_right _ _ (by omega), show a.length + o - a.length = o by omega, show a.length + o + 1 = a.length + (o + 1) by omega]
    exact ih _ _
theorem overL_whole : ∀ (us a r : List Value), a.length = us.length → overL (a ++ r) 0 us = us ++ r := by
  intro us
  induction us with
  | nil => intro a r h; rw [List.eq_nil_of_length_eq_zero h]; rfl
  | cons u us ih =>
    intro a r h
    cases a with
    | nil => simp at h
    | cons y a =>
      simp only [overL, List.cons_append, List.set_cons_zero]
      have := overL_app [u] us (a ++ r) 0
      simp only [List.length_singleton, Nat.add_zero, List.singleton_append] at this
      rw [Nat.zero_add, this, ih a r (by simpa using h)]
theorem overL_flat {α : Type} (f : α → List Value) (sz : Nat) (hf : ∀ x, (f x).length = sz) (M : List α) (k : Nat) (hk : k < M.length) (x : α) : overL (M.flatMap f) (k * sz) (f x) = (M.set k x).flatMap f := by
  induction M generalizing k with
  | nil => simp at hk
  | cons y M ih =>
    rcases k with _ | k
    · rw [Nat.zero_mul, List.flatMap_cons, List.set_cons_zero, List.flatMap_cons]
      exact overL_whole _ _ _ (by rw [hf, hf])
    · rw [List.flatMap_cons, List.set_cons_succ, List.flatMap_cons, ← ih k (by simpa using hk), show (k + 1) * sz = (f y).length + k * sz by rw [hf, Nat.succ_mul]; omega]
      exact overL_app _ _ _ _
/-- a whole struct is stored into a row of the call's own -/
theorem wpList_store_own {P : Program} (w : World) {ops : Array Oper} {rest : List Oper} {o : Oper} {a : Act} {Q : Exit → Act → World → Prop} (hgd : o.guard = none) (ty : TypeId) (x y : Operand) (ho : o.op = .store ty x y)
    (g i : Nat) (cells : Array Value) (hx : a.eval x = .pointer (some ⟨g, i, none⟩)) (hy : a.eval y = .agg cells) {base sz n C : Nat} {e : TypeId} {vs : List Value} (hown : w.ownsRow base e sz (.slice (some ⟨g, 0, none⟩) n C) n vs) (hn : 0 < n)
    (hi : (P.info? ty).map (·.size) = some cells.size) (hle : i + cells.size ≤ vs.length) (h1 : cells.all (·.oneCell') = true)
    (h : ∀ w', w'.ownsRow base e sz (.slice (some ⟨g, 0, none⟩) n C) n (overL vs i cells.toList) → w.grownBy w' (some g) → wpList P ops Q rest (a.put o.dst undef) w') : wpList P ops Q (o :: rest) a w := by
  obtain ⟨g', hg', _, _, _, hcell, hfr, _⟩ := own_open hown hn
  injection hg' with hg'; injection hg' with hg'; subst hg'
  refine wpList_store_mid hgd ty x y ho g i cells hx hy ?_ hi h1 (h _ (own_setCells _ _ _ _ hown) (grown_setCells _ _ _ _))
  intro j hj
  refine ⟨?_, hfr _⟩
  rw [hcell (i + j) (vs[i + j]'(by omega)) (List.getElem?_eq_getElem _)]
  rfl

set_option maxHeartbeats 400000 in
theorem cloneF_any {w : World} {base n C : Nat} {A : Option Addr} {L : List Fm} (h : w.ownsRow base 81 9 (.slice A n C) n (L.flatMap fmC)) (hl : n ≤ 1000000) :
    Calls Tryd.prog 62 #[.slice A n C] w fun e w' => ∃ A2 C2, e = .returned (.slice A2 n C2) ∧ w'.ownsRow w.heap.size 81 9 (.slice A2 n C2) n (L.flatMap fmC) ∧ Below w.heap.size w w' := by
  have hr := row_of_own h
  have hm := hr.len_le
  obtain ⟨i0, hi, hz, hsz, hby⟩ := info_parts info_frame
  rcases A with _ | a
  · have h0 : C = 0 := hr.2.2.2.1 rfl
    have h1 : n = 0 := by have := hr.2.1; omega
    have h2 : L = [] := by
      have := hr.1
      rw [flat_len fmC 9 fmC_len] at this
      exact List.eq_nil_of_length_eq_zero (by omega)
    subst h0 h1 h2
    have hn := fun (w : World) => Lib.run_eql_slice_nil (P := Tryd.prog) w 76 81 none 0 0 0 0 Tryd.underlying76
    go_enter Tryd.func62, Tryd.ntmps62
    go_wp2_with fail
    go_ret
    exact ⟨none, 0, rfl, World.ownsRow_nil _ _ _ _, Below.refl _ _⟩
  · have hn := fun (w : World) => Lib.run_eql_slice_nil (P := Tryd.prog) w 76 81 (some a) n C 0 0 Tryd.underlying76
    have hmade := World.ownsRow_made (base := w.heap.size) (size := 9) (e := 81) w #[] 0 (Nat.le_refl _) (by simp [maxLen]) (by simp)
    have hone : ∀ u ∈ L.flatMap fmC, u.oneCell' = true := by
      intro u hu
      obtain ⟨x, _, hx⟩ := List.mem_flatMap.1 hu
      exact fmC_one x u hx
    go_enter Tryd.func62, Tryd.ntmps62
    go_wp2_with (at_builtin; refine wpList_append_row _ rfl (.tmp 5) (.tmp 6) _ rfl w.heap.size _ i0 _ 9 88 Tryd.underlying76 hi hz hsz hby rfl (by decide) _ 0 0 [] rfl hmade (some a) n C (L.flatMap fmC) rfl (hr.alloc _) hone (by unfold maxLen; omega) (by omega) (by simp) ?_; intro A2 C2 w2 hown2 hg2 hat2 hnone2)
    go_ret
    exact ⟨A2, C2, by simp, by simpa using hown2, below_grown ((Below.refl _ _).alloc (Nat.le_refl _) _) hmade (Nat.le_refl _) (by simp) hg2⟩

theorem filter_not_snoc {q : Fm → Bool} {l : List Fm} {k : Nat} {x : Fm} (hx : l[k]? = some x) : (l.take (k + 1)).filter (fun y => !q y) = (l.take k).filter (fun y => !q y) ++ (if q x then [] else [x]) := by
  obtain ⟨hk, hx⟩ := List.getElem?_eq_some_iff.1 hx
  rw [List.take_succ_eq_append_getElem hk, List.filter_append, hx]
  cases h : q x <;> simp [h]
theorem filter_none {q : Fm → Bool} {L : List Fm} (hno : ∀ (j : Nat) (y : Fm), L[j]? = some y → q y = false) : L.filter (fun y => !q y) = L := by
  rw [List.filter_eq_self]
  intro x hx
  obtain ⟨j, hj, rfl⟩ := List.getElem_of_mem hx
  rw [hno j _ (List.getElem?_eq_getElem hj)]; rfl
theorem idxF_split (q : Fm → Bool) (L : List Fm) : (idxF q L = -1 ∧ ∀ (j : Nat) (y : Fm), L[j]? = some y → q y = false) ∨ ∃ i x, idxF q L = (i : Nat) ∧ L[i]? = some x ∧ q x = true ∧ i < L.length ∧ ∀ (j : Nat) (y : Fm), j < i → L[j]? = some y → q y = false := by
  unfold idxF
  cases e : L.findIdx? q with
  | none =>
    rw [List.findIdx?_eq_none_iff] at e
    exact .inl ⟨rfl, fun j y hy => e y (List.mem_of_getElem? hy)⟩
  | some i =>
    obtain ⟨hi, hp, hno⟩ := List.findIdx?_eq_some_iff_getElem.1 e
    refine .inr ⟨i, L[i], rfl, List.getElem?_eq_getElem hi, hp, hi, fun j y hj hy => ?_⟩
    have := hno j hj
    obtain ⟨_, hy⟩ := List.getElem?_eq_some_iff.1 hy
    rw [hy] at this
    simpa using this
/-- what DeleteFunc has done so far: the first ii are those that stay of the first jj; behind jj all is as it was -/
def DelR (q : Fm → Bool) (L M : List Fm) (ii jj : Nat) : Prop := M.length = L.length ∧ ii < jj ∧ jj ≤ L.length ∧ M.take ii = (L.take jj).filter (fun y => !q y) ∧ ∀ r, jj ≤ r → M[r]? = L[r]?
theorem delR_start {q : Fm → Bool} {L : List Fm} {i : Nat} {x : Fm} (hx : L[i]? = some x) (hq : q x = true) (hno : ∀ (j : Nat) (y : Fm), j < i → L[j]? = some y → q y = false) : DelR q L L i (i + 1) := by
  have hi := (List.getElem?_eq_some_iff.1 hx).1
  refine ⟨rfl, Nat.lt_succ_self _, hi, ?_, fun r _ => rfl⟩
  rw [filter_not_snoc hx, hq, if_pos rfl, List.append_nil, filter_none]
  intro j y hy
  rw [List.getElem?_take] at hy
  split at hy
  · exact hno j y ‹_› hy
  · cases hy
theorem delR_gone {q : Fm → Bool} {L M : List Fm} {ii jj : Nat} {x : Fm} (h : DelR q L M ii jj) (hx : L[jj]? = some x) (hq : q x = true) : DelR q L M ii (jj + 1) := by
  obtain ⟨h1, h2, h3, h4, h5⟩ := h
  refine ⟨h1, by omega, (List.getElem?_eq_some_iff.1 hx).1, ?_, fun r hr => h5 r (by omega)⟩
  rw [filter_not_snoc hx, hq, if_pos rfl, List.append_nil, h4]
theorem delR_stay {q : Fm → Bool} {L M : List Fm} {ii jj : Nat} {x : Fm} (h : DelR q L M ii jj) (hx : L[jj]? = some x) (hq : q x = false) : DelR q L (M.set ii x) (ii + 1) (jj + 1) := by
  obtain ⟨h1, h2, h3, h4, h5⟩ := h
  have hj := (List.getElem?_eq_some_iff.1 hx).1
  refine ⟨by simpa using h1, by omega, hj, ?_, fun r hr => ?_⟩
  · rw [filter_not_snoc hx, hq, ← h4, List.take_succ_eq_append_getElem (by simp; omega)]
    have e : (M.set ii x).take ii = M.take ii := by
      apply List.ext_getElem?
      intro r
      rw [List.getElem?_take, List.getElem?_take]
      split
      · rw [List.getElem?_set_ne (by omega)]
      · rfl
    simp [e]
  · rw [List.getElem?_set_ne (by omega)]
    exact h5 r (by omega)
theorem delR_end {q : Fm → Bool} {L M : List Fm} {ii : Nat} (h : DelR q L M ii L.length) : M.take ii = L.filter (fun y => !q y) := by
  have := h.2.2.2.1
  rwa [List.take_length] at this

set_option maxRecDepth 100000 in
set_option maxHeartbeats 4000000 in
theorem deleteFunc_any {w0 w : World} {n C : Nat} {A : Option Addr} {L : List Fm} (h : w.ownsRow w0.heap.size 81 9 (.slice A n C) n (L.flatMap fmC)) (kf : FuncId) (cs : Array Value) (q : Fm → Bool) (hq : PredF kf cs q w0) (h0 : Below w0.heap.size w0 w) (hl : n ≤ 1000000) :
    Calls Tryd.prog 61 #[.slice A n C, .func (.func kf) #[] cs] w fun e w' => ∃ m A2 C2, e = .returned (.slice A2 m C2) ∧ m = (L.filter (fun y => !q y)).length ∧ w'.ownsRow w0.heap.size 81 9 (.slice A2 m C2) m ((L.filter (fun y => !q y)).flatMap fmC) ∧ (∀ k, blk A2 = some k → blk A = some k) ∧ Below w0.heap.size w0 w' := by
  have hL := rowF_len h
  have hm := (row_of_own h).len_cap
  have HI := Lib.hid (indexFunc_any h kf cs q (hq.later h0))
  have H := Lib.hid h
  have HQ := Lib.hid hq
  have H0 := Lib.hid h0
  have eg := hq.enters
  have z0 := h0.size
  clear hq h0
  rcases idxF_split q L with ⟨e1, hno⟩ | ⟨i, x, e1, hx, hqx, hi, hno⟩
  · have HF := Lib.hid (filter_none hno)
    rw [e1] at HI
    have HLL := Lib.hid hL
    clear e1 hno h hL
    go_enter Tryd.func61, Tryd.ntmps61
    go_wp2_with fail
    refine HI.out.mono ?_
    rintro e w1 ⟨rfl, hb1⟩
    go_wp2_with fail
    go_ret
    exact ⟨n, A, C, rfl, by rw [HF.out]; exact HLL.out.symm, by rw [HF.out]; exact own_below H.out hb1 (Nat.le_refl _), fun k hk => hk, H0.out.trans (hb1.mono z0)⟩
  · rw [e1] at HI
    have HD := Lib.hid (delR_start hx hqx hno)
    have hin : i < n := by omega
    obtain ⟨g, rfl, hg1, hg2, hC, _, _⟩ := rowF_at h (by omega)
    have HLL := Lib.hid hL
    have q1 : ¬ (i : Int) = -1 := by omega
    have q2 : ((i : Int) == -1) = false := by simp
    have q3 : IntKind.i64.wrap ((i : Int) + 1) = (i : Int) + 1 := IntWalk.i64_in _ (by omega)
    clear e1 hno h hL hx hqx hi
    go_enter Tryd.func61, Tryd.ntmps61
    go_wp2_with fail
    refine HI.out.mono ?_
    rintro e w1 ⟨rfl, hb1⟩
    have HO1 := Lib.hid (own_below H.out hb1 (Nat.le_refl _))
    have HB1 := Lib.hid (H0.out.trans (hb1.mono z0))
    clear hb1
    go_wp2_with fail
    go_loopw [5, 6] (fun iv jv wr => ∃ (ii jj : Nat) (M : List Fm), iv = .int .i64 ii ∧ jv = .int .i64 jj ∧ DelR q L M ii jj ∧ wr.ownsRow w0.heap.size 81 9 (.slice (some ⟨g, 0, none⟩) n C) n (M.flatMap fmC) ∧ Below w0.heap.size w0 wr) (fun _ jv _ => n - (intOf jv).toNat)
    case atStart => exact ⟨i, i + 1, L, rfl, rfl, HD.out, HO1.out, HB1.out⟩
    case round =>
      obtain ⟨ii, jj, M, rfl, rfl, hd, ho, hb⟩ := hrel
      have HDR := Lib.hid hd
      have HO := Lib.hid ho
      have HB := Lib.hid hb
      have hij : ii < jj := hd.2.1
      have hjn : jj ≤ n := by have := hd.2.2.1; have := HLL.out; omega
      have hML := hd.1
      clear hd ho hb q1 q2 q3
      by_cases hlt : jj < n
      · obtain ⟨x, hx⟩ : ∃ x, L[jj]? = some x := ⟨_, List.getElem?_eq_getElem (by rw [HLL.out]; exact hlt)⟩
        obtain ⟨g', hgg, _, hg2r, _, hfr, hat⟩ := rowF_at HO.out (by omega)
        injection hgg with hgg; injection hgg with hgg; subst hgg
        have HX := Lib.hid (hat jj x (by rw [HDR.out.2.2.2.2 jj (Nat.le_refl _)]; exact hx))
        have HXX := Lib.hid hx
        have zr := HB.out.size
        clear hat hfr hx
        go_wp2_with (first
          | (refine wpList_load_mid (by rfl) 81 (.tmp 24) rfl g (jj * 9) rfl (fmC x) _ HX.out Tryd.underlying81 rfl (by kernel_rfl) ?_)
          | (refine wpList_store_blk _ (by rfl) 81 _ _ rfl wr.heap.size (fmC x).toArray rfl rfl 81 _ (Blk.new _ _ _) (by kernel_rfl) rfl (by simp [fmC, Value.oneCell']) ?_; intro w3 hk3 hg3; have hb3 := Below.grown ((Below.refl wr.heap.size wr).alloc (Nat.le_refl _) _) hg3 (by simp) (by simp); have HK3 := Lib.hid hk3; have HB3 := Lib.hid (HB.out.trans (hb3.mono zr)); have HO3 := Lib.hid (own_below HO.out hb3 (Nat.le_refl _)); clear hk3 hg3 hb3)
          | (refine wpList_load_blk _ (by rfl) 81 _ rfl wr.heap.size rfl 81 _ _ HK3.out Tryd.underlying81 rfl (by kernel_rfl) ?_))
        refine (HQ.out.call w3 x HB3.out).mono ?_
        rintro e w4 ⟨rfl, hb4⟩
        have HK4 := Lib.hid (HK3.out.below hb4 HK3.out.lt)
        have HB4 := Lib.hid (HB3.out.trans (hb4.mono HB3.out.size))
        have HO4 := Lib.hid (own_below HO3.out hb4 (Nat.le_refl _))
        clear hb4
        cases hqx : q x with
        | true =>
          have HD2 := Lib.hid (delR_gone HDR.out HXX.out hqx)
          clear hqx
          go_wp2_with fail
          go_roundw
          case rel => exact ⟨ii, jj + 1, M, rfl, by go_num, HD2.out, HO4.out, HB4.out⟩
          case measure => simp [intOf]; omega
        | false =>
          have HD2 := Lib.hid (delR_stay HDR.out HXX.out hqx)
          have hlen : ii * 9 + (fmC x).toArray.size ≤ (M.flatMap fmC).length := by
            rw [flat_len fmC 9 fmC_len, hML, HLL.out]
            simp [fmC]; omega
          have hiM : ii < M.length := by rw [hML, HLL.out]; omega
          have hn0 : 0 < n := by omega
          have hin2 : ii < n := by omega
          clear hqx
          go_wp2_with (first
            | (refine wpList_load_blk _ (by rfl) 81 _ rfl wr.heap.size rfl 81 _ _ HK4.out Tryd.underlying81 rfl (by kernel_rfl) ?_)
            | (refine wpList_store_own _ (by rfl) 81 (.tmp 33) (.tmp 32) rfl g (ii * 9) (fmC x).toArray rfl rfl HO4.out hn0 (by kernel_rfl) hlen (by simp [fmC, Value.oneCell']) ?_; intro w5 ho5 hg5; have HO5 := Lib.hid ho5; have HG5 := Lib.hid hg5; clear ho5 hg5))
          go_roundw
          case rel => exact ⟨ii + 1, jj + 1, M.set ii x, by go_num, by go_num, HD2.out, by rw [← overL_flat fmC 9 fmC_len M ii hiM x]; exact HO5.out, Below.grown HB4.out HG5.out HB4.out.size (by intro k hk; injection hk with hk; omega)⟩
          case measure => simp [intOf]; omega
      · have hjn2 : jj = n := by omega
        subst hjn2
        have HE := Lib.hid (delR_end (by rw [HLL.out]; exact HDR.out))
        obtain ⟨g', hgg, _, hg2r, hC2, hcell, hfr, _⟩ := own_open HO.out (by omega)
        injection hgg with hgg; injection hgg with hgg; subst hgg
        obtain ⟨i0, hi0, hz0, hz1, hz2⟩ := info_parts info_frame
        have hvl : (M.flatMap fmC).length = jj * 9 := by rw [flat_len fmC 9 fmC_len, hML, HLL.out]
        have hcl := fun ty => run_clear_rows (P := Tryd.prog) wr 76 81 ty (.agg #[.int .i64 0, .int .u32 0, .int .i64 0, .int .i64 0, .slice none 0 0, .int .i64 0, .int .i64 0, .int .i64 0, .bool false]) Tryd.underlying76 (fun w => by simp [zeroValue, typeInfo, hi0, hz0, go_sem]) 9 rfl (by decide) (by intro u hu; simp [Value.cells] at hu; rcases hu with rfl | rfl | rfl | rfl | rfl | rfl <;> rfl) g (ii * 9) (jj - ii) (C - ii) (by omega)
          (fun t ht => by rw [hcell (ii * 9 + t) ((M.flatMap fmC)[ii * 9 + t]'(by omega)) (List.getElem?_eq_getElem _)]; rfl) (fun t ht => hfr _)
        have hzl := zeroCells_len (Value.cells (.agg #[.int .i64 0, .int .u32 0, .int .i64 0, .int .i64 0, .slice none 0 0, .int .i64 0, .int .i64 0, .int .i64 0, .bool false])) (jj - ii) 9 rfl
        generalize (Builtin.zeroCells (Value.cells (.agg #[.int .i64 0, .int .u32 0, .int .i64 0, .int .i64 0, .slice none 0 0, .int .i64 0, .int .i64 0, .int .i64 0, .bool false])) (jj - ii)).toList = us at *
        have hown := own_take (own_setCells us wr _ (ii * 9) HO.out) (m := ii) (by omega)
        have key : (overL (M.flatMap fmC) (ii * 9) us).take (ii * 9) = (L.filter (fun y => !q y)).flatMap fmC := by
          rw [← HE.out]
          apply List.ext_getElem?
          intro r
          rw [List.getElem?_take]
          split
          · rename_i hr
            rw [overL_get _ _ _ _ (by rw [hzl, hvl]; omega), if_pos hr]
            have hsplit : M.flatMap fmC = (M.take ii).flatMap fmC ++ (M.drop ii).flatMap fmC := by rw [← List.flatMap_append, List.take_append_drop]
            rw [hsplit, List.getElem?_append_left (by rw [flat_len fmC 9 fmC_len, List.length_take, hML, HLL.out]; omega)]
          · rw [List.getElem?_eq_none]
            rw [flat_len fmC 9 fmC_len, List.length_take, hML, HLL.out]; omega
        rw [key] at hown
        have HF := Lib.hid hown
        have HFB := Lib.hid (Below.grown HB.out (grown_setCells g us wr (ii * 9)) HB.out.size (by intro k hk; injection hk with hk; omega))
        have HFL := Lib.hid (show ii = (L.filter (fun y => !q y)).length by rw [← HE.out, List.length_take, hML, HLL.out]; omega)
        have r1 : ¬ C = ii := by omega
        have r2 : ii ≤ jj := by omega
        have r3 : ii ≤ C := by omega
        clear hown key hcell hfr hzl hvl
        go_wp2_with fail
        go_ret
        exact ⟨ii, some ⟨g, 0, none⟩, C, rfl, HFL.out, HF.out, fun k hk => hk, HFB.out⟩
end Go.Proofs.YthjjneanabnjoaaDoor
