/-
  ba.own; slices' functions over rows of ba.frame: IndexFunc, ContainsFunc, with any predicate that leaves memory alone.
-/
import Derived.Test.YthjjneanabnjoaaDoorBaBase
import Derived.Test.YthjjneanabnjoaaDoorZeroErr
namespace Go.Proofs.YthjjneanabnjoaaDoor
open Go.ChangeShapes Go.WideShapes Go.ChangeAt Go.RowKit
set_option linter.unusedVariables false

theorem results_cell1 {fn : Func} {p : Tmp} {ty : TypeId} (h : fn.results = #[.cell p ty]) (tmps : Array Value) (P : Program) (w : World) :
    (results fn tmps).run P w = ((asAddr (tmps.getD p undef)).run P w).andThen fun a w' => (loadVar ty a).run P w' := by
  unfold results
  rw [h]
  simp
theorem ret_cell1 {P : Program} {fn : Func} {R : Ending → World → Prop} {p : Tmp} {ty : TypeId} (hr : fn.results = #[.cell p ty]) {a : Act} {w : World} (n : Nat) (T : TypeId) (zs : Array Value)
    (hp : a.eval (.tmp p) = .pointer (some ⟨n, 0, none⟩)) (hk : Blk w n zs T) (hw : wide (P.underlying ty) = true) (hi : (P.info? ty).map (·.size) = some zs.size) (hd : a.defers = [])
    (h : R (.returned (.agg zs)) w) : bodyPost P fn R .ret a w := by
  refine bodyPost_ret (v := .agg zs) ?_ hd h
  have hp' : a.tmps.getD p undef = .pointer (some ⟨n, 0, none⟩) := hp
  obtain ⟨d, hd1, hd2⟩ : ∃ d, P.underlying ty = some d ∧ (match d with | .struct _ | .array _ _ => true | _ => false) = true := by
    cases he : P.underlying ty with
    | none => rw [he] at hw; simp [wide] at hw
    | some d => exact ⟨d, rfl, by rw [he] at hw; cases d <;> simp_all [wide]⟩
  have hl : (loadVar ty ⟨n, 0, none⟩).run P w = .ok (.agg zs) w := run_loadVar_row w n T ty zs (0, 0) d hk hd1 (by cases d <;> simp_all) hi
  rw [results_cell1 hr, hp']
  simp only [asAddr, Sem.run_pure, Result.andThen_ok, hl]
theorem mp_one (m : Mp) (A : Option Addr) (C : Nat) : (mpA m A C).all (·.oneCell') = true := by simp [mpA, Value.oneCell']
theorem mpA_eq (m : Mp) (A : Option Addr) (C : Nat) : mpA m A C = #[.int .i64 m.id, .int .u32 m.flow, .int .i64 m.tid, .int .i64 m.at_, .slice A m.body.length C, .int .i64 m.seq, .int .i64 m.sent, .int .i64 m.unt] := rfl
def zmp : Array Value := #[.int .i64 0, .int .u32 0, .int .i64 0, .int .i64 0, .slice none 0 0, .int .i64 0, .int .i64 0, .int .i64 0]
set_option maxRecDepth 100000 in
set_option maxHeartbeats 1000000 in
theorem own_any (m : Mp) (A : Option Addr) (C : Nat) (w : World) (h : Row w 1 A m.body.length C (m.body.map u8v)) (hl : m.body.length ≤ 1048576) :
    Calls Tryd.prog 34 #[.agg (mpA m A C)] w fun e w' => ∃ A2 C2, e = .returned (.agg (mpA m A2 C2)) ∧ OwnU8 w' w.heap.size A2 m.body.length C2 m.body ∧ Below w.heap.size w w' := by
  have hb0 : Below w.heap.size w ((w.alloc (.cells (mpA m A C) 34)).alloc (.cells zmp 34)) := ((Below.refl _ _).alloc (Nat.le_refl _) _).alloc (by simp) _
  have hk0 := (Blk.new w (mpA m A C) 34).alloc (.cells zmp 34)
  have hr0 := Blk.new (w.alloc (.cells (mpA m A C) 34)) zmp 34
  rw [show (w.alloc (.cells (mpA m A C) 34)).heap.size = w.heap.size + 1 by simp] at hr0
  have c4 : ((w.alloc (.cells (mpA m A C) 34)).alloc (.cells zmp 34)).cell? ⟨w.heap.size, 4, none⟩ = some (.slice A m.body.length C) := hk0.cell 4
  have HC := Lib.hid (clone_any A m.body.length C m.body _ ((h.alloc (.cells (mpA m A C) 34)).alloc (.cells zmp 34)) hl)
  have HK := Lib.hid hk0
  have HR := Lib.hid hr0
  have HB := Lib.hid hb0
  have z0 := hb0.size
  clear hk0 hr0 hb0 h
  unfold zmp at c4 HC HK HR HB z0
  go_enter Tryd.func34, Tryd.ntmps34
  go_wp2_with fail
  refine HC.out.mono ?_
  rintro e w1 ⟨⟨A2, n2, C2, rfl, ho, hb⟩, -⟩
  obtain rfl : m.body.length = n2 := ho.len
  have hk1 := HK.out.below hb (by simp; omega)
  have hr1 := HR.out.below hb (by simp)
  have d4 : w1.cell? ⟨w.heap.size, 4, none⟩ = some (.slice A m.body.length C) := hk1.cell 4
  have f4 := hk1.frozen 4
  have hk2 : Blk (w1.setCell ⟨w.heap.size, 4, none⟩ (.slice A2 m.body.length C2)) w.heap.size (mpA m A2 C2) 34 := hk1.set_ 4 _
  have hr2 := hr1.far (p := ⟨w.heap.size, 4, none⟩) (by simp) (.slice A2 m.body.length C2)
  have ho2 := ownU8_far ho ⟨w.heap.size, 4, none⟩ (by intro e; have := (ho.blk_ge _ e.symm).1; simp at this; omega) (.slice A2 m.body.length C2)
  have hb2 := (HB.out.trans (hb.mono z0)).setCell (p := ⟨w.heap.size, 4, none⟩) (Nat.le_refl _) (.slice A2 m.body.length C2)
  have HK2 := Lib.hid hk2
  have HR2 := Lib.hid hr2
  have HO2 := Lib.hid ho2
  have HB2 := Lib.hid hb2
  clear hk1 hr1 hk2 hr2 ho2 hb2 ho hb
  go_wp2_with (first
    | (refine wpList_load_blk _ (by rfl) 34 _ rfl w.heap.size rfl 34 _ _ HK2.out Tryd.underlying34 rfl (by kernel_rfl) ?_)
    | (refine wpList_store_blk _ (by rfl) 34 _ _ rfl (w.heap.size + 1) (mpA m A2 C2) rfl rfl 34 _ HR2.out (by kernel_rfl) rfl (mp_one _ _ _) ?_; intro w3 hk3 hg3))
  exact ret_cell1 rfl (w.heap.size + 1) _ _ rfl hk3 (by kernel_rfl) (by kernel_rfl) rfl ⟨A2, C2, rfl, (HO2.out.base_le (by omega)).keep hg3 (.inr (Ne.symm (HO2.out.ne_blk HR2.out (by decide)))), Below.grown HB2.out hg3 (by have := HR2.out.lt; omega) (by simp)⟩

/-- a predicate on frames that leaves memory alone -/
structure PredF (k : FuncId) (cs : Array Value) (p : Fm → Bool) (w : World) : Prop where
  enters : ∀ args w, (callFunc k args).run Tryd.prog w = .ok (.enter k args) w
  call : ∀ (W : World) (x : Fm), Below w.heap.size w W → Calls Tryd.prog k (#[.agg (fmC x).toArray] ++ cs) W fun e W' => e = .returned (.bool (p x)) ∧ Below W.heap.size W W'
theorem PredF.later {k : FuncId} {cs : Array Value} {p : Fm → Bool} {w w' : World} (h : PredF k cs p w) (hb : Below w.heap.size w w') : PredF k cs p w' := ⟨h.enters, fun W x hW => h.call W x (hb.trans (hW.mono hb.size))⟩
/-- where the first is of which p holds -/
def idxF (p : Fm → Bool) (L : List Fm) : Int := match L.findIdx? p with
  | none => -1
  | some i => i
theorem idxF_hit {p : Fm → Bool} {L : List Fm} {k : Nat} {x : Fm} (hx : L[k]? = some x) (hp : p x = true) (hno : ∀ (j : Nat) (y : Fm), j < k → L[j]? = some y → p y = false) : idxF p L = (k : Int) := by
  have e : L.findIdx? p = some k := by
    obtain ⟨hk, hx⟩ := List.getElem?_eq_some_iff.1 hx
    rw [List.findIdx?_eq_some_iff_getElem]
    exact ⟨hk, by rw [hx]; exact hp, fun j hj => by rw [hno j _ hj (List.getElem?_eq_getElem (by omega))]; simp⟩
  unfold idxF
  rw [e]
theorem idxF_miss {p : Fm → Bool} {L : List Fm} (hno : ∀ (j : Nat) (y : Fm), L[j]? = some y → p y = false) : idxF p L = -1 := by
  have e : L.findIdx? p = none := by
    rw [List.findIdx?_eq_none_iff]
    intro x hx
    obtain ⟨j, hj, rfl⟩ := List.getElem_of_mem hx
    exact hno j _ (List.getElem?_eq_getElem hj)
  unfold idxF
  rw [e]
theorem idxF_any (p : Fm → Bool) (L : List Fm) : decide (0 ≤ idxF p L) = L.any p := by
  unfold idxF
  cases e : L.findIdx? p with
  | none =>
    rw [List.findIdx?_eq_none_iff] at e
    have : L.any p = false := by
      rw [List.any_eq_false]
      intro x hx
      simp [e x hx]
    rw [this]; rfl
  | some i =>
    obtain ⟨hi, hp, _⟩ := List.findIdx?_eq_some_iff_getElem.1 e
    have : L.any p = true := by
      rw [List.any_eq_true]
      exact ⟨_, List.getElem_mem hi, hp⟩
    rw [this]
    exact decide_eq_true (show (0 : Int) ≤ (i : Int) by omega)
/-- an opened row of frames -/
theorem rowF_at {w : World} {base n C : Nat} {A : Option Addr} {L : List Fm} (h : w.ownsRow base 81 9 (.slice A n C) n (L.flatMap fmC)) (hn : 0 < n) :
    ∃ g, A = some ⟨g, 0, none⟩ ∧ base ≤ g ∧ g < w.heap.size ∧ n ≤ C ∧ (∀ j, w.frozen? ⟨g, j, none⟩ = false) ∧ ∀ k x, L[k]? = some x → w.rangeAt g (k * 9) (fmC x) := by
  obtain ⟨g, h1, h2, h3, h4, h5, h6, _⟩ := own_open h hn
  refine ⟨g, h1, h2, h3, h4, h6, fun k x hx j u hu => h5 _ _ (flat_get fmC 9 fmC_len L k j ?_ hx hu)⟩
  have := (List.getElem?_eq_some_iff.1 hu).1
  rwa [fmC_len] at this
theorem rangeAt_below {w w' : World} {B b o : Nat} {vs : List Value} (h : w.rangeAt b o vs) (hb : Below B w w') (hB : b < B) : w'.rangeAt b o vs := fun j v hv => by
  rw [World.cell?_of_block (a := ⟨b, o + j, none⟩) (hb.block b hB)]
  exact h j v hv
theorem rowF_len {w : World} {base n C : Nat} {A : Option Addr} {L : List Fm} (h : w.ownsRow base 81 9 (.slice A n C) n (L.flatMap fmC)) : L.length = n := by
  have := h.1
  rw [flat_len fmC 9 fmC_len] at this
  omega

set_option maxRecDepth 100000 in
set_option maxHeartbeats 1600000 in
theorem indexFunc_any {w : World} {base n C : Nat} {A : Option Addr} {L : List Fm} (h : w.ownsRow base 81 9 (.slice A n C) n (L.flatMap fmC)) (kf : FuncId) (cs : Array Value) (p : Fm → Bool) (hp : PredF kf cs p w) :
    Calls Tryd.prog 59 #[.slice A n C, .func (.func kf) #[] cs] w fun e w' => e = .returned (.int .i64 (idxF p L)) ∧ Below w.heap.size w w' := by
  have hm := (row_of_own h).len_cap
  have hL := rowF_len h
  have H := Lib.hid h
  have HP := Lib.hid hp
  have HL := Lib.hid hL
  have eg := hp.enters
  clear h hp hL
  go_enter Tryd.func59, Tryd.ntmps59
  go_wp2_with fail
  go_loopw [8] (fun i wr => ∃ k : Nat, k ≤ n ∧ i = .int .i64 k ∧ (∀ j x, j < k → L[j]? = some x → p x = false) ∧ Below w.heap.size w wr) (fun i _ => n - (intOf i).toNat)
  case atStart => exact ⟨0, Nat.zero_le _, rfl, fun j x hj => by omega, Below.refl _ _⟩
  case round =>
    obtain ⟨k, hk, rfl, hno, hb⟩ := hrel
    have HN := Lib.hid hno
    have HB := Lib.hid hb
    have hs := hb.size
    clear hno hb
    by_cases hkn : k < n
    · obtain ⟨g, rfl, hg1, hg2, hC, hfr, hat⟩ := rowF_at H.out (by omega)
      obtain ⟨x, hx⟩ : ∃ x, L[k]? = some x := ⟨_, List.getElem?_eq_getElem (by rw [HL.out]; exact hkn)⟩
      have HX := Lib.hid (rangeAt_below (hat k x hx) HB.out hg2)
      have HXX := Lib.hid hx
      clear hat hfr hx
      have HCL := Lib.hid (HP.out.call wr x HB.out)
      cases hpx : p x with
      | true =>
        rw [hpx] at HCL
        have HR := Lib.hid (show idxF p L = (k : Int) from idxF_hit HXX.out hpx HN.out)
        clear hpx
        go_wp2_with (first
          | (refine wpList_load_mid (by rfl) 81 (.tmp 14) rfl g (k * 9) rfl (fmC x) _ HX.out Tryd.underlying81 rfl (by kernel_rfl) ?_)
          | (go_at_fn kf; refine HCL.out.mono ?_; rintro e w' ⟨rfl, hb'⟩))
        go_ret
        exact ⟨ret_i64 HR.out.symm, HB.out.trans (hb'.mono hs)⟩
      | false =>
        rw [hpx] at HCL
        have HN2 := Lib.hid (show ∀ j y, j < k + 1 → L[j]? = some y → p y = false by
          intro j y hj hy
          rcases Nat.lt_or_ge j k with h | h
          · exact HN.out j y h hy
          · obtain rfl : j = k := by omega
            rw [HXX.out] at hy
            injection hy with hy
            rw [← hy]; exact hpx)
        clear hpx
        go_wp2_with (first
          | (refine wpList_load_mid (by rfl) 81 (.tmp 14) rfl g (k * 9) rfl (fmC x) _ HX.out Tryd.underlying81 rfl (by kernel_rfl) ?_)
          | (go_at_fn kf; refine HCL.out.mono ?_; rintro e w' ⟨rfl, hb'⟩))
        go_roundw
        case rel => exact ⟨k + 1, by omega, by go_num, HN2.out, HB.out.trans (hb'.mono hs)⟩
        case measure => simp [intOf]; omega
    · have hke : k = n := by omega
      have HR := Lib.hid (show idxF p L = -1 from idxF_miss (fun j y hy => HN.out j y (by rw [hke, ← HL.out]; exact (List.getElem?_eq_some_iff.1 hy).1) hy))
      clear hke
      go_wp2_with fail
      go_ret
      exact ⟨ret_i64 HR.out.symm, HB.out⟩

set_option maxRecDepth 100000 in
set_option maxHeartbeats 800000 in
theorem containsFunc_any {w : World} {base n C : Nat} {A : Option Addr} {L : List Fm} (h : w.ownsRow base 81 9 (.slice A n C) n (L.flatMap fmC)) (kf : FuncId) (cs : Array Value) (p : Fm → Bool) (hp : PredF kf cs p w) :
    Calls Tryd.prog 36 #[.slice A n C, .func (.func kf) #[] cs] w fun e w' => e = .returned (.bool (L.any p)) ∧ Below w.heap.size w w' := by
  have HC := Lib.hid (indexFunc_any h kf cs p hp)
  have HA := Lib.hid (idxF_any p L)
  obtain ⟨z, hz⟩ : ∃ z, idxF p L = z := ⟨_, rfl⟩
  rw [hz] at HC HA
  clear hz
  go_enter Tryd.func36, Tryd.ntmps36
  go_wp2_with fail
  refine HC.out.mono ?_
  rintro e w1 ⟨rfl, hb⟩
  go_wp2_with fail
  go_ret
  exact ⟨ret_bool HA.out, hb⟩
end Go.Proofs.YthjjneanabnjoaaDoor
