/-
  A region that draws its order, whose last operations write what its first ones read: a condition on the world that is kept until operation 'st' comes up (all who read wait ahead of it); from there on plainly any order.
-/
import Derived.Test.YthjjneanabnjoaaDoorZeroErr
namespace Go.Proofs.YthjjneanabnjoaaDoor
open Go.ChangeShapes Go.WideShapes Go.ChangeAt Go.RowKit
set_option linter.unusedVariables false
section
variable {P : Program} {ops : Array Oper} {Q : Exit → Act → World → Prop} {md : Region.Mode} {S : World → Prop} {st : Nat}

/-- any order; S behind each operation, until 'st' -/
def wpTill (P : Program) (md : Region.Mode) (ops : Array Oper) (Q : Exit → Act → World → Prop) (S : World → Prop) (st : Nat) : Nat → Array Bool → Act → World → Prop
  | 0, listed, a, w => Region.ready md ops listed = [] ∧ Q .normal a w
  | fuel + 1, listed, a, w => (Region.ready md ops listed = [] → Q .normal a w) ∧
    ∀ i ∈ Region.ready md ops listed, (i = st → wpOp P ops Q i (wpAny P md ops Q fuel (listed.setIfInBounds i true)) a w) ∧
      (i ≠ st → wpOp P ops Q i (fun a' w' => S w' ∧ wpTill P md ops Q S st fuel (listed.setIfInBounds i true) a' w') a w)
theorem till_sound : ∀ (fuel : Nat) (listed : Array Bool) (a : Act) (w : World), wpTill P md ops Q S st fuel listed a w → wpAny P md ops Q fuel listed a w := by
  intro fuel
  induction fuel with
  | zero => exact fun _ _ _ h => h
  | succ fuel ih =>
    refine fun listed a w h => ⟨h.1, fun i hi => ?_⟩
    by_cases e : i = st
    · exact (h.2 i hi).1 e
    · exact wpOp_mono (fun a' w' h' => ih _ a' w' h'.2) ((h.2 i hi).2 e)
/-- 'st' waits for 'i' -/
def waitsFor (md : Region.Mode) (ops : Array Oper) (st i : Nat) : Bool := match ops[st]? with
  | some o => o.after.any (fun e => Region.binds md e && e.on == i)
  | none => false
/-- 'st' waits for the first of the path, that for the next, .. the last for 'i' -/
def waitsBy (md : Region.Mode) (ops : Array Oper) : Nat → List Nat → Nat → Bool
  | st, [], i => waitsFor md ops st i
  | st, k :: ks, i => waitsFor md ops st k && waitsBy md ops k ks i
/-- all that a listed one waits for is listed -/
def closedB (md : Region.Mode) (ops : Array Oper) (listed : Array Bool) : Bool :=
  (List.range ops.size).all fun k => !(listed.getD k false) || match ops[k]? with
    | some o => o.after.all (fun e => !(Region.binds md e) || listed.getD e.on false)
    | none => true
def Closed (md : Region.Mode) (ops : Array Oper) (listed : Array Bool) : Prop := ∀ k o, ops[k]? = some o → listed.getD k false = true → ∀ e ∈ o.after, Region.binds md e = true → listed.getD e.on false = true
theorem closed_of {listed : Array Bool} (h : closedB md ops listed = true) : Closed md ops listed := by
  intro k o ho hk e he hb
  unfold closedB at h
  rw [List.all_eq_true] at h
  have h1 := h k (List.mem_range.2 (Array.getElem?_eq_some_iff.1 ho).1)
  rw [ho, hk] at h1
  simp only [Bool.not_true, Bool.false_or] at h1
  rw [Array.all_eq_true_iff_forall_mem] at h1
  have h2 := h1 e he
  rw [hb] at h2
  simpa using h2
theorem closed_set {listed : Array Bool} {j : Nat} (h : Closed md ops listed) (hj : j ∈ Region.ready md ops listed) : Closed md ops (listed.setIfInBounds j true) := by
  intro k o ho hk e he hb
  by_cases hjk : j = k
  · subst hjk
    obtain ⟨_, o', ho', hall⟩ := mem_ready.1 hj
    rw [ho] at ho'
    injection ho' with ho'
    subst ho'
    exact getD_set_true (hall e he hb)
  · rw [getD_set_ne false hjk] at hk
    exact getD_set_true (h k o ho hk e he hb)
theorem waits_listed {listed : Array Bool} {i k : Nat} (hc : Closed md ops listed) (hw : waitsFor md ops k i = true) (hk : listed.getD k false = true ∨ k ∈ Region.ready md ops listed) : listed.getD i false = true := by
  unfold waitsFor at hw
  rcases ho : ops[k]? with _ | o
  · rw [ho] at hw; cases hw
  · rw [ho] at hw
    simp only [Array.any_eq_true] at hw
    obtain ⟨n, hn, hb⟩ := hw
    rw [Bool.and_eq_true] at hb
    have e : (o.after[n]).on = i := by simpa using hb.2
    rw [← e]
    rcases hk with hk | hk
    · exact hc k o ho hk _ (Array.getElem_mem hn) hb.1
    · obtain ⟨_, o', ho', hall⟩ := mem_ready.1 hk
      rw [ho] at ho'
      injection ho' with ho'
      subst ho'
      exact hall _ (Array.getElem_mem hn) hb.1
theorem by_listed {listed : Array Bool} {i : Nat} (hc : Closed md ops listed) : ∀ (path : List Nat) (k : Nat), waitsBy md ops k path i = true → (listed.getD k false = true ∨ k ∈ Region.ready md ops listed) → listed.getD i false = true := by
  intro path
  induction path with
  | nil => exact fun k hw hk => waits_listed hc hw hk
  | cons a ks ih =>
    intro k hw hk
    unfold waitsBy at hw
    rw [Bool.and_eq_true] at hw
    exact ih a hw.2 (.inl (waits_listed hc hw.1 hk))
theorem unlisted_of {listed : Array Bool} {i : Nat} (hi : i ∈ Region.ready md ops listed) : ¬ listed.getD i false = true := by
  intro h1
  have h0 := (mem_ready.1 hi).1
  rcases Nat.lt_or_ge i listed.size with hlt | hge
  · simp [hlt] at h0 h1
    rw [h0] at h1
    cases h1
  · simp [Array.getElem?_eq_none hge] at h1
theorem not_yet {path : List Nat} {i : Nat} {listed : Array Bool} (hc : Closed md ops listed) (hw : waitsBy md ops st path i = true) (hi : i ∈ Region.ready md ops listed) : ¬ st ∈ Region.ready md ops listed :=
  fun hs => unlisted_of hi (by_listed hc path st hw (.inr hs))
/-- what yields its value wherever S holds may be taken first, if 'st' waits for it -/
theorem till_first {path : List Nat} {i : Nat} {oi : Oper} {v : Value} (hi : ops[i]? = some oi) (hsel : ∀ (j : Nat) (o : Oper) cs b, ops[j]? = some o → o.op ≠ .select cs b)
    (hQ : ∀ c a w, Q (.panic c) (a.put oi.dst v) w → Q (.panic c) a w) (hw : waitsBy md ops st path i = true) (fuel : Nat) :
    ∀ (listed : Array Bool) (a : Act) (w : World), Closed md ops listed →
      (∀ j oj, ops[j]? = some oj → j ≠ i → listed.getD j true = false → (∀ e ∈ oj.after, Region.binds md e = true → e.on ≠ i) → oi.apart ops oj = true) →
      i ∈ Region.ready md ops listed → YieldsIf P ops S oi v a → S w →
      wpTill P md ops Q S st fuel (listed.setIfInBounds i true) (a.put oi.dst v) w → wpTill P md ops Q S st (fuel + 1) listed a w := by
  induction fuel with
  | zero =>
    intro listed a w hc hfree hr hy hS H
    refine ⟨fun h => absurd hr (by rw [h]; simp), fun j hj => ⟨fun e => absurd (e ▸ hj) (not_yet hc hw hr), fun _ => ?_⟩⟩
    by_cases hji : j = i
    · subst hji
      exact hy.wpOp hi hS ⟨hS, H⟩
    · have hm := ready_mono hj hji
      rw [H.1] at hm
      cases hm
  | succ fuel ih =>
    intro listed a w hc hfree hr hy hS H
    refine ⟨fun h => absurd hr (by rw [h]; simp), fun j hj => ⟨fun e => absurd (e ▸ hj) (not_yet hc hw hr), fun hjs => ?_⟩⟩
    by_cases hji : j = i
    · subst hji
      exact hy.wpOp hi hS ⟨hS, H⟩
    · obtain ⟨hun, oj, hoj, hall⟩ := mem_ready.1 hj
      have hno : ∀ e ∈ oj.after, Region.binds md e = true → e.on ≠ i := fun e he hb heq => unlisted_of hr (heq ▸ hall e he hb)
      have step := wpOp_putIf hoj (hfree j oj hoj hji hun hno) (fun cs b => hsel i oi cs b hi) (fun cs b => hsel j oj cs b hoj) hQ hy ((H.2 j (ready_mono hj hji)).2 hjs)
      refine wpOp_mono (fun a' w' h3 => ⟨h3.2.1, ih (listed.setIfInBounds j true) a' w' (closed_set hc hj) ?_ (ready_mono hr (Ne.symm hji)) h3.1 h3.2.1 ?_⟩) step
      · intro k ok hk hki hun2 hno2
        refine hfree k ok hk hki ?_ hno2
        by_cases hjk : j = k
        · subst hjk; exact hun
        · rw [getD_set_ne true hjk] at hun2; exact hun2
      · rw [Array.setIfInBounds_comm _ _ hji]
        exact h3.2.2
theorem till_take (path : List Nat) {i : Nat} {oi : Oper} {v : Value} {fuel : Nat} {listed : Array Bool} {a : Act} {w : World} (hi : ops[i]? = some oi)
    (hs : Region.noSelect ops = true) (hf : Region.free md ops listed i = true) (hr : (Region.ready md ops listed).contains i = true) (hw : waitsBy md ops st path i = true) (hc : closedB md ops listed = true)
    (hQ : ∀ c a w, Q (.panic c) (a.put oi.dst v) w → Q (.panic c) a w) (hy : YieldsIf P ops S oi v a) (hS : S w)
    (h : wpTill P md ops Q S st fuel (listed.setIfInBounds i true) (a.put oi.dst v) w) : wpTill P md ops Q S st (fuel + 1) listed a w :=
  till_first hi (Region.noSelect_spec hs) hQ hw fuel listed a w (closed_of hc) (Region.free_spec hi hf) (by simpa using hr) hy hS h
/-- each of 'rs' (none of them 'st') comes up next -/
def TillAll (P : Program) (md : Region.Mode) (ops : Array Oper) (Q : Exit → Act → World → Prop) (S : World → Prop) (st fuel : Nat) (listed : Array Bool) (a : Act) (w : World) (rs : List Nat) : Prop :=
  ∀ i ∈ rs, i ≠ st ∧ wpOp P ops Q i (fun a' w' => S w' ∧ wpTill P md ops Q S st fuel (listed.setIfInBounds i true) a' w') a w
theorem TillAll.nil {fuel : Nat} {listed : Array Bool} {a : Act} {w : World} : TillAll P md ops Q S st fuel listed a w [] := fun _ h => by cases h
theorem TillAll.cons {fuel : Nat} {listed : Array Bool} {a : Act} {w : World} {i : Nat} {o : Oper} {rs : List Nat} (hne : i ≠ st) (ho : ops[i]? = some o)
    (h : ∀ K' : Act → World → Prop, Shut (∀ a w, S w → wpTill P md ops Q S st fuel (listed.setIfInBounds i true) a w → K' a w) → if Region.wanted o (yielded ops a.tmps) = true then Oper.wp P o a w K' Q else K' (a.put o.dst undef) w)
    (hs : TillAll P md ops Q S st fuel listed a w rs) : TillAll P md ops Q S st fuel listed a w (i :: rs) := by
  intro j hj
  rcases List.mem_cons.1 hj with e | hj
  · subst e
    exact ⟨hne, wpOp_step ho (fun K' hK => h K' (fun a w h1 h2 => hK a w ⟨h1, h2⟩))⟩
  · exact hs j hj
theorem till_ready {rs : List Nat} {fuel : Nat} {listed : Array Bool} {a : Act} {w : World} (hr : Region.ready md ops listed = rs) (hne : rs ≠ [])
    (h : TillAll P md ops Q S st fuel listed a w rs) : wpTill P md ops Q S st (fuel + 1) listed a w :=
  ⟨fun h0 => absurd (hr ▸ h0) hne, fun i hi => ⟨fun e => absurd e (h i (hr ▸ hi)).1, fun _ => (h i (hr ▸ hi)).2⟩⟩
/-- 'st' comes up: from here on any order, plainly -/
theorem till_st {o : Oper} {fuel : Nat} {listed : Array Bool} {a : Act} {w : World} (hr : Region.ready md ops listed = [st]) (ho : ops[st]? = some o)
    (h : ∀ K' : Act → World → Prop, Shut (∀ a w, wpAny P md ops Q fuel (listed.setIfInBounds st true) a w → K' a w) → if Region.wanted o (yielded ops a.tmps) = true then Oper.wp P o a w K' Q else K' (a.put o.dst undef) w) :
    wpTill P md ops Q S st (fuel + 1) listed a w := by
  refine ⟨fun h0 => absurd (hr ▸ h0) (by simp), fun i hi => ?_⟩
  rw [hr] at hi
  have e : i = st := by simpa using hi
  subst e
  exact ⟨fun _ => wpOp_step ho (fun K' hK => h K' hK), fun hne => absurd rfl hne⟩
/-- the only one that may come up next, in plain any order -/
theorem any_one {i : Nat} {o : Oper} {fuel : Nat} {listed : Array Bool} {a : Act} {w : World} (hr : Region.ready md ops listed = [i]) (ho : ops[i]? = some o)
    (h : ∀ K' : Act → World → Prop, Shut (∀ a w, wpAny P md ops Q fuel (listed.setIfInBounds i true) a w → K' a w) → if Region.wanted o (yielded ops a.tmps) = true then Oper.wp P o a w K' Q else K' (a.put o.dst undef) w) :
    wpAny P md ops Q (fuel + 1) listed a w := by
  refine ⟨fun h0 => absurd (hr ▸ h0) (by simp), fun j hj => ?_⟩
  rw [hr] at hj
  have e : j = i := by simpa using hj
  subst e
  exact wpOp_step ho (fun K' hK => h K' hK)
/-- the beginning -/
theorem till_start (st : Nat) (S : World → Prop) {id : Nat} {a : Act} {w : World} (hm : P.follows .mixedOrders = true) (hS : S w.drew)
    (h : S w.drew → wpTill P .any ops Q S st ops.size (Array.replicate ops.size false) a w.drew) : (Code.region id ops true).wp P Q a w :=
  wp_region_any hm (till_sound _ _ _ _ (h hS))
end
end Go.Proofs.YthjjneanabnjoaaDoor
