/-
  BaHears, in plain Lean: frames by their numbers.
-/
import Derived.Test.YthjjneanabnjoaaDoorBaLaw
namespace Go.Proofs.YthjjneanabnjoaaDoor
open Go.ChangeShapes Go.WideShapes Go.ChangeAt Go.RowKit
set_option linter.unusedVariables false

theorem Bs.grownBy {w w' : World} {base B : Nat} {p : BP} {s : BS} (h : Bs w base B p s) {r : Option Nat} (hg : w.grownBy w' r) (hn : ∀ k, r = some k → ¬ bsS B p s k) : Bs w' base B p s :=
  h.touch (touch_of_grown (S := fun k => r = some k) hg (fun k hk => hk)) (fun k hk hr => hn k hr hk)
theorem Ss.grownBy {w w' : World} {base B : Nat} {p : BP} {s : BS} (h : Ss w base B p s) {r : Option Nat} (hg : w.grownBy w' r) (hn : ∀ k, r = some k → ¬ bsS B p s k) : Ss w' base B p s := ⟨h.bs.grownBy hg hn, h.hB, h.hW⟩
/-- a frame without its place -/
def cor (x : Fm) : Mp × Bool := (x.m, x.fl)
/-- frames 0 .. n-1, so often sent, till so long -/
def nM (sent unt : Int) (i : Nat) : Mp := ⟨(i : Int), 0, 0, 0, [], (i : Int), sent, unt⟩
def NL (l : List Fm) (n : Nat) (sent unt : Int) (fl : Bool) : Prop := l.map cor = (List.range n).map fun i => (nM sent unt i, fl)
section
variable {l : List Fm} {n : Nat} {sent unt : Int} {fl : Bool}
theorem NL.len (h : NL l n sent unt fl) : l.length = n := by have := congrArg List.length h; simpa using this
theorem NL.get (h : NL l n sent unt fl) {i : Nat} {x : Fm} (hx : l[i]? = some x) : x.m = nM sent unt i ∧ x.fl = fl ∧ i < n := by
  have hi : i < n := by rw [← h.len]; exact (List.getElem?_eq_some_iff.1 hx).1
  have e := congrArg (fun l => l[i]?) h
  simp only [List.getElem?_map, hx, List.getElem?_range hi, Option.map_some, Option.some.injEq, cor, Prod.mk.injEq] at e
  exact ⟨e.1, e.2, hi⟩
theorem NL.mem (h : NL l n sent unt fl) {x : Fm} (hx : x ∈ l) : ∃ i, i < n ∧ x.m = nM sent unt i ∧ x.fl = fl := by
  obtain ⟨i, hi, rfl⟩ := List.getElem_of_mem hx
  obtain ⟨h1, h2, h3⟩ := h.get (List.getElem?_eq_getElem hi)
  exact ⟨i, h3, h1, h2⟩
theorem NL.nil : NL [] 0 sent unt fl := rfl
theorem NL.snoc (h : NL l n sent unt fl) (A : Option Addr) (C : Nat) : NL (l ++ [⟨nM sent unt n, fl, A, C⟩]) (n + 1) sent unt fl := by
  unfold NL
  rw [List.map_append, h, List.range_succ, List.map_append]
  rfl
theorem NL.seqs (h : NL l n sent unt fl) : l.map (·.m.seq) = (List.range n).map Int.ofNat := by
  have e : l.map (·.m.seq) = (l.map cor).map (fun c => c.1.seq) := by rw [List.map_map]; rfl
  rw [e, h, List.map_map]
  rfl
theorem range_nodup (n : Nat) : ((List.range n).map Int.ofNat).Nodup := by
  rw [List.Nodup, List.pairwise_map]
  exact (List.nodup_range (n := n)).imp (fun h e => h (Int.ofNat.inj e))
theorem NL.body (h : NL l n sent unt fl) : ∀ x ∈ l, x.m.body.length ≤ 1048576 := by
  intro x hx
  obtain ⟨i, _, e, _⟩ := h.mem hx
  rw [e]; show (0 : Nat) ≤ 1048576; decide
theorem NL.any (h : NL l n sent unt fl) (hn : 0 < n) : l.any (·.fl) = fl := by
  cases fl
  · rw [List.any_eq_false]
    intro x hx
    obtain ⟨_, _, _, e⟩ := h.mem hx
    rw [e]; decide
  · rw [List.any_eq_true]
    obtain ⟨x, hx⟩ : ∃ x, l[0]? = some x := ⟨_, List.getElem?_eq_getElem (by rw [h.len]; exact hn)⟩
    exact ⟨x, List.mem_of_getElem? hx, (h.get hx).2.1⟩
theorem NL.fresh (h : NL l 0 sent unt fl) : l = [] := List.eq_nil_of_length_eq_zero h.len
/-- all of them go -/
theorem NL.goes (h : NL l n sent unt false) : ∀ (j : Nat) (y : Int), ((List.range n).map Int.ofNat)[j]? = some y → goes l ((List.range n).map Int.ofNat) j y = true := by
  intro j y hj
  have hjn : j < n := by have := (List.getElem?_eq_some_iff.1 hj).1; simpa using this
  have hy : y = (j : Int) := by
    rw [List.getElem?_map, List.getElem?_range hjn] at hj
    exact (Option.some.inj hj).symm
  subst hy
  unfold Go.Proofs.YthjjneanabnjoaaDoor.goes
  have h1 : (((List.range n).map Int.ofNat).take j).contains (j : Int) = false := by
    rw [← Bool.not_eq_true, List.contains_iff_mem]
    intro hm
    obtain ⟨i, hi, e⟩ := List.getElem_of_mem hm
    rw [List.getElem_take, List.getElem_map, List.getElem_range] at e
    have e' : i = j := Int.ofNat.inj e
    rw [List.length_take] at hi
    omega
  have h2 : l.any (dueN (j : Int)) = true := by
    rw [List.any_eq_true]
    obtain ⟨x, hx⟩ : ∃ x, l[j]? = some x := ⟨_, List.getElem?_eq_getElem (by rw [h.len]; exact hjn)⟩
    obtain ⟨e1, e2, _⟩ := h.get hx
    refine ⟨x, List.mem_of_getElem? hx, ?_⟩
    unfold dueN
    rw [e1, e2]
    simp [nM]
  rw [h1, h2]; rfl
theorem NL.went (h : NL l n sent unt false) : NL (l.map (went1 ((List.range n).map Int.ofNat))) n (sent + 1) unt true := by
  unfold NL
  apply List.ext_getElem?
  intro i
  rw [List.map_map, List.getElem?_map, List.getElem?_map]
  rcases Nat.lt_or_ge i n with hi | hi
  · obtain ⟨x, hx⟩ : ∃ x, l[i]? = some x := ⟨_, List.getElem?_eq_getElem (by rw [h.len]; exact hi)⟩
    obtain ⟨e1, e2, _⟩ := h.get hx
    rw [hx, List.getElem?_range hi]
    simp only [Option.map_some, Function.comp]
    have hc : ((List.range n).map Int.ofNat).contains x.m.seq = true := by
      rw [List.contains_iff_mem, e1]
      exact List.mem_map.2 ⟨i, List.mem_range.2 hi, rfl⟩
    rw [went1_yes hc]
    show some (_, _) = some (_, _)
    rw [e1]
    rfl
  · rw [List.getElem?_eq_none (by rw [h.len]; exact hi), List.getElem?_eq_none (by simpa using hi)]
    rfl
theorem NL.land (h : NL l n sent unt fl) : NL (l.map land1) n sent unt false := by
  unfold NL
  have e : (l.map land1).map cor = (l.map cor).map (fun c => (c.1, false)) := by rw [List.map_map, List.map_map]; rfl
  rw [e, h, List.map_map]
  rfl
end
/-- a session of numbers 0 .. n-1 -/
def nS (size : Nat) (retry life token : Int) (n : Nat) (l : List Fm) : BS := ⟨⟨0, (n : Int), (size : Int), (List.range n).map Int.ofNat⟩, (size : Int), retry, life, 3, token, l, false, 0⟩
theorem nS_room {size : Nat} {retry life token : Int} {n : Nat} {l : List Fm} (hn : n ≤ 64) : room (nS size retry life token n l).w = max ((size : Int) - (n : Int)) 0 := by
  unfold room
  show max ((size : Int) - ((n : Int) - 0) % 4096) 0 = _
  congr 2
  omega
theorem nS_fresh {size : Nat} {retry life token : Int} {n : Nat} {l : List Fm} (hn : n ≤ 64) (A : Option Addr) (C : Nat) (now : Int) : freshS (nS size retry life token n l) (pk (n : Int)) now A C = nS size retry life token (n + 1) (l ++ [⟨nM 0 (now + life) n, false, A, C⟩]) := by
  unfold freshS nS
  congr 1
  show nextS _ = _
  unfold nextS
  show WS.mk 0 (((n : Int) + 1) % 4096) (size : Int) _ = _
  congr 1
  · omega
  · rw [List.range_succ, List.map_append]; rfl
theorem nS_head (size : Nat) (retry life token : Int) (n : Nat) (l : List Fm) : (nS size retry life token n l).w.st = (nS size retry life token n l).w.o.headD (nS size retry life token n l).w.nx := by
  show (0 : Int) = ((List.range n).map Int.ofNat).headD (n : Int)
  cases n with
  | zero => rfl
  | succ n => rw [List.range_succ_eq_map]; rfl
theorem nS_start (size : Nat) (retry life token : Int) : onS (askS (newS (size : Int) retry life) token) 0 = nS size retry life token 0 [] := by
  unfold onS ansN
  rw [if_neg (by decide)]
  rfl
end Go.Proofs.YthjjneanabnjoaaDoor
