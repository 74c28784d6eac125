/-
  Laid  Zeros  Ints  AmpduPlain  Join  QosBase.
-/
import Derived.Test.YtoagmehgiaamlaaDoorMa
import Derived.LaidLaws
import Derived.LaidHandle
import Derived.MakeChecks
import Derived.Stop.ErrReads
import Derived.Stop.Joined
import Derived.Deep.DeepHandedRow
import Derived.Deep.DeepWitnessRowRef
import Derived.Lib.AppendZeros
namespace Go.Proofs.YtoagmehgiaamlaaDoor
open Go.ChangeShapes Go.WideShapes Go.ChangeAt Go.RowKit
set_option linter.unusedVariables false

theorem err_name (u : TypeId) (h : Tryd.prog.typeName? 3 u = some "*errors.errorString") : u = 122 := by
  have e : "*" ++ "errors.errorString" = "*errors.errorString" := by decide
  exact typeName_ptr_named (nm := "errors.errorString") (by rw [e]; kernel_rfl) (by kernel_rfl) (by decide) u (by rw [e]; exact h)
theorem err_cells : Tryd.prog.cellsOf 140 = 1 := by kernel_rfl
theorem str_cells : Tryd.prog.cellsOf 9 = 1 := by kernel_rfl

set_option maxRecDepth 100000 in
/-- the first of the list -/
theorem laid_first {n : String} {text : List UInt8} {r : List (String × DataW Unit)} {W : World} {g : Nat}
    (h : laidMet Tryd.prog ((n, .iface "*errors.errorString" (.ptr (.agg [.lit (.string text)]))) :: r) W)
    (hg : Tryd.prog.globalNamed n = some g) (ht : (Tryd.prog.globals[g]?).map (·.type) = some 42) :
    ∃ (a : Addr) (s : ByteArray), W.cell? ⟨g, 0, none⟩ = some (.iface 122 (.pointer (some a))) ∧ W.cell? a = some (.string s) ∧ s.data.toList = text ∧ ∃ c t, W.heap[a.block]? = some (.cells c t (0, 0)) := by
  obtain ⟨ps, ⟨g0, t0, cs0, f0, p0, q0, hg0, ht0, hv0, hd0, hq, e0⟩, _, hrows⟩ := h
  obtain rfl := Option.some.inj (hg.symm.trans hg0)
  obtain rfl := Option.some.inj (ht.symm.trans ht0)
  subst e0
  obtain ⟨l0⟩ := cs0
  have ok0 : ∀ u v, l0 = [.iface u v] → Value.okWide Tryd.prog W .any 0 u v := fun u v e => by
    subst e
    exact (hrows g 0 (by simp [MemPlace.row])).2 u v (by simpa using World.var?_cell hg0 hv0 0)
  obtain ⟨a0, s0, rfl, hc0, hs0, hz0, hp0⟩ := errorString_of_trod Tryd.underlying42 err_name Tryd.underlying122 Tryd.underlying140 rfl rfl Tryd.underlying9 err_cells str_cells hd0 ok0
  refine ⟨a0, s0, by simpa using World.var?_cell hg0 hv0 0, hc0, hs0, ?_⟩
  subst hp0
  exact (hrows a0.block a0.off (by simp [MemPlace.row])).1

def errName (i : Nat) : String := ["muezzin/api.ErrEnd", "muezzin/api.ErrShape", "muezzin/api.ErrRange", "muezzin/api.ErrMany", "muezzin/api.ErrKind", "muezzin/api.ErrSum", "muezzin/api.ErrNone", "muezzin/api.ErrTwice",
  "muezzin/api.ErrFull", "muezzin/api.ErrState", "muezzin/api.ErrSeq", "muezzin/api.ErrLong", "muezzin/api.ErrWord", "muezzin/api.ErrNumber"].getD i ""
theorem errName_global : ∀ i, i ∈ allErr → Tryd.prog.globalNamed (errName i) = some (errG i) ∧ (Tryd.prog.globals[errG i]?).map (·.type) = some 42 := by
  intro i hi
  simp only [allErr, List.mem_cons, List.not_mem_nil, or_false] at hi
  rcases hi with rfl | rfl | rfl | rfl | rfl | rfl | rfl | rfl | rfl | rfl | rfl | rfl | rfl | rfl <;> exact ⟨by kernel_rfl, by kernel_rfl⟩

/-- what a list of errors, each with its text, gives -/
theorem laid_each {text : Nat → List UInt8} {W : World} : ∀ (L : List Nat), (∀ i, i ∈ L → i ∈ allErr) →
    laidMet Tryd.prog (L.map fun i => (errName i, .iface "*errors.errorString" (.ptr (.agg [.lit (.string (text i))])))) W →
    ∀ i, i ∈ L → ∃ (a : Addr) (s : ByteArray), W.cell? ⟨errG i, 0, none⟩ = some (.iface 122 (.pointer (some a))) ∧ W.cell? a = some (.string s) ∧ s.data.toList = text i ∧ ∃ c t, W.heap[a.block]? = some (.cells c t (0, 0)) := by
  intro L
  induction L with
  | nil => intro _ _ i hi; cases hi
  | cons j L ih =>
    intro hL h i hi
    obtain ⟨hg, ht⟩ := errName_global j (hL j (List.mem_cons_self ..))
    have h1 := laid_first h hg ht
    rcases List.mem_cons.1 hi with rfl | hi
    · exact h1
    · refine ih (fun i hi => hL i (List.mem_cons_of_mem _ hi)) ?_ i hi
      obtain ⟨ps, hv, hnd, hrows⟩ := h
      obtain ⟨g, t, cs, fuel, p, q, _, _, _, _, hq, rfl⟩ := hv
      exact ⟨q, hq, List.Nodup.sublist (List.sublist_append_right _ _) hnd, fun b off hm => hrows b off (List.mem_append_right _ hm)⟩

/-- THE LIST GIVES THE ERRORS -/
theorem errs_of_laid {text : Nat → List UInt8} {W : World} (L : List Nat) (hL : ∀ i, i ∈ L → i ∈ allErr) (hinj : ∀ i, i ∈ L → ∀ j, j ∈ L → text i = text j → i = j)
    (h : laidMet Tryd.prog (L.map fun i => (errName i, .iface "*errors.errorString" (.ptr (.agg [.lit (.string (text i))])))) W) : ∃ E, Errs L W E := by
  have h1 := laid_each L hL h
  have h2 : ∀ i, ∃ a : Addr, i ∈ L → ∃ s : ByteArray, W.cell? ⟨errG i, 0, none⟩ = some (.iface 122 (.pointer (some a))) ∧ W.cell? a = some (.string s) ∧ s.data.toList = text i ∧ ∃ c t, W.heap[a.block]? = some (.cells c t (0, 0)) := by
    intro i
    by_cases hi : i ∈ L
    · obtain ⟨a, ha⟩ := h1 i hi
      exact ⟨a, fun _ => ha⟩
    · exact ⟨default, fun h => absurd h hi⟩
  refine ⟨fun i => (h2 i).choose, fun i hi => ?_, fun i hi => ?_, fun i hi j hj hij e => ?_⟩
  · obtain ⟨s, h3, _⟩ := (h2 i).choose_spec hi
    exact h3
  · obtain ⟨s, _, _, _, h3⟩ := (h2 i).choose_spec hi
    exact h3
  · obtain ⟨s, _, h3, h4, _⟩ := (h2 i).choose_spec hi
    obtain ⟨s', _, h3', h4', _⟩ := (h2 j).choose_spec hj
    apply hij
    apply hinj i hi j hj
    have e' : (h2 i).choose = (h2 j).choose := e
    rw [e', h3'] at h3
    injection h3 with h3
    injection h3 with h3
    rw [← h4, ← h4', h3]

/-- the texts, out of a row's list -/
def textOf (l : List (String × DataW Unit)) (i : Nat) : List UInt8 :=
  match (l.find? fun x => x.1 == errName i) with
  | some (_, .iface _ (.ptr (.agg [.lit (.string t)]))) => t
  | _ => []

noncomputable def low : Nat := (World.holding Tryd.prog default ⟨#[], #[], []⟩).heap.size
/-- a world that meets the condition: each error points to a text of its own -/
noncomputable def laidWorld (l : List (String × DataW Unit)) (os : Os) : World :=
  let w0 := World.holding Tryd.prog os ⟨(allErr.map fun i => Obj.cells #[.string ⟨(textOf l i).toArray⟩] 140).toArray, #[], []⟩
  { w0 with heap := allErr.foldl (fun h i => h.modify (errG i) fun
      | .cells _ t frozen => .cells #[.iface 122 (.pointer (some ⟨low + i, 0, none⟩))] t frozen
      | o => o) w0.heap }
end Go.Proofs.YtoagmehgiaamlaaDoor

namespace Go.Proofs.YtoagmehgiaamlaaDoor
open Go.ChangeShapes Go.WideShapes Go.ChangeAt Go.RowKit
set_option linter.unusedVariables false

theorem zeros_eq (m : Nat) : (Builtin.zeroCells (Value.int .u8 0).cells m) = ((List.replicate m (0 : UInt8)).map u8v).toArray := by
  apply Array.ext
  · simp [size_zeroCells, Value.cells]
  · intro k h1 h2
    simp [Builtin.zeroCells, u8v, Value.cells, Nat.mod_one]

theorem run_zeros_room {P : Program} (w : World) (t tn ty e : TypeId) (i : TypeInfo) (k kn : IntKind) (ht : P.underlying t = some (.slice e)) (htn : P.underlying tn = some (.int kn)) (hi : P.info? e = some i) (hz : i.zero = some (.int .u8 0))
    (hs1 : i.size = 1) (hb1 : i.bytes = 1)
    (g sLen sCap : Nat) (cur : Array Value) (hg : w.heap[g]? = some (.cells cur e (0, 0))) (m : Nat) (hm : 0 < m) (hm2 : m ≤ 1048576) (hroom : sLen + m ≤ sCap) (hfit : sLen + m ≤ cur.size) :
    (Builtin.append_ #[t, tn] ty #[.slice (some ⟨g, 0, none⟩) sLen sCap, .int k m]).run P w =
      .ok (.slice (some ⟨g, 0, none⟩) (sLen + m) sCap) (w.setRow g (cur.toList.take sLen ++ (List.replicate m (0 : UInt8)).map u8v ++ cur.toList.drop (sLen + m)).toArray) := by
  have hst := run_storeCells_at P g sLen e ((List.replicate m (0 : UInt8)).map u8v) 0 cur w hg (by simpa using hfit) (by simp [u8v, Value.oneCell'])
  simp only [Nat.add_zero] at hst
  have hw : IntKind.i64.wrap (m : Int) = m := by rw [IntKind.wrap_i64]; omega
  have h48i : ¬ (281474976710656 < (m : Int)) := by omega
  have hneg : ¬ ((m : Int) < 0) := by omega
  have hm0 : m ≠ 0 := by omega
  simp [Builtin.append_, run_underlying ht, run_underlying htn, sizeOf, typeInfo, zeroValue, hi, hz, hs1, hb1, asInt, asIntOf, hw, hneg, hm0, h48i, hroom, zeros_eq, Addr.add_lit] at hst ⊢
  rw [hst]
  simp

theorem run_zeros_grow {P : Program} (w : World) (t tn ty e : TypeId) (i : TypeInfo) (k kn : IntKind) (ht : P.underlying t = some (.slice e)) (htn : P.underlying tn = some (.int kn)) (hi : P.info? e = some i) (hz : i.zero = some (.int .u8 0))
    (hs1 : i.size = 1) (hb1 : i.bytes = 1) (b : Addr) (sLen sCap : Nat) (olds : List Value) (hlo : olds.length = sLen) (holds : ∀ j v, olds[j]? = some v → w.cell? (b.add j) = some v)
    (m : Nat) (hm : 0 < m) (hm2 : m ≤ 1048576) (hg : sCap < sLen + m) (hn : sLen ≤ 1048576) :
    (Builtin.append_ #[t, tn] ty #[.slice (some b) sLen sCap, .int k m]).run P w =
      .ok (.slice (some ⟨w.heap.size, 0, none⟩) (sLen + m) (grownCap w (sLen + m) sCap e))
        (w.drew.alloc (.cells (olds.toArray ++ ((List.replicate m (0 : UInt8)).map u8v).toArray ++ Builtin.zeroCells (Value.int .u8 0).cells (grownCap w (sLen + m) sCap e - (sLen + m))) e)) := by
  have hno : ¬ (sLen + m ≤ sCap) := by omega
  have h63' : ¬ (9223372036854775807 < ((sLen : Int) + (m : Int))) := by omega
  have h48' : ¬ (281474976710656 < Builtin.nextslicecap (sLen + m) sCap) := by
    have := growslice_fits (need := sLen + m) (old := sCap) (bytes := 1) (by omega) (by omega)
    omega
  have hfo := run_firstCells_some (P := P) w.drew 1 sLen b sLen sCap olds (by omega) (by simpa using holds)
  have hw : IntKind.i64.wrap (m : Int) = m := by rw [IntKind.wrap_i64]; omega
  have h48i : ¬ (281474976710656 < (m : Int)) := by omega
  have hneg : ¬ ((m : Int) < 0) := by omega
  have hm0 : m ≠ 0 := by omega
  simp [Builtin.append_, run_underlying ht, run_underlying htn, sizeOf, typeInfo, zeroValue, hi, hz, hs1, hb1, asInt, asIntOf, hw, hneg, hm0, h48i, hno, h63', h48', Question.forced, hfo, zeros_eq, newRow, grownCap]

theorem run_zeros_own (w : World) (ty : TypeId) (base : Nat) (A : Option Addr) (n C : Nat) (xs : List UInt8) (hown : OwnU8 w base A n C xs) (k : IntKind) (m : Nat) (hm : 0 < m) (hm2 : m ≤ 1048576) (hn0 : 0 < n) (hn : n ≤ 1048576) (hbase : base ≤ w.heap.size) :
    ∃ A2 C2 w', (Builtin.append_ #[22, 3] ty #[.slice A n C, .int k m]).run Tryd.prog w = .ok (.slice A2 (n + m) C2) w' ∧ OwnU8 w' base A2 (n + m) C2 (xs ++ List.replicate m 0) ∧ w.grownBy w' (blk A) ∧ (blk A2 = blk A ∨ blk A2 = some w.heap.size) := by
  obtain ⟨i, hi, hz, hsz, hby⟩ := info_parts info_u8
  have hlx := hown.len
  have hlen : ((xs ++ List.replicate m 0).map u8v).length = n + m := by simp [hlx]
  unfold OwnU8 at hown ⊢
  rcases hown.2 with ⟨hv, rfl⟩ | ⟨g, cap, cur, hv, hbg, hg, hnc, hcm, hcs, htake⟩
  · omega
  · injection hv with e1 e2 e3
    subst e1 e3
    have hcs : cur.size = C := by omega
    by_cases hroom : n + m ≤ C
    · have hr := run_zeros_room (P := Tryd.prog) w 22 3 ty 5 i k _ Tryd.underlying22 Tryd.underlying3 hi hz hsz hby g n C cur hg m hm hm2 hroom (by omega)
      refine ⟨_, _, _, hr, ⟨by rw [hlen, Nat.mul_one], .inr ⟨g, C, _, rfl, hbg, setRow_heap w g cur _ _ _ hg, hroom, hcm, ?_, ?_⟩⟩, ⟨rfl, rfl, rfl, by simp, fun k _ hk => setRow_other w g k _ (fun e => hk (by simp [blk, e]))⟩, Or.inl rfl⟩
      · simp
        omega
      · simp only [Nat.mul_one] at htake ⊢
        rw [htake, ← hlen, List.map_append]
        exact List.take_left
    · have holds : ∀ j u, (xs.map u8v)[j]? = some u → w.cell? ((⟨g, 0, none⟩ : Addr).add j) = some u := hown.cells (g := g) rfl
      have hr := run_zeros_grow (P := Tryd.prog) w 22 3 ty 5 i k _ Tryd.underlying22 Tryd.underlying3 hi hz hsz hby ⟨g, 0, none⟩ n C (xs.map u8v) (by simp [hlx]) holds m hm hm2 (by omega) hn
      have hge := grownCap_ge w (n + m) C 5
      have hcm' : grownCap w (n + m) C 5 ≤ maxLen := grownCap_le_maxLen w (n + m) C 5 (by unfold maxLen; omega)
      refine ⟨_, _, _, hr, ⟨by rw [hlen, Nat.mul_one], .inr ⟨w.heap.size, _, _, rfl, hbase, heap_alloc_new w.drew _, hge, hcm', ?_, ?_⟩⟩, ⟨rfl, rfl, rfl, by simp, fun k hk _ => heap_alloc_old w.drew _ hk⟩, Or.inr rfl⟩
      · simp [size_zeroCells, Value.cells, hlx]
        omega
      · simp only [Array.toList_append, Nat.mul_one, ← hlen, List.map_append]
        exact List.take_left

theorem step_zeros_u8 (w : World) {ops : Array Oper} {o : Oper} {a : Act} {K : Act → World → Prop} {Q : Exit → Act → World → Prop} {E : Prop} (hgd : Region.wanted o (yielded ops a.tmps) = true) (s x : Operand)
    (ho : o.op = .call { callee := .builtin .append, args := #[s, x], argTypes := #[22, 3] })
    (base : Nat) (A : Option Addr) (n C : Nat) (xs : List UInt8) (hs : a.eval s = .slice A n C) (hown : OwnU8 w base A n C xs)
    (k : IntKind) (m : Nat) (hx : a.eval x = .int k m) (hm : 0 < m) (hm2 : m ≤ 1048576) (hn0 : 0 < n) (hn : n ≤ 1048576) (hbase : base ≤ w.heap.size)
    (h : ∀ A2 C2 w', OwnU8 w' base A2 (n + m) C2 (xs ++ List.replicate m 0) → w.grownBy w' (blk A) → (blk A2 = blk A ∨ blk A2 = some w.heap.size) → K (a.put o.dst (.slice A2 (n + m) C2)) w') :
    if Region.wanted o (yielded ops a.tmps) = true then Oper.wp Tryd.prog o a w K Q else E := by
  rw [if_pos hgd]
  obtain ⟨A2, C2, w', hr, h1, h2, h3⟩ := run_zeros_own w o.type base A n C xs hown k m hm hm2 hn0 hn hbase
  exact Lib.wp_append_run w s x _ _ ho _ _ hs hx _ _ hr (h A2 C2 w' h1 h2 h3)

theorem list_zeros_u8 (w : World) {ops : Array Oper} {rest : List Oper} {o : Oper} {a : Act} {Q : Exit → Act → World → Prop} (hgd : Region.wanted o (yielded ops a.tmps) = true) (s x : Operand)
    (ho : o.op = .call { callee := .builtin .append, args := #[s, x], argTypes := #[22, 3] })
    (base : Nat) (A : Option Addr) (n C : Nat) (xs : List UInt8) (hs : a.eval s = .slice A n C) (hown : OwnU8 w base A n C xs)
    (k : IntKind) (m : Nat) (hx : a.eval x = .int k m) (hm : 0 < m) (hm2 : m ≤ 1048576) (hn0 : 0 < n) (hn : n ≤ 1048576) (hbase : base ≤ w.heap.size)
    (h : ∀ A2 C2 w', OwnU8 w' base A2 (n + m) C2 (xs ++ List.replicate m 0) → w.grownBy w' (blk A) → (blk A2 = blk A ∨ blk A2 = some w.heap.size) → wpList Tryd.prog ops Q rest (a.put o.dst (.slice A2 (n + m) C2)) w') :
    wpList Tryd.prog ops Q (o :: rest) a w := by
  refine wpList_step fun K hK => ?_
  exact step_zeros_u8 w hgd s x ho base A n C xs hs hown k m hx hm hm2 hn0 hn hbase fun A2 C2 w' h1 h2 h3 => hK _ _ (h A2 C2 w' h1 h2 h3)
end Go.Proofs.YtoagmehgiaamlaaDoor

namespace Go.Proofs.YtoagmehgiaamlaaDoor
open Go.ChangeShapes Go.WideShapes Go.ChangeAt Go.RowKit
set_option linter.unusedVariables false

theorem info_int : (Tryd.prog.info? 3).map (fun i => (i.zero, i.size, i.bytes)) = some (some (.int .i64 0), 1, 8) := by kernel_rfl

/-- a slice of ints of the call's own -/
def OwnI (w : World) (base : Nat) (A : Option Addr) (n C : Nat) (xs : List Int) : Prop := w.ownsRow base 3 1 (.slice A n C) n (xs.map (Value.int .i64))
section
variable {w w' : World} {base n C : Nat} {A : Option Addr} {xs : List Int}
theorem OwnI.row (h : OwnI w base A n C xs) : Row w 1 A n C (xs.map (Value.int .i64)) := row_of_own h
theorem OwnI.alloc (h : OwnI w base A n C xs) (o : Obj) : OwnI (w.alloc o) base A n C xs := World.ownsRow.alloc h o
theorem OwnI.len (h : OwnI w base A n C xs) : xs.length = n := by have := h.1; simpa using this
theorem OwnI.below {B : Nat} (h : OwnI w base A n C xs) (hb : Below B w w') (hB : w.heap.size ≤ B) : OwnI w' base A n C xs := own_below h hb hB
theorem OwnI.touch {S : Nat → Prop} (h : OwnI w base A n C xs) (ht : Touch S w w') (hA : ∀ k, blk A = some k → ¬ S k) : OwnI w' base A n C xs := own_touch h ht hA
theorem OwnI.far (h : OwnI w base A n C xs) (p : Addr) (hp : some p.block ≠ blk A) (u : Value) : OwnI (w.setCell p u) base A n C xs := own_far h p hp u
theorem OwnI.base_le {b' : Nat} (h : OwnI w base A n C xs) (hb : b' ≤ base) : OwnI w b' A n C xs := by
  refine ⟨h.1, ?_⟩
  rcases h.2 with h2 | ⟨g, cap, cur, hv, hg, r⟩
  · exact .inl h2
  · exact .inr ⟨g, cap, cur, hv, by omega, r⟩
theorem OwnI.ge (h : OwnI w base A n C xs) : ∀ b, blk A = some b → base ≤ b ∧ b < w.heap.size := own_ge h
theorem ownI_nil (w : World) (base : Nat) : OwnI w base none 0 0 [] := World.ownsRow_nil w base _ 1
theorem OwnI.open_ (h : OwnI w base A n C xs) (hn : 0 < n) :
    ∃ g, A = some ⟨g, 0, none⟩ ∧ base ≤ g ∧ g < w.heap.size ∧ n ≤ C ∧ (∀ k z, xs[k]? = some z → w.cell? ⟨g, k, none⟩ = some (.int .i64 z)) ∧
      (∀ k, w.frozen? ⟨g, k, none⟩ = false) ∧ ∀ k (z : Int), OwnI (w.setCell ⟨g, k, none⟩ (.int .i64 z)) base A n C (xs.set k z) := by
  obtain ⟨g, h1, h2, h3, h4, h5, h6, h7⟩ := own_open h hn
  refine ⟨g, h1, h2, h3, h4, fun k z hz => h5 k _ (by rw [List.getElem?_map, hz]; rfl), h6, fun k z => ?_⟩
  have := h7 k (.int .i64 z)
  unfold OwnI
  rw [List.map_set]
  exact this
end
theorem ownI_made (w : World) : OwnI (w.alloc (.cells #[] 3)) w.heap.size (some ⟨w.heap.size, 0, none⟩) 0 0 [] :=
  World.ownsRow_made w #[] 0 (Nat.le_refl _) (by simp [maxLen]) (by simp)
/-- what a function hands back that makes a slice of ints of its own -/
def GivesI (w : World) (xs : List Int) (e : Ending) (w' : World) : Prop :=
  ∃ A n C, e = .returned (.slice A n C) ∧ OwnI w' w.heap.size A n C xs ∧ Below w.heap.size w w'

theorem wp_append_int (w : World) {o : Oper} {a : Act} {K : Act → World → Prop} {Q : Exit → Act → World → Prop} (s x : Operand)
    (ho : o.op = .call { callee := .builtin .append, args := #[s, x], argTypes := #[36, 36] })
    (base : Nat) (A : Option Addr) (n C : Nat) (xs : List Int) (hs : a.eval s = .slice A n C) (hown : OwnI w base A n C xs)
    (A' : Option Addr) (m c : Nat) (ys : List Int) (hx : a.eval x = .slice A' m c) (hr : Row w 1 A' m c (ys.map (Value.int .i64)))
    (hsmall : n + m ≤ 1000000000) (hbase : base ≤ w.heap.size)
    (h : ∀ A2 C2 w', OwnI w' base A2 (n + m) C2 (xs ++ ys) → w.grownBy w' (blk A) → (blk A2 = blk A ∨ blk A2 = some w.heap.size) → K (a.put o.dst (.slice A2 (n + m) C2)) w') : o.wp Tryd.prog a w K Q := by
  obtain ⟨i, hi, hz, hsz, hby⟩ := info_parts info_int
  refine wp_append_row w s x _ ho base _ i _ 1 8 Tryd.underlying36 hi hz hsz hby rfl (by decide) A n C _ hs hown A' m c _ hx hr ?_ (by unfold maxLen; omega) (by omega) hbase ?_
  · intro u hu
    obtain ⟨b, _, rfl⟩ := List.mem_map.1 hu
    rfl
  · intro A2 C2 w' h1 h2 h3 _
    refine h A2 C2 w' ?_ h2 h3
    unfold OwnI
    rw [List.map_append]
    exact h1
theorem append_int (w : World) {ops : Array Oper} {rest : List Oper} {o : Oper} {a : Act} {Q : Exit → Act → World → Prop} (hgd : Region.wanted o (yielded ops a.tmps) = true) (s x : Operand)
    (ho : o.op = .call { callee := .builtin .append, args := #[s, x], argTypes := #[36, 36] })
    (base : Nat) (A : Option Addr) (n C : Nat) (xs : List Int) (hs : a.eval s = .slice A n C) (hown : OwnI w base A n C xs)
    (A' : Option Addr) (m c : Nat) (ys : List Int) (hx : a.eval x = .slice A' m c) (hr : Row w 1 A' m c (ys.map (Value.int .i64)))
    (hsmall : n + m ≤ 1000000000) (hbase : base ≤ w.heap.size)
    (h : ∀ A2 C2 w', OwnI w' base A2 (n + m) C2 (xs ++ ys) → w.grownBy w' (blk A) → (blk A2 = blk A ∨ blk A2 = some w.heap.size) → wpList Tryd.prog ops Q rest (a.put o.dst (.slice A2 (n + m) C2)) w') :
    wpList Tryd.prog ops Q (o :: rest) a w := by
  refine wpList_step fun K hK => ?_
  rw [if_pos hgd]
  exact wp_append_int w s x ho base A n C xs hs hown A' m c ys hx hr hsmall hbase fun A2 C2 w' r1 r2 r3 => hK _ _ (h A2 C2 w' r1 r2 r3)

theorem row_int1 (w : World) (z : Int) (e : TypeId) : Row (w.alloc (.cells #[.int .i64 z] e)) 1 (some ⟨w.heap.size, 0, none⟩) 1 1 ([z].map (Value.int .i64)) := row_one w _ e
theorem row_int1' (w : World) (z : Int) (e : TypeId) (k : Nat) (hk : k = w.heap.size) : Row (w.alloc (.cells #[.int .i64 z] e)) 1 (some ⟨k, 0, none⟩) 1 1 ([z].map (Value.int .i64)) := by subst hk; exact row_one w _ e
end Go.Proofs.YtoagmehgiaamlaaDoor

namespace Go.Proofs.YtoagmehgiaamlaaDoor
open Go.ChangeShapes Go.WideShapes Go.ChangeAt Go.RowKit
set_option linter.unusedVariables false

def up4 (n : Nat) : Nat := (n + 3) / 4 * 4
def hdB (n : Nat) : List UInt8 := [UInt8.ofNat (n * 16), UInt8.ofNat (n * 16 / 256)]
/-- a delimiter -/
def delim (n : Nat) : List UInt8 := Crc.sealed (hdB n) ++ [78]
def pad4 (n : Nat) : List UInt8 := List.replicate (up4 n - n) 0
def packF (out x : List UInt8) : List UInt8 := out ++ pad4 out.length ++ delim x.length ++ x
def packP (L : List (List UInt8)) : List UInt8 := L.foldl packF []
def enc (x : List UInt8) : List UInt8 := delim x.length ++ x
def encp (x : List UInt8) : List UInt8 := enc x ++ pad4 x.length
theorem delim_len (n : Nat) : (delim n).length = 4 := by simp [delim, hdB, Crc.sealed]
theorem enc_len (x : List UInt8) : (enc x).length = 4 + x.length := by simp [enc, delim_len]
theorem pad4_len (n : Nat) : (pad4 n).length = up4 n - n := by simp [pad4]
theorem up4_le (n : Nat) : n ≤ up4 n := by unfold up4; omega
theorem encp_len (x : List UInt8) : (encp x).length = 4 + up4 x.length := by
  rw [encp, List.length_append, enc_len, pad4_len]; have := up4_le x.length; omega
theorem flat_mod (L : List (List UInt8)) : (L.flatMap encp).length % 4 = 0 := by
  induction L with
  | nil => rfl
  | cons x L ih => rw [List.flatMap_cons, List.length_append, encp_len]; unfold up4; omega
theorem pack_snoc (L : List (List UInt8)) (x : List UInt8) : packP (L ++ [x]) = packP L ++ pad4 (packP L).length ++ delim x.length ++ x := by simp [packP, packF]
theorem pad_mod {m n : Nat} (h : m % 4 = 0) : pad4 (m + n) = pad4 n := by unfold pad4 up4; congr 1; omega
theorem snoc_ind {α : Type} {P : List α → Prop} (h0 : P []) (h : ∀ L x, P L → P (L ++ [x])) (L : List α) : P L := by
  have key : ∀ R : List α, P R.reverse := by
    intro R
    induction R with
    | nil => exact h0
    | cons x R ih => rw [List.reverse_cons]; exact h _ _ ih
  have := key L.reverse
  rwa [List.reverse_reverse] at this
theorem snoc_or {α : Type} (L : List α) : L = [] ∨ ∃ M x, L = M ++ [x] := snoc_ind (P := fun L => L = [] ∨ ∃ M x, L = M ++ [x]) (Or.inl rfl) (fun L x _ => Or.inr ⟨L, x, rfl⟩) L
theorem pack_flat (L : List (List UInt8)) : packP L ++ pad4 (packP L).length = L.flatMap encp := by
  refine snoc_ind (P := fun L => packP L ++ pad4 (packP L).length = L.flatMap encp) rfl (fun L x ih => ?_) L
  · show _ = _
    rw [pack_snoc, List.flatMap_append, List.flatMap_cons, List.flatMap_nil, List.append_nil, encp, enc, ih]
    have e : (L.flatMap encp ++ delim x.length ++ x).length = ((L.flatMap encp).length + 4) + x.length := by
      simp only [List.length_append, delim_len]
    rw [e, pad_mod (by have := flat_mod L; omega)]
    simp only [List.append_assoc]
theorem pack_last (L : List (List UInt8)) (x : List UInt8) : packP (L ++ [x]) = L.flatMap encp ++ enc x := by
  rw [pack_snoc, pack_flat, enc, List.append_assoc]

def numB (b : List UInt8) : Nat := (b.getD 0 0).toNat + 256 * (b.getD 1 0).toNat
/-- the frame that bytes begin with, or the error's place: 0 End, 1 Shape, 5 Sum -/
def partP (b : List UInt8) : Except Nat (List UInt8) :=
  if b.length < 4 then .error 0
  else if Crc.fits (b.take 3) = false then .error 5
  else if b.getD 3 0 ≠ 78 ∨ numB b % 16 ≠ 0 ∨ numB b / 16 = 0 then .error 1
  else if b.length - 4 < numB b / 16 then .error 0
  else .ok ((b.drop 4).take (numB b / 16))
theorem part_ok {b x : List UInt8} (h : partP b = .ok x) : 4 ≤ b.length ∧ x = (b.drop 4).take x.length ∧ 1 ≤ x.length ∧ 4 + x.length ≤ b.length ∧ x.length ≤ 4095 := by
  unfold partP at h
  split at h
  · cases h
  · split at h
    · cases h
    · split at h
      · cases h
      · split at h
        · cases h
        · injection h with h
          have hl : x.length = numB b / 16 := by rw [← h, List.length_take, List.length_drop]; omega
          have hn : numB b < 65536 := by
            unfold numB
            have h1 := UInt8.toNat_lt (b.getD 0 0)
            have h2 := UInt8.toNat_lt (b.getD 1 0)
            omega
          refine ⟨by omega, by rw [hl]; exact h.symm, by omega, by omega, by omega⟩
theorem num_delim (n : Nat) (h : n ≤ 4095) (r : List UInt8) : numB (delim n ++ r) = n * 16 := by
  simp only [numB, delim, hdB, Crc.sealed, List.cons_append, List.nil_append, List.getD_cons_zero, List.getD_cons_succ]
  rw [UInt8.toNat_ofNat', UInt8.toNat_ofNat']
  omega
theorem part_enc {x : List UInt8} (h1 : 1 ≤ x.length) (h2 : x.length ≤ 4095) (r : List UInt8) : partP (enc x ++ r) = .ok x := by
  have hl := enc_len x
  have e3 : (enc x ++ r).take 3 = Crc.sealed (hdB x.length) := by
    simp [enc, delim, Crc.sealed, hdB]
  have e4 : (enc x ++ r).getD 3 0 = 78 := by simp [enc, delim, Crc.sealed, hdB]
  have en : numB (enc x ++ r) = x.length * 16 := by rw [enc, List.append_assoc]; exact num_delim _ h2 _
  have ed : (enc x ++ r).drop 4 = x ++ r := by
    rw [enc, List.append_assoc, List.drop_append_of_le_length (by rw [delim_len]; exact Nat.le_refl _), List.drop_of_length_le (by rw [delim_len]; exact Nat.le_refl _), List.nil_append]
  unfold partP
  rw [if_neg (by rw [List.length_append, hl]; omega), e3, if_neg (by rw [Crc.fits_sealed]; simp), e4, en, if_neg (by rintro (h | h | h); exact h rfl; omega; omega), if_neg (by rw [List.length_append, hl]; omega), ed]
  rw [show x.length * 16 / 16 = x.length by omega, List.take_left']
  rfl

/-- what a receiver finds -/
def unpackP (b : List UInt8) : List (List UInt8) :=
  if h : b.length < 4 then [] else
    match partP b with
    | .error _ => unpackP (b.drop 4)
    | .ok x => x :: unpackP (b.drop (4 + up4 x.length))
termination_by b.length
decreasing_by all_goals (simp only [List.length_drop]; omega)
theorem unpack_short {b : List UInt8} (h : b.length < 4) : unpackP b = [] := by rw [unpackP, dif_pos h]
theorem unpack_err {b : List UInt8} (h : ¬ b.length < 4) {e : Nat} (hp : partP b = .error e) : unpackP b = unpackP (b.drop 4) := by rw [unpackP, dif_neg h, hp]
theorem unpack_ok {b x : List UInt8} (hp : partP b = .ok x) : unpackP b = x :: unpackP (b.drop (4 + up4 x.length)) := by
  rw [unpackP, dif_neg (by have := (part_ok hp).1; omega), hp]
def goodL (L : List (List UInt8)) : Prop := ∀ x ∈ L, 1 ≤ x.length ∧ x.length ≤ 4095
theorem unpack_flat {L : List (List UInt8)} (h : goodL L) (r : List UInt8) : unpackP (L.flatMap encp ++ r) = L ++ unpackP r := by
  induction L with
  | nil => simp
  | cons x L ih =>
    obtain ⟨h1, h2⟩ := h x (List.mem_cons_self ..)
    have e : ((x :: L).flatMap encp ++ r) = enc x ++ (pad4 x.length ++ (L.flatMap encp ++ r)) := by
      rw [List.flatMap_cons, encp]; simp only [List.append_assoc]
    rw [e, unpack_ok (part_enc h1 h2 _), List.cons_append, ← ih (fun y hy => h y (List.mem_cons_of_mem _ hy))]
    congr 1
    rw [← List.append_assoc, List.drop_append_of_le_length (by rw [List.length_append, enc_len, pad4_len]; have := up4_le x.length; omega),
      List.drop_of_length_le (by rw [List.length_append, enc_len, pad4_len]; have := up4_le x.length; omega), List.nil_append]
theorem unpack_pack {L : List (List UInt8)} (h : goodL L) : unpackP (packP L) = L := by
  rcases snoc_or L with rfl | ⟨M, x, rfl⟩
  · exact unpack_short (by decide)
  · rw [pack_last]
    have hM : goodL M := fun y hy => h y (List.mem_append_left _ hy)
    obtain ⟨h1, h2⟩ := h x (List.mem_append_right _ (List.mem_cons_self ..))
    have e := part_enc h1 h2 []
    rw [List.append_nil] at e
    rw [unpack_flat hM, unpack_ok e, unpack_short (by rw [List.length_drop, enc_len]; have := up4_le x.length; omega)]

/-- the parts, one behind the other, or the error's place -/
def ptsP (b : List UInt8) : Except Nat (List (List UInt8)) :=
  if h : b.length = 0 then .ok [] else
    match hp : partP b with
    | .error e => .error e
    | .ok x =>
      if ((b.drop (4 + x.length)).take (up4 x.length - x.length)).any (fun c => c != 0) = true then .error 1
      else if 0 < min (b.length - (4 + x.length)) (up4 x.length - x.length) ∧ b.length - (4 + x.length) = min (b.length - (4 + x.length)) (up4 x.length - x.length) then .error 0
      else match ptsP (b.drop (4 + up4 x.length)) with
        | .error e => .error e
        | .ok l => .ok (x :: l)
termination_by b.length
decreasing_by all_goals (have := part_ok hp; simp only [List.length_drop]; omega)
theorem pts_nil : ptsP [] = .ok [] := by rw [ptsP, dif_pos (show ([] : List UInt8).length = 0 from rfl)]
theorem pts_err {b : List UInt8} {e : Nat} (h : b ≠ []) (hp : partP b = .error e) : ptsP b = .error e := by
  rw [ptsP, dif_neg (by intro x; exact h (List.eq_nil_of_length_eq_zero x))]
  split
  · rename_i e' he; rw [hp] at he; injection he with he; rw [he]
  · rename_i x hx; rw [hp] at hx; cases hx
theorem pts_ok {b x : List UInt8} (hp : partP b = .ok x) : ptsP b =
    if ((b.drop (4 + x.length)).take (up4 x.length - x.length)).any (fun c => c != 0) = true then .error 1
    else if 0 < min (b.length - (4 + x.length)) (up4 x.length - x.length) ∧ b.length - (4 + x.length) = min (b.length - (4 + x.length)) (up4 x.length - x.length) then .error 0
    else match ptsP (b.drop (4 + up4 x.length)) with
      | .error e => .error e
      | .ok l => .ok (x :: l) := by
  rw [ptsP, dif_neg (by have := (part_ok hp).1; omega)]
  split
  · rename_i e' he; rw [hp] at he; cases he
  · rename_i y hy; rw [hp] at hy; injection hy with hy; subst hy; rfl
def partsP (b : List UInt8) : Except Nat (List (List UInt8)) :=
  if b = [] then .error 1 else
    match ptsP b with
    | .error e => .error e
    | .ok l => if 64 < l.length ∨ 65535 < b.length then .error 3 else .ok l
theorem pad_zero (n : Nat) : (pad4 n).any (fun c => c != 0) = false := by
  rw [List.any_eq_false]
  intro c hc
  rw [pad4] at hc
  rw [List.eq_of_mem_replicate hc]
  simp
theorem pts_step {x : List UInt8} (h1 : 1 ≤ x.length) (h2 : x.length ≤ 4095) {r : List UInt8} (hr : r ≠ []) : ptsP (encp x ++ r) =
    match ptsP r with
    | .error e => .error e
    | .ok l => .ok (x :: l) := by
  have e : encp x ++ r = enc x ++ (pad4 x.length ++ r) := by rw [encp, List.append_assoc]
  have hle := up4_le x.length
  rw [e, pts_ok (part_enc h1 h2 _)]
  have d1 : (enc x ++ (pad4 x.length ++ r)).drop (4 + x.length) = pad4 x.length ++ r := by
    rw [List.drop_append_of_le_length (by rw [enc_len]; exact Nat.le_refl _), List.drop_of_length_le (by rw [enc_len]; exact Nat.le_refl _), List.nil_append]
  have d2 : (pad4 x.length ++ r).take (up4 x.length - x.length) = pad4 x.length := by rw [List.take_left' (pad4_len _)]
  have d3 : (enc x ++ (pad4 x.length ++ r)).drop (4 + up4 x.length) = r := by
    rw [← List.append_assoc, List.drop_append_of_le_length (by rw [List.length_append, enc_len, pad4_len]; omega), List.drop_of_length_le (by rw [List.length_append, enc_len, pad4_len]; omega), List.nil_append]
  have hr0 : 0 < r.length := List.length_pos_iff.2 hr
  have dl : (enc x ++ (pad4 x.length ++ r)).length = 4 + x.length + (up4 x.length - x.length) + r.length := by
    simp only [List.length_append, enc_len, pad4_len]; omega
  rw [d1, d2, pad_zero, if_neg (by simp), d3, if_neg (by rw [dl]; omega)]
theorem pts_last {x : List UInt8} (h1 : 1 ≤ x.length) (h2 : x.length ≤ 4095) : ptsP (enc x) = .ok [x] := by
  have e := part_enc h1 h2 []
  rw [List.append_nil] at e
  rw [pts_ok e, enc_len, List.drop_of_length_le (by rw [enc_len]; exact Nat.le_refl _)]
  rw [if_neg (by simp), if_neg (by omega), List.drop_of_length_le (by rw [enc_len]; have := up4_le x.length; omega), pts_nil]
theorem pts_flat {L : List (List UInt8)} (h : goodL L) {r : List UInt8} (hr : r ≠ []) : ptsP (L.flatMap encp ++ r) =
    match ptsP r with
    | .error e => .error e
    | .ok l => .ok (L ++ l) := by
  induction L with
  | nil => simp only [List.flatMap_nil, List.nil_append]; cases ptsP r <;> rfl
  | cons x L ih =>
    obtain ⟨h1, h2⟩ := h x (List.mem_cons_self ..)
    rw [List.flatMap_cons, List.append_assoc, pts_step h1 h2 (by intro e; exact hr (List.append_eq_nil_iff.1 e).2), ih (fun y hy => h y (List.mem_cons_of_mem _ hy))]
    cases ptsP r <;> rfl
theorem enc_ne (x : List UInt8) : enc x ≠ [] := by intro e; have := enc_len x; rw [e] at this; simp at this; omega
theorem pts_pack {L : List (List UInt8)} (h : goodL L) : ptsP (packP L) = .ok L := by
  rcases snoc_or L with rfl | ⟨M, x, rfl⟩
  · exact pts_nil
  · rw [pack_last, pts_flat (fun y hy => h y (List.mem_append_left _ hy)) (enc_ne x)]
    obtain ⟨h1, h2⟩ := h x (List.mem_append_right _ (List.mem_cons_self ..))
    rw [pts_last h1 h2]
/-- words of which none is a delimiter are passed over -/
theorem unpack_junk (y r : List UInt8) (h4 : y.length % 4 = 0) (h : ∀ i, i < y.length → i % 4 = 3 → y.getD i 0 ≠ 78) : unpackP (y ++ r) = unpackP r := by
  obtain ⟨k, hk⟩ : ∃ k, y.length = 4 * k := ⟨y.length / 4, by omega⟩
  induction k generalizing y with
  | zero => rw [List.eq_nil_of_length_eq_zero (by omega : y.length = 0)]; rfl
  | succ k ih =>
    have hl : ¬ (y ++ r).length < 4 := by rw [List.length_append]; omega
    have h3 : (y ++ r).getD 3 0 ≠ 78 := by
      have := h 3 (by omega) rfl
      rwa [show (y ++ r).getD 3 0 = y.getD 3 0 by rw [List.getD_eq_getElem?_getD, List.getD_eq_getElem?_getD, List.getElem?_append_left (by omega)]]
    obtain ⟨e, he⟩ : ∃ e, partP (y ++ r) = .error e := by
      unfold partP
      rw [if_neg hl]
      split
      · exact ⟨_, rfl⟩
      · rw [if_pos (.inl h3)]; exact ⟨_, rfl⟩
    rw [unpack_err hl he, List.drop_append_of_le_length (by omega)]
    refine ih (y.drop 4) (by rw [List.length_drop]; omega) (fun i hi hi4 => ?_) (by rw [List.length_drop]; omega)
    rw [List.length_drop] at hi
    have := h (4 + i) (by omega) (by omega)
    rwa [show (y.drop 4).getD i 0 = y.getD (4 + i) 0 by simp [List.getD_eq_getElem?_getD, List.getElem?_drop]]
end Go.Proofs.YtoagmehgiaamlaaDoor

namespace Go.Proofs.YtoagmehgiaamlaaDoor
open Go.ChangeShapes Go.WideShapes Go.ChangeAt Go.RowKit
set_option linter.unusedVariables false

theorem go_join (x y : UInt8) : bits .or .i64 (x.toNat : Int) ((y.toNat : Int) * 256) = ((x.toNat + 256 * y.toNat : Nat) : Int) := by
  have hx := UInt8.toNat_lt x
  have hy := UInt8.toNat_lt y
  have e : ((y.toNat : Int) * 256) = ((y.toNat * 256 : Nat) : Int) := by simp
  have ea : BitVec.ofInt 64 ((x.toNat : Nat) : Int) = BitVec.ofNat 64 x.toNat := by rw [BitVec.ofInt_natCast]
  have eb : BitVec.ofInt 64 ((y.toNat * 256 : Nat) : Int) = BitVec.ofNat 64 (y.toNat * 256) := by rw [BitVec.ofInt_natCast]
  have ta : (BitVec.ofNat 64 x.toNat).toNat = x.toNat := by rw [BitVec.toNat_ofNat]; omega
  have tb : (BitVec.ofNat 64 (y.toNat * 256)).toNat = y.toNat * 256 := by rw [BitVec.toNat_ofNat]; omega
  rw [e]
  show IntKind.i64.wrap ((BitVec.ofInt 64 ((x.toNat : Nat) : Int) ||| BitVec.ofInt 64 ((y.toNat * 256 : Nat) : Int)).toNat : Int) = _
  rw [ea, eb, BitVec.toNat_or, ta, tb, Nat.or_comm]
  have : y.toNat * 256 ||| x.toNat = y.toNat * 256 + x.toNat := by
    have := Nat.two_pow_add_eq_or_of_lt (i := 8) (show x.toNat < 2 ^ 8 by omega) y.toNat
    rw [show 2 ^ 8 * y.toNat = y.toNat * 256 by omega] at this
    exact this.symm
  rw [this, IntWalk.i64_in _ (by omega)]
  omega
theorem Row.from_ {w : World} {b off len cap : Nat} {vs : List Value} (h : Row w 1 (some ⟨b, off, none⟩) len cap vs) {n : Nat} (hn : n ≤ len) : Row w 1 (some ⟨b, off + n, none⟩) (len - n) (cap - n) (vs.drop n) := by
  obtain ⟨h1, h2, h3, h4, h5⟩ := h
  refine ⟨by simp; omega, by omega, by omega, by simp, fun hl => ?_⟩
  obtain ⟨b', off', e, hb, hc⟩ := h5 (by omega)
  obtain ⟨rfl, rfl⟩ : b = b' ∧ off = off' := by injection e with e; injection e with e1 e2 e3; exact ⟨e1, e2⟩
  exact ⟨b, off + n, rfl, hb, fun i u hu => by rw [List.getElem?_drop] at hu; rw [Nat.add_assoc]; exact hc _ u hu⟩

theorem Row.cut {w : World} {b off len cap : Nat} {vs : List Value} (h : Row w 1 (some ⟨b, off, none⟩) len cap vs) {n : Nat} (hn : n ≤ len) :
    Row w 1 (if cap = n then some ⟨b, off, none⟩ else some ⟨b, off + n, none⟩) (len - n) (cap - n) (vs.drop n) := by
  by_cases hc : cap = n
  · rw [if_pos hc]
    have h1 := h.1
    have h2 := h.len_cap
    exact ⟨by simp; omega, by omega, by omega, by simp, fun hl => by omega⟩
  · rw [if_neg hc]; exact h.from_ hn

end Go.Proofs.YtoagmehgiaamlaaDoor

namespace Go.Proofs.YtoagmehgiaamlaaDoor
open Go.ChangeShapes Go.WideShapes Go.ChangeAt Go.RowKit
set_option linter.unusedVariables false

/-- a frame's cells: 18 bytes of addresses (To, BSS, From), TID, Seq, Retry, More, EOSP, Body -/
def qcells (a : Nat → UInt8) (tid seq : Int) (r m e : Bool) (A : Option Addr) (n C : Nat) : Array Value := #[.int .u8 ((a 0).toNat : Int), .int .u8 ((a 1).toNat : Int), .int .u8 ((a 2).toNat : Int), .int .u8 ((a 3).toNat : Int), .int .u8 ((a 4).toNat : Int), .int .u8 ((a 5).toNat : Int), .int .u8 ((a 6).toNat : Int), .int .u8 ((a 7).toNat : Int), .int .u8 ((a 8).toNat : Int), .int .u8 ((a 9).toNat : Int), .int .u8 ((a 10).toNat : Int), .int .u8 ((a 11).toNat : Int), .int .u8 ((a 12).toNat : Int), .int .u8 ((a 13).toNat : Int), .int .u8 ((a 14).toNat : Int), .int .u8 ((a 15).toNat : Int), .int .u8 ((a 16).toNat : Int), .int .u8 ((a 17).toNat : Int), .int .i64 tid, .int .i64 seq, .bool r, .bool m, .bool e, .slice A n C]
def qv (a : Nat → UInt8) (tid seq : Int) (r m e : Bool) (A : Option Addr) (n C : Nat) : Value := .agg (qcells a tid seq r m e A n C)
theorem qos_size : (Tryd.prog.info? 35).map (·.size) = some 24 := by kernel_rfl
theorem qcells_size (a : Nat → UInt8) (tid seq : Int) (r m e : Bool) (A : Option Addr) (n C : Nat) : (qcells a tid seq r m e A n C).size = 24 := rfl
theorem qcells_one (a : Nat → UInt8) (tid seq : Int) (r m e : Bool) (A : Option Addr) (n C : Nat) : (qcells a tid seq r m e A n C).all (·.oneCell') = true := by simp [qcells, Value.oneCell']
def acells (a : Nat → UInt8) : Array Value := #[.int .u8 ((a 0).toNat : Int), .int .u8 ((a 1).toNat : Int), .int .u8 ((a 2).toNat : Int), .int .u8 ((a 3).toNat : Int), .int .u8 ((a 4).toNat : Int), .int .u8 ((a 5).toNat : Int), .int .u8 ((a 6).toNat : Int), .int .u8 ((a 7).toNat : Int), .int .u8 ((a 8).toNat : Int), .int .u8 ((a 9).toNat : Int), .int .u8 ((a 10).toNat : Int), .int .u8 ((a 11).toNat : Int), .int .u8 ((a 12).toNat : Int), .int .u8 ((a 13).toNat : Int), .int .u8 ((a 14).toNat : Int), .int .u8 ((a 15).toNat : Int), .int .u8 ((a 16).toNat : Int), .int .u8 ((a 17).toNat : Int)]
def addrs (a : Nat → UInt8) : List UInt8 := [a 0, a 1, a 2, a 3, a 4, a 5, a 6, a 7, a 8, a 9, a 10, a 11, a 12, a 13, a 14, a 15, a 16, a 17]
theorem addrs_length (a : Nat → UInt8) : (addrs a).length = 18 := rfl
/-- may a frame be? -/
def qok (tid seq : Int) (n : Nat) : Prop := 0 ≤ tid ∧ tid < 8 ∧ 0 ≤ seq ∧ seq < 4096 ∧ n ≤ 1500
def qflags (r m : Bool) : Nat := 2 + (if r then 8 else 0) + (if m then 32 else 0)
def qtid (tid : Int) (e : Bool) : Nat := tid.toNat + (if e then 16 else 0)
def qhead (a : Nat → UInt8) (tid seq : Int) (r m e : Bool) : List UInt8 :=
  [0x88, UInt8.ofNat (qflags r m), 0, 0] ++ addrs a ++ [UInt8.ofNat (seq.toNat * 16 % 256), UInt8.ofNat (seq.toNat / 16), UInt8.ofNat (qtid tid e), 0]
def qbytes (a : Nat → UInt8) (tid seq : Int) (r m e : Bool) (body : List UInt8) : List UInt8 := qhead a tid seq r m e ++ body
theorem qhead_length (a : Nat → UInt8) (tid seq : Int) (r m e : Bool) : (qhead a tid seq r m e).length = 26 := rfl
theorem qbytes_length (a : Nat → UInt8) (tid seq : Int) (r m e : Bool) (body : List UInt8) : (qbytes a tid seq r m e body).length = 26 + body.length := by
  unfold qbytes; rw [List.length_append, qhead_length]

/-- the world of qos.Bytes ahead of its loop -/
def qW (w : World) (a : Nat → UInt8) (tid seq : Int) (r m e : Bool) (A : Option Addr) (n C nq : Nat) : World :=
  (((w.alloc (.cells (qcells a tid seq r m e A n C) 35)).drewN nq).alloc (.cells #[.int .u8 136, .int .u8 (qflags r m : Nat), .int .u8 0, .int .u8 0] 5)).alloc (.cells (acells a) 26)
theorem qflags_lt (r m : Bool) : qflags r m < 256 := by cases r <;> cases m <;> decide
theorem qW_facts (w : World) (a : Nat → UInt8) (tid seq : Int) (r m e : Bool) (A : Option Addr) (n C nq : Nat) :
    OwnU8 (qW w a tid seq r m e A n C nq) w.heap.size (some ⟨w.heap.size + 1, 0, none⟩) 4 4 [0x88, UInt8.ofNat (qflags r m), 0, 0] ∧
    Blk (qW w a tid seq r m e A n C nq) (w.heap.size + 2) (acells a) 26 ∧ Blk (qW w a tid seq r m e A n C nq) w.heap.size (qcells a tid seq r m e A n C) 35 ∧ Below w.heap.size w (qW w a tid seq r m e A n C nq) := by
  have hs : ((w.alloc (.cells (qcells a tid seq r m e A n C) 35)).drewN nq).heap.size = w.heap.size + 1 := by simp [World.drewN]
  refine ⟨OwnU8.alloc ?_ _, ?_, (((Blk.new w _ _).drewN nq).alloc _).alloc _, ((((Below.refl _ _).alloc (Nat.le_refl _) _).trans (below_drewN nq)).alloc (by omega) _).alloc (by simp [World.drewN]; omega) _⟩
  · have hb := Blk.new ((w.alloc (.cells (qcells a tid seq r m e A n C) 35)).drewN nq) #[.int .u8 136, .int .u8 (qflags r m : Nat), .int .u8 0, .int .u8 0] 5
    rw [hs] at hb
    refine ⟨rfl, .inr ⟨w.heap.size + 1, 4, _, rfl, by omega, hb, Nat.le_refl _, by simp [maxLen], rfl, ?_⟩⟩
    simp [u8v]
    have := qflags_lt r m
    omega
  · have hb := Blk.new (((w.alloc (.cells (qcells a tid seq r m e A n C) 35)).drewN nq).alloc (.cells #[.int .u8 136, .int .u8 (qflags r m : Nat), .int .u8 0, .int .u8 0] 5)) (acells a) 26
    rw [World.size_alloc, hs] at hb
    exact hb
theorem qtid_no {tid : Int} (h0 : 0 ≤ tid) : tid = ((qtid tid false : Nat) : Int) := by simp [qtid]; omega
theorem or16 : ∀ n : Fin 8, bits .or .u8 ((n.val : Nat) : Int) 16 = ((n.val + 16 : Nat) : Int) := by decide +kernel
theorem qtid_yes {tid : Int} (h0 : 0 ≤ tid) (h1 : tid < 8) : bits .or .u8 tid 16 = ((qtid tid true : Nat) : Int) := by
  obtain ⟨n, rfl⟩ := Int.eq_ofNat_of_zero_le h0
  have := or16 ⟨n, by omega⟩
  simpa [qtid] using this
theorem qtid_lt {tid : Int} (h0 : 0 ≤ tid) (h1 : tid < 8) (e : Bool) : qtid tid e < 256 := by unfold qtid; split <;> omega
def qtail (tid seq : Int) (e : Bool) : List UInt8 := [UInt8.ofNat (seq.toNat * 16 % 256), UInt8.ofNat (seq.toNat / 16), UInt8.ofNat (qtid tid e), 0]
theorem row_tail (w : World) (tid seq : Int) (e : Bool) (t : TypeId) (h0 : 0 ≤ tid) (h1 : tid < 8) (h2 : 0 ≤ seq) (h3 : seq < 4096) :
    Row (w.alloc (.cells #[.int .u8 (seq * 16 % 256), .int .u8 (seq * 16 / 256), .int .u8 (qtid tid e : Nat), .int .u8 0] t)) 1 (some ⟨w.heap.size, 0, none⟩) 4 4 ((qtail tid seq e).map u8v) := by
  have e0 : u8v (UInt8.ofNat (seq.toNat * 16 % 256)) = .int .u8 (seq * 16 % 256) := by
    unfold u8v; rw [UInt8.toNat_ofNat']; congr 1; omega
  have e1 : u8v (UInt8.ofNat (seq.toNat / 16)) = .int .u8 (seq * 16 / 256) := by
    unfold u8v; rw [UInt8.toNat_ofNat']; congr 1; omega
  have e2 : u8v (UInt8.ofNat (qtid tid e)) = .int .u8 (qtid tid e : Nat) := by
    unfold u8v; rw [UInt8.toNat_ofNat']; have := qtid_lt h0 h1 e; congr 1; omega
  have := row_new w #[.int .u8 (seq * 16 % 256), .int .u8 (seq * 16 / 256), .int .u8 (qtid tid e : Nat), .int .u8 0] t
  rcases this with h | h
  · simp only [qtail, List.map_cons, List.map_nil, e0, e1, e2]
    exact h
  · simp [maxLen] at h
theorem qbytes_eq (a : Nat → UInt8) (tid seq : Int) (r m e : Bool) (body : List UInt8) :
    ([0x88, UInt8.ofNat (qflags r m), 0, 0] ++ (addrs a).take (6 * 3)) ++ qtail tid seq e ++ body = qbytes a tid seq r m e body := rfl
instance qokDec (tid seq : Int) (n : Nat) : Decidable (qok tid seq n) := by unfold qok; infer_instance
/-- may a frame be? as a Bool that the walk does not take apart -/
def qokB (tid seq : Int) (n : Nat) : Bool := decide (qok tid seq n)
def qerr (tid seq : Int) (n : Nat) : Option Nat := bif qokB tid seq n then none else some 2
def qres (a : Nat → UInt8) (tid seq : Int) (r m e : Bool) (n : Nat) (body : List UInt8) : List UInt8 := bif qokB tid seq n then qbytes a tid seq r m e body else []

theorem qokB_eq {tid seq : Int} {n : Nat} (p : Prop) [Decidable p] (h : qok tid seq n ↔ p) : qokB tid seq n = decide p := by
  unfold qokB; rw [decide_eq_decide]; exact h
theorem qerr_none {tid seq : Int} {n : Nat} : decide (qerr tid seq n = none) = qokB tid seq n := by
  unfold qerr; cases qokB tid seq n <;> rfl
end Go.Proofs.YtoagmehgiaamlaaDoor

