/-
  Words and lemmas of my own on slices that are read, and on the world behind a call. No statement of the program.
-/
import Derived.Test.YtoagmehgiaamlaaDoorRows
import Derived.WalkKit
import Derived.ProofKit
import Derived.OpenShut
import Derived.ShutString
import Derived.ChangeOld
import Derived.Below
import Derived.WalkLawsBesides
import Derived.WalkSpells
import Derived.BigQuiet
import Derived.Deep.QuietTactic
import Derived.Deep.LoopGhost
import Derived.Deep.DeepCutAuto
import Derived.Lib.Hide
import Derived.Maps.AppendAt
import Derived.Deep.AppendLies
import Derived.Deep.RegionHeld3
import Derived.Deep.RegionLaw
import Derived.StillTactics
import Derived.StillTailTactics
import Derived.Deep.Light
namespace Go.Proofs.YtoagmehgiaamlaaDoor
open Go.ChangeShapes Go.WideShapes Go.ChangeAt Go.RowKit
set_option linter.unusedVariables false

/-- a byte as a cell -/
def u8v (b : UInt8) : Value := .int .u8 (b.toNat : Int)
/-- an int as a cell -/
def i64v (n : Int) : Value := .int .i64 n

/-- the block of an address -/
def blk : Option Addr → Option Nat
  | some a => some a.block
  | none => none

theorem add_at (b off i : Nat) : (Addr.add ⟨b, off, none⟩ i : Addr) = ⟨b, off + i, none⟩ := by unfold Addr.add; split <;> simp_all

/-- a slice value whose elements (sz cells each) lie in w as the cells vs -/
def Row (w : World) (sz : Nat) (a : Option Addr) (len cap : Nat) (vs : List Value) : Prop :=
  vs.length = len * sz ∧ len ≤ cap ∧ cap ≤ maxLen ∧ (a = none → cap = 0) ∧
  (0 < len → ∃ b off, a = some ⟨b, off, none⟩ ∧ b < w.heap.size ∧ ∀ i u, vs[i]? = some u → w.cell? ⟨b, off + i, none⟩ = some u)

section
variable {w w' : World} {sz : Nat} {a : Option Addr} {len cap : Nat} {vs : List Value}
/-- what the row reads stays while its block does -/
theorem Row.keep (h : Row w sz a len cap vs) (hs : w.heap.size ≤ w'.heap.size) (hk : ∀ b, blk a = some b → b < w.heap.size → w'.heap[b]? = w.heap[b]?) : Row w' sz a len cap vs := by
  obtain ⟨h1, h2, h3, h4, h5⟩ := h
  refine ⟨h1, h2, h3, h4, fun hl => ?_⟩
  obtain ⟨b, off, ha, hlt, hc⟩ := h5 hl
  refine ⟨b, off, ha, by omega, fun i u hu => ?_⟩
  rw [World.cell?_of_block (a := ⟨b, off + i, none⟩) (hk b (by rw [ha]; rfl) hlt)]
  exact hc i u hu
theorem Row.below (h : Row w sz a len cap vs) {B : Nat} (hb : Below B w w') (hB : w.heap.size ≤ B) : Row w' sz a len cap vs :=
  h.keep hb.size fun b _ hlt => hb.block b (by omega)
theorem Row.belowAt (h : Row w sz a len cap vs) {B : Nat} (hb : Below B w w') (hB : ∀ b, blk a = some b → b < B) : Row w' sz a len cap vs :=
  h.keep hb.size fun b hb' _ => hb.block b (hB b hb')
theorem Row.grown (h : Row w sz a len cap vs) {r : Option Nat} (hg : w.grownBy w' r) (hr : ∀ b, blk a = some b → some b ≠ r) : Row w' sz a len cap vs :=
  h.keep hg.size fun b hb hlt => hg.block b hlt (hr b hb)
theorem Row.alloc (h : Row w sz a len cap vs) (o : Obj) : Row (w.alloc o) sz a len cap vs :=
  h.keep (by simp) fun b _ hlt => Below.heap_alloc w o b hlt
theorem Row.setCell (h : Row w sz a len cap vs) {p : Addr} (hp : ∀ b, blk a = some b → b ≠ p.block) (u : Value) : Row (w.setCell p u) sz a len cap vs :=
  h.keep (by simp [World.setCell]) fun b hb _ => Below.heap_setCell w p u b (hp b hb)
theorem Row.drew (h : Row w sz a len cap vs) : Row w.drew sz a len cap vs := h
theorem Row.drewN (h : Row w sz a len cap vs) (n : Nat) : Row (w.drewN n) sz a len cap vs := h
theorem Row.len_le (h : Row w sz a len cap vs) : len ≤ 9223372036854775807 := by
  have h2 := h.2.1; have h3 := h.2.2.1; unfold maxLen at h3; omega
theorem Row.len_cap (h : Row w sz a len cap vs) : len ≤ cap ∧ cap ≤ 9223372036854775807 := by
  have h2 := h.2.1; have h3 := h.2.2.1; unfold maxLen at h3; omega
theorem Row.length (h : Row w sz a len cap vs) : vs.length = len * sz := h.1
theorem Row.at_ (h : Row w sz a len cap vs) (hl : 0 < len) : ∃ b off, a = some ⟨b, off, none⟩ ∧ b < w.heap.size ∧ ∀ i u, vs[i]? = some u → w.cell? ⟨b, off + i, none⟩ = some u := h.2.2.2.2 hl
/-- s[:n] -/
theorem Row.take (h : Row w sz a len cap vs) {n : Nat} (hn : n ≤ len) : Row w sz a n cap (vs.take (n * sz)) := by
  obtain ⟨h1, h2, h3, h4, h5⟩ := h
  refine ⟨by rw [List.length_take, h1]; exact Nat.min_eq_left (Nat.mul_le_mul_right _ hn), by omega, h3, h4, fun hl => ?_⟩
  obtain ⟨b, off, ha, hlt, hc⟩ := h5 (by omega)
  exact ⟨b, off, ha, hlt, fun i u hu => hc i u (by rw [List.getElem?_take] at hu; split at hu; exact hu; simp at hu)⟩
theorem row_nil (w : World) (sz : Nat) : Row w sz none 0 0 [] := ⟨by simp, Nat.le_refl _, by simp, fun _ => rfl, fun h => by omega⟩

/-- a slice of the call's own can be read -/
theorem row_of_own {base : Nat} {e : TypeId} (h : w.ownsRow base e sz (.slice a len cap) len vs) : Row w sz a len cap vs := by
  refine ⟨h.1, ?_⟩
  rcases h.2 with ⟨hv, hn⟩ | ⟨g, cap', cur, hv, hb, hg, hle, hm, hs, ht⟩
  · injection hv with h1 h2 h3
    subst h1 h2 h3
    exact ⟨Nat.le_refl _, by simp, fun _ => rfl, fun h => by omega⟩
  · injection hv with h1 _ h3
    subst h1 h3
    refine ⟨hle, hm, fun h => by simp at h, fun _ => ⟨g, 0, rfl, (Array.getElem?_eq_some_iff.1 hg).1, fun i u hu => ?_⟩⟩
    have := h.cells (g := g) rfl i u hu
    rwa [add_at] at this
end

/-- of integers that came in -/
theorem row_of_ints {w : World} {x : Addr} {len cap : Nat} {k : IntKind} {zs : List Int} (hl : len ≤ cap) (hm : cap ≤ maxLen) (hz : zs.length = cap)
    (hcell : ∀ i, i < zs.length → w.cell? (x.add i) = some (.int k (zs.getD i 0))) : Row w 1 (some x) len cap ((zs.take len).map (Value.int k)) := by
  refine ⟨by simp; omega, hl, hm, fun h => by simp at h, fun hp => ?_⟩
  obtain ⟨b, off, spot⟩ := x
  have hc0 := hcell 0 (by omega)
  have hspot : spot = none := by simpa [Addr.add] using World.cell?_spot hc0
  subst hspot
  refine ⟨b, off, rfl, World.block_lt_of_cell? w _ hc0, fun i u hu => ?_⟩
  have hu' : i < len ∧ i < zs.length := by
    have := (List.getElem?_eq_some_iff.1 hu).1; simp at this; omega
  have hc := hcell i hu'.2
  rw [add_at] at hc
  rw [hc]
  simp [hu'.1, List.getElem?_eq_getElem hu'.2] at hu
  rw [← hu]
  simp [List.getD, List.getElem?_eq_getElem hu'.2]

/-- a block that is known whole, none of its cells frozen -/
def Blk (w : World) (n : Nat) (cs : Array Value) (t : TypeId) : Prop := w.heap[n]? = some (.cells cs t (0, 0))
section
variable {w w' : World} {n : Nat} {cs : Array Value} {t : TypeId}
theorem Blk.lt (h : Blk w n cs t) : n < w.heap.size := (Array.getElem?_eq_some_iff.1 h).1
theorem Blk.cell (h : Blk w n cs t) (i : Nat) : w.cell? ⟨n, i, none⟩ = cs[i]? := cell_of_row w n i cs t (0, 0) h
theorem Blk.frozen (h : Blk w n cs t) (i : Nat) : w.frozen? ⟨n, i, none⟩ = false := frozen_of_row w n i cs t h
theorem Blk.new (w : World) (cs : Array Value) (t : TypeId) : Blk (w.alloc (.cells cs t)) w.heap.size cs t := heap_alloc_new w _
theorem Blk.keep (h : Blk w n cs t) (hk : n < w.heap.size → w'.heap[n]? = w.heap[n]?) : Blk w' n cs t := (hk h.lt).trans h
theorem Blk.below (h : Blk w n cs t) {B : Nat} (hb : Below B w w') (hn : n < B) : Blk w' n cs t := h.keep fun _ => hb.block n hn
theorem Blk.alloc (h : Blk w n cs t) (o : Obj) : Blk (w.alloc o) n cs t := h.keep fun hlt => Below.heap_alloc w o n hlt
theorem Blk.drewN (h : Blk w n cs t) (k : Nat) : Blk (w.drewN k) n cs t := h
theorem Blk.drew (h : Blk w n cs t) : Blk w.drew n cs t := h
theorem Blk.grown (h : Blk w n cs t) {r : Option Nat} (hg : w.grownBy w' r) (hr : some n ≠ r) : Blk w' n cs t := h.keep fun hlt => hg.block n hlt hr
theorem Blk.far (h : Blk w n cs t) {p : Addr} (hp : n ≠ p.block) (u : Value) : Blk (w.setCell p u) n cs t := h.keep fun _ => Below.heap_setCell w p u n hp
theorem Blk.set_ (h : Blk w n cs t) (i : Nat) (u : Value) : Blk (w.setCell ⟨n, i, none⟩ u) n (cs.setIfInBounds i u) t := heap_setCell_same w n i cs t u h
/-- a block just made lies there behind a call -/
theorem Blk.made {w1 : World} (hb : Below (w.alloc (.cells cs t)).heap.size (w.alloc (.cells cs t)) w1) : Blk w1 w.heap.size cs t :=
  (Blk.new w cs t).below hb (by simp)
end

theorem setRow_grown (w : World) (g : Nat) (cs : Array Value) : w.grownBy (w.setRow g cs) (some g) :=
  ⟨rfl, rfl, rfl, by simp [World.setRow], fun k _ hk => setRow_other w g k _ (fun e => hk (by rw [e]))⟩
/-- a whole struct is stored into a block that is known whole: at the operation, in a list, at a step of a region that draws -/
theorem wp_store_blk {P : Program} (w : World) {o : Oper} {a : Act} {K : Act → World → Prop} {Q : Exit → Act → World → Prop} (ty : TypeId) (x y : Operand) (ho : o.op = .store ty x y)
    (g : Nat) (cells : Array Value) (hx : a.eval x = .pointer (some ⟨g, 0, none⟩)) (hy : a.eval y = .agg cells) (t : TypeId) (old : Array Value) (hg : Blk w g old t)
    (hi : (P.info? ty).map (·.size) = some cells.size) (hold : old.size = cells.size) (h1 : cells.all (·.oneCell') = true)
    (h : ∀ w', Blk w' g cells t → w.grownBy w' (some g) → K (a.put o.dst undef) w') : o.wp P a w K Q :=
  wp_store_row ty x y ho g cells hx hy t old hg hi hold h1 (h _ (setRow_heap w g old cells t (0, 0) hg) (setRow_grown w g cells))
theorem wpList_store_blk {P : Program} (w : World) {ops : Array Oper} {rest : List Oper} {o : Oper} {a : Act} {Q : Exit → Act → World → Prop} (hgd : Region.wanted o (yielded ops a.tmps) = true) (ty : TypeId) (x y : Operand) (ho : o.op = .store ty x y)
    (g : Nat) (cells : Array Value) (hx : a.eval x = .pointer (some ⟨g, 0, none⟩)) (hy : a.eval y = .agg cells) (t : TypeId) (old : Array Value) (hg : Blk w g old t)
    (hi : (P.info? ty).map (·.size) = some cells.size) (hold : old.size = cells.size) (h1 : cells.all (·.oneCell') = true)
    (h : ∀ w', Blk w' g cells t → w.grownBy w' (some g) → wpList P ops Q rest (a.put o.dst undef) w') : wpList P ops Q (o :: rest) a w := by
  refine wpList_step fun K hK => ?_
  rw [if_pos hgd]
  exact wp_store_blk w ty x y ho g cells hx hy t old hg hi hold h1 fun w' r1 r2 => hK _ _ (h w' r1 r2)
theorem step_store_blk {P : Program} (w : World) {ops : Array Oper} {o : Oper} {a : Act} {K : Act → World → Prop} {Q : Exit → Act → World → Prop} {Z : Prop} (hgd : Region.wanted o (yielded ops a.tmps) = true) (ty : TypeId) (x y : Operand) (ho : o.op = .store ty x y)
    (g : Nat) (cells : Array Value) (hx : a.eval x = .pointer (some ⟨g, 0, none⟩)) (hy : a.eval y = .agg cells) (t : TypeId) (old : Array Value) (hg : Blk w g old t)
    (hi : (P.info? ty).map (·.size) = some cells.size) (hold : old.size = cells.size) (h1 : cells.all (·.oneCell') = true)
    (h : ∀ w', Blk w' g cells t → w.grownBy w' (some g) → K (a.put o.dst undef) w') : if Region.wanted o (yielded ops a.tmps) = true then Oper.wp P o a w K Q else Z := by
  rw [if_pos hgd]
  exact wp_store_blk w ty x y ho g cells hx hy t old hg hi hold h1 h
/-- a whole struct is loaded from a block that is known whole -/
theorem wpList_load_blk {P : Program} (w : World) {ops : Array Oper} {rest : List Oper} {o : Oper} {a : Act} {Q : Exit → Act → World → Prop} (hgd : Region.wanted o (yielded ops a.tmps) = true) (ty : TypeId) (x : Operand) (ho : o.op = .load ty x)
    (g : Nat) (hx : a.eval x = .pointer (some ⟨g, 0, none⟩)) (t : TypeId) (cs : Array Value) (d : TypeDesc) (hg : Blk w g cs t) (hu : P.underlying ty = some d)
    (hd : (match d with | .struct _ | .array _ _ => true | _ => false) = true) (hi : (P.info? ty).map (·.size) = some cs.size)
    (h : wpList P ops Q rest (a.put o.dst (.agg cs)) w) : wpList P ops Q (o :: rest) a w := by
  refine wpList_step fun K hK => ?_
  rw [if_pos hgd]
  exact wp_load_row ty x ho g hx t cs (0, 0) d hg hu hd hi (hK _ _ h)

/-- 'append' ONTO A SLICE OF THE CALL's OWN, OF WHATEVER CAN BE READ (nil, empty or not): at the operation, in a list, at a step of a region that draws -/
theorem wp_append_row {P : Program} (w : World) {o : Oper} {a : Act} {K : Act → World → Prop} {Q : Exit → Act → World → Prop} (s x : Operand) (t : TypeId)
    (ho : o.op = .call { callee := .builtin .append, args := #[s, x], argTypes := #[t, t] })
    (base : Nat) (e : TypeId) (i : TypeInfo) (z : Value) (size bytes : Nat) (ht : P.underlying t = some (.slice e)) (hi : P.info? e = some i) (hz : i.zero = some z)
    (hsize : i.size = size) (hby : i.bytes = bytes) (hzs : z.cells.size = size) (hsz : 0 < size)
    (A : Option Addr) (n C : Nat) (xs : List Value) (hs : a.eval s = .slice A n C) (hown : w.ownsRow base e size (.slice A n C) n xs)
    (A' : Option Addr) (m c : Nat) (news : List Value) (hx : a.eval x = .slice A' m c) (hr : Row w size A' m c news) (h1 : ∀ u ∈ news, u.oneCell' = true)
    (h63 : n + m ≤ maxLen) (hbytes : (n + m) * bytes ≤ 140737488355328) (hbase : base ≤ w.heap.size)
    (h : ∀ A2 C2 w', w'.ownsRow base e size (.slice A2 (n + m) C2) (n + m) (xs ++ news) → w.grownBy w' (blk A) → (blk A2 = blk A ∨ blk A2 = some w.heap.size) → (A2 = none → A = none ∧ m = 0) → K (a.put o.dst (.slice A2 (n + m) C2)) w') : o.wp P a w K Q := by
  have hob : ∀ (B : Option Addr) (k d : Nat), (Value.slice B k d).ownBlock = blk B := fun B k d => by cases B <;> rfl
  obtain ⟨A2, C2, w', hrun, r1, r2, r3, r4⟩ : ∃ A2 C2 w', (Builtin.append_ #[t, t] o.type #[.slice A n C, .slice A' m c]).run P w = .ok (.slice A2 (n + m) C2) w' ∧ w'.ownsRow base e size (.slice A2 (n + m) C2) (n + m) (xs ++ news) ∧
      w.grownBy w' (blk A) ∧ (blk A2 = blk A ∨ blk A2 = some w.heap.size) ∧ (A2 = none → A = none ∧ m = 0) := by
    by_cases hm0 : m = 0
    · subst hm0
      have hn : news = [] := List.eq_nil_of_length_eq_zero (by rw [hr.1]; simp)
      subst hn
      refine ⟨A, C, w, ?_, by simpa using hown, World.grownBy.refl w _, .inl rfl, fun e => ⟨e, rfl⟩⟩
      rcases hown.2 with ⟨hv, rfl⟩ | ⟨g, cap, cur, hv, _, hg, hnc, _⟩
      · injection hv with e1 _ e3
        subst e1 e3
        cases A' <;> simp [Builtin.append_, run_underlying ht, sizeOf, typeInfo, hi, Builtin.lenOf, Builtin.firstCells, loadCells, loadCellsFrom]
      · injection hv with e1 _ e3
        subst e1 e3
        cases A' <;> simp [Builtin.append_, run_underlying ht, sizeOf, typeInfo, hi, Builtin.lenOf, Builtin.firstCells, hnc, storeCells, loadCells, loadCellsFrom]
    · obtain ⟨b, off, rfl, hb, hc⟩ := hr.at_ (by omega)
      obtain ⟨v', w', hrun, h2, h3, h4, h5⟩ := run_append_own_at (P := P) w base t o.type e i z size bytes ht hi hz hsize hby hzs hsz _ n xs hown ⟨b, off, none⟩ m c news hr.1 (fun j u hu => by rw [add_at]; exact hc j u hu) h1 h63 hbytes hbase
      obtain ⟨g, cap, rfl, _, _⟩ := h2.form (by omega)
      rw [hob] at h3
      rw [hob, hob] at h5
      exact ⟨_, _, w', hrun, h2, h3, h5, fun e => by cases e⟩
  unfold Oper.wp execOp
  simp only [ho, resolve, invoke, builtin, Sem.run_bind, Sem.run_pure, Result.andThen_ok, List.map_toArray, List.map_cons, List.map_nil, hs, hx, hrun]
  exact h A2 C2 w' r1 r2 r3 r4

theorem wpList_append_row {P : Program} (w : World) {ops : Array Oper} {rest : List Oper} {o : Oper} {a : Act} {Q : Exit → Act → World → Prop} (hgd : Region.wanted o (yielded ops a.tmps) = true) (s x : Operand) (t : TypeId)
    (ho : o.op = .call { callee := .builtin .append, args := #[s, x], argTypes := #[t, t] })
    (base : Nat) (e : TypeId) (i : TypeInfo) (z : Value) (size bytes : Nat) (ht : P.underlying t = some (.slice e)) (hi : P.info? e = some i) (hz : i.zero = some z)
    (hsize : i.size = size) (hby : i.bytes = bytes) (hzs : z.cells.size = size) (hsz : 0 < size)
    (A : Option Addr) (n C : Nat) (xs : List Value) (hs : a.eval s = .slice A n C) (hown : w.ownsRow base e size (.slice A n C) n xs)
    (A' : Option Addr) (m c : Nat) (news : List Value) (hx : a.eval x = .slice A' m c) (hr : Row w size A' m c news) (h1 : ∀ u ∈ news, u.oneCell' = true)
    (h63 : n + m ≤ maxLen) (hbytes : (n + m) * bytes ≤ 140737488355328) (hbase : base ≤ w.heap.size)
    (h : ∀ A2 C2 w', w'.ownsRow base e size (.slice A2 (n + m) C2) (n + m) (xs ++ news) → w.grownBy w' (blk A) → (blk A2 = blk A ∨ blk A2 = some w.heap.size) → (A2 = none → A = none ∧ m = 0) → wpList P ops Q rest (a.put o.dst (.slice A2 (n + m) C2)) w') :
    wpList P ops Q (o :: rest) a w := by
  refine wpList_step fun K hK => ?_
  rw [if_pos hgd]
  exact wp_append_row w s x t ho base e i z size bytes ht hi hz hsize hby hzs hsz A n C xs hs hown A' m c news hx hr h1 h63 hbytes hbase fun A2 C2 w' r1 r2 r3 r4 => hK _ _ (h A2 C2 w' r1 r2 r3 r4)

theorem step_append_row {P : Program} (w : World) {ops : Array Oper} {o : Oper} {a : Act} {K : Act → World → Prop} {Q : Exit → Act → World → Prop} {E : Prop} (hgd : Region.wanted o (yielded ops a.tmps) = true) (s x : Operand) (t : TypeId)
    (ho : o.op = .call { callee := .builtin .append, args := #[s, x], argTypes := #[t, t] })
    (base : Nat) (e : TypeId) (i : TypeInfo) (z : Value) (size bytes : Nat) (ht : P.underlying t = some (.slice e)) (hi : P.info? e = some i) (hz : i.zero = some z)
    (hsize : i.size = size) (hby : i.bytes = bytes) (hzs : z.cells.size = size) (hsz : 0 < size)
    (A : Option Addr) (n C : Nat) (xs : List Value) (hs : a.eval s = .slice A n C) (hown : w.ownsRow base e size (.slice A n C) n xs)
    (A' : Option Addr) (m c : Nat) (news : List Value) (hx : a.eval x = .slice A' m c) (hr : Row w size A' m c news) (h1 : ∀ u ∈ news, u.oneCell' = true)
    (h63 : n + m ≤ maxLen) (hbytes : (n + m) * bytes ≤ 140737488355328) (hbase : base ≤ w.heap.size)
    (h : ∀ A2 C2 w', w'.ownsRow base e size (.slice A2 (n + m) C2) (n + m) (xs ++ news) → w.grownBy w' (blk A) → (blk A2 = blk A ∨ blk A2 = some w.heap.size) → (A2 = none → A = none ∧ m = 0) → K (a.put o.dst (.slice A2 (n + m) C2)) w') :
    if Region.wanted o (yielded ops a.tmps) = true then Oper.wp P o a w K Q else E := by
  rw [if_pos hgd]
  exact wp_append_row w s x t ho base e i z size bytes ht hi hz hsize hby hzs hsz A n C xs hs hown A' m c news hx hr h1 h63 hbytes hbase h

/-- a callee that leaves the world alone, inside a quiet region -/
theorem quiet_same {P : Program} {f : FuncId} {args : Array Value} {w : World} {n : Nat} {v : Value}
    (h : Calls P f args (w.drewN n) fun e w' => e = .returned v ∧ w.drewN n = w') : Calls P f args (w.drewN n) fun e w'' => e = .returned v ∧ ∃ m, w'' = w.drewN m :=
  h.mono fun _ _ ⟨he, hm⟩ => ⟨he, n, hm.symm⟩
theorem drewN_below {B : Nat} {w w' : World} (h : ∃ n, w' = w.drewN n) : Below B w w' := by
  obtain ⟨n, rfl⟩ := h
  exact ⟨rfl, rfl, rfl, Nat.le_refl _, fun _ _ => rfl⟩
theorem row_new (w : World) (cs : Array Value) (e : TypeId) : Row (w.alloc (.cells cs e)) 1 (some ⟨w.heap.size, 0, none⟩) cs.size cs.size cs.toList ∨ maxLen < cs.size := by
  by_cases h : cs.size ≤ maxLen
  · refine .inl ⟨by simp, Nat.le_refl _, h, fun h => by simp at h, fun _ => ⟨w.heap.size, 0, rfl, by simp, fun i u hu => ?_⟩⟩
    simpa using hu
  · exact .inr (by omega)
theorem row_one (w : World) (v : Value) (e : TypeId) : Row (w.alloc (.cells #[v] e)) 1 (some ⟨w.heap.size, 0, none⟩) 1 1 [v] := by
  rcases row_new w #[v] e with h | h
  · exact h
  · simp [maxLen] at h

theorem row_two (w : World) (u v : Value) (e : TypeId) : Row (w.alloc (.cells #[u, v] e)) 1 (some ⟨w.heap.size, 0, none⟩) 2 2 [u, v] := by
  rcases row_new w #[u, v] e with h | h
  · exact h
  · simp [maxLen] at h

theorem ret_u8 {a b : Int} (h : a = b) : Ending.returned (.int .u8 a) = .returned (.int .u8 b) := by rw [h]
theorem ret_i64 {a b : Int} (h : a = b) : Ending.returned (.int .i64 a) = .returned (.int .i64 b) := by rw [h]
theorem ret_bool {a b : Bool} (h : a = b) : Ending.returned (.bool a) = .returned (.bool b) := by rw [h]
theorem u8_get {xs : List UInt8} {k : Nat} (h : k < xs.length) : (xs.map u8v)[k]? = some (.int .u8 ((xs[k]).toNat : Int)) := by
  simp [u8v, List.getElem?_eq_getElem h]

theorem toNat_beq (x y : UInt8) : (((x.toNat : Int)) == ((y.toNat : Int))) = decide (x = y) := by
  rw [Bool.eq_iff_iff]; simp [← UInt8.toNat_inj]; omega

theorem bounds_i64 {a : Int} (h : (Lit.int .i64 a).wf = true) : -9223372036854775808 ≤ a ∧ a ≤ 9223372036854775807 := by
  simpa [Lit.wf, IntKind.min, IntKind.max, IntKind.signed, IntKind.bits] using h
theorem byte_of {a : Int} (h : (Lit.int .u8 a).wf = true) : ∃ x : UInt8, a = (x.toNat : Int) := by
  have hx : 0 ≤ a ∧ a ≤ 255 := by simpa [Lit.wf, IntKind.min, IntKind.max, IntKind.signed, IntKind.bits] using h
  refine ⟨UInt8.ofNat a.toNat, ?_⟩
  simp [UInt8.toNat_ofNat']
  omega
theorem u8_xor_go (x y : UInt8) : bits .xor .u8 (x.toNat : Int) (y.toNat : Int) = ((x ^^^ y).toNat : Int) := by
  rw [u8_xor_nat _ _ (UInt8.toNat_lt _) (UInt8.toNat_lt _), UInt8.toNat_xor]

theorem number_nat (a : Int) (m : Nat) (h : 0 < m) : ∃ k : Nat, k < m ∧ a % (m : Int) = k := by
  have e1 := Int.emod_nonneg a (show (m : Int) ≠ 0 by omega)
  have e2 := Int.emod_lt_of_pos a (show 0 < (m : Int) by omega)
  exact ⟨(a % (m : Int)).toNat, by omega, by omega⟩

theorem below_grown {B : Nat} {w w1 w' : World} {A : Option Addr} {base : Nat} {e : TypeId} {sz n cap : Nat} {xs : List Value} (h : Below B w w1) (hown : w1.ownsRow base e sz (.slice A n cap) n xs) (hB : B ≤ base) (hBw : B ≤ w1.heap.size) (hg : w1.grownBy w' (blk A)) : Below B w w' := by
  refine h.grown hg hBw fun k hk => ?_
  have := hown.lt k (by rw [← hk]; cases A <;> rfl)
  omega

/-- integers between 0 and 255 as bytes -/
theorem bytes_of {zs : List Int} (h : ∀ n ∈ zs, (Lit.int .u8 n).wf = true) : zs.map (Value.int .u8) = (zs.map fun n => UInt8.ofNat n.toNat).map u8v := by
  rw [List.map_map]
  apply List.map_congr_left
  intro n hn
  have hx : 0 ≤ n ∧ n ≤ 255 := by simpa [Lit.wf, IntKind.min, IntKind.max, IntKind.signed, IntKind.bits] using h n hn
  simp only [Function.comp, u8v]
  congr 1
  simp [UInt8.toNat_ofNat']
  omega

theorem below_drewN {B : Nat} {w : World} (n : Nat) : Below B w (w.drewN n) := ⟨rfl, rfl, rfl, Nat.le_refl _, fun _ _ => rfl⟩

end Go.Proofs.YtoagmehgiaamlaaDoor
