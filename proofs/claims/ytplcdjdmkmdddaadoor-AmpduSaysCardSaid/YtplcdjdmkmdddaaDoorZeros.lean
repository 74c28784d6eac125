/-
  append(b, make([]byte, m)...): so many zeros behind the bytes of an owned row.
-/
import Derived.Test.YtplcdjdmkmdddaaDoorMem
import Derived.Lib.AppendZeros
namespace Go.Proofs.YtplcdjdmkmdddaaDoor
open Go.ChangeShapes Go.WideShapes Go.ChangeAt Go.RowKit
set_option linter.unusedVariables false

theorem zeros_eq (m : Nat) : (Builtin.zeroCells (Value.int .u8 0).cells m) = ((List.replicate m (0 : UInt8)).map u8v).toArray := by
  apply Array.ext
  · simp [size_zeroCells, Value.cells]
  · intro k h1 h2
    simp [Builtin.zeroCells, u8v, Value.cells, Nat.mod_one]

theorem run_zeros_room {P : Program} (w : World) (t tn ty e : TypeId) (i : TypeInfo) (k kn : IntKind) (ht : P.underlying t = some (.slice e)) (htn : P.underlying tn = some (.int kn)) (hi : P.info? e = some i) (hz : i.zero = some (.int .u8 0))
    (hs1 : i.size = 1) (hb1 : i.bytes = 1)
    (g sLen sCap : Nat) (cur : Array Value) (hg : w.heap[g]? = some (.cells cur e (0, 0))) (m : Nat) (hm : 0 < m) (hm2 : m ≤ 1048576) (hroom : sLen + m ≤ sCap) (hfit : sLen + m ≤ cur.size) :
    (Builtin.append_ #[t, tn] ty #[.slice (some ⟨g, 0, none⟩) sLen sCap, .int k m]).run P w =
      .ok (.slice (some ⟨g, 0, none⟩) (sLen + m) sCap) (w.setRow g (cur.toList.take sLen ++ (List.replicate m (0 : UInt8)).map u8v ++ cur.toList.drop (sLen + m)).toArray) := by
  have hst := run_storeCells_at P g sLen e ((List.replicate m (0 : UInt8)).map u8v) 0 cur w hg (by simpa using hfit) (by simp [u8v, Value.oneCell'])
  simp only [Nat.add_zero] at hst
  have hw : IntKind.i64.wrap (m : Int) = m := by rw [IntKind.wrap_i64]; omega
  have h48i : ¬ (281474976710656 < (m : Int)) := by omega
  have hneg : ¬ ((m : Int) < 0) := by omega
  have hm0 : m ≠ 0 := by omega
  simp [Builtin.append_, run_underlying ht, run_underlying htn, sizeOf, typeInfo, zeroValue, hi, hz, hs1, hb1, asInt, asIntOf, hw, hneg, hm0, h48i, hroom, zeros_eq, Addr.add_lit] at hst ⊢
  rw [hst]
  simp

theorem run_zeros_grow {P : Program} (w : World) (t tn ty e : TypeId) (i : TypeInfo) (k kn : IntKind) (ht : P.underlying t = some (.slice e)) (htn : P.underlying tn = some (.int kn)) (hi : P.info? e = some i) (hz : i.zero = some (.int .u8 0))
    (hs1 : i.size = 1) (hb1 : i.bytes = 1) (b : Addr) (sLen sCap : Nat) (olds : List Value) (hlo : olds.length = sLen) (holds : ∀ j v, olds[j]? = some v → w.cell? (b.add j) = some v)
    (m : Nat) (hm : 0 < m) (hm2 : m ≤ 1048576) (hg : sCap < sLen + m) (hn : sLen ≤ 1048576) :
    (Builtin.append_ #[t, tn] ty #[.slice (some b) sLen sCap, .int k m]).run P w =
      .ok (.slice (some ⟨w.heap.size, 0, none⟩) (sLen + m) (grownCap w (sLen + m) sCap e))
        (w.drew.alloc (.cells (olds.toArray ++ ((List.replicate m (0 : UInt8)).map u8v).toArray ++ Builtin.zeroCells (Value.int .u8 0).cells (grownCap w (sLen + m) sCap e - (sLen + m))) e)) := by
  have hno : ¬ (sLen + m ≤ sCap) := by omega
  have h63' : ¬ (9223372036854775807 < ((sLen : Int) + (m : Int))) := by omega
  have h48' : ¬ (281474976710656 < Builtin.nextslicecap (sLen + m) sCap) := by
    have := growslice_fits (need := sLen + m) (old := sCap) (bytes := 1) (by omega) (by omega)
    omega
  have hfo := run_firstCells_some (P := P) w.drew 1 sLen b sLen sCap olds (by omega) (by simpa using holds)
  have hw : IntKind.i64.wrap (m : Int) = m := by rw [IntKind.wrap_i64]; omega
  have h48i : ¬ (281474976710656 < (m : Int)) := by omega
  have hneg : ¬ ((m : Int) < 0) := by omega
  have hm0 : m ≠ 0 := by omega
  simp [Builtin.append_, run_underlying ht, run_underlying htn, sizeOf, typeInfo, zeroValue, hi, hz, hs1, hb1, asInt, asIntOf, hw, hneg, hm0, h48i, hno, h63', h48', Question.forced, hfo, zeros_eq, newRow, grownCap]

theorem run_zeros_own (w : World) (ty : TypeId) (base : Nat) (A : Option Addr) (n C : Nat) (xs : List UInt8) (hown : OwnU8 w base A n C xs) (k : IntKind) (m : Nat) (hm : 0 < m) (hm2 : m ≤ 1048576) (hn0 : 0 < n) (hn : n ≤ 1048576) (hbase : base ≤ w.heap.size) :
    ∃ A2 C2 w', (Builtin.append_ #[25, 3] ty #[.slice A n C, .int k m]).run Tryd.prog w = .ok (.slice A2 (n + m) C2) w' ∧ OwnU8 w' base A2 (n + m) C2 (xs ++ List.replicate m 0) ∧ w.grownBy w' (blk A) ∧ (blk A2 = blk A ∨ blk A2 = some w.heap.size) := by
  obtain ⟨i, hi, hz, hsz, hby⟩ := info_parts info_u8
  have hlx := hown.len
  have hlen : ((xs ++ List.replicate m 0).map u8v).length = n + m := by simp [hlx]
  unfold OwnU8 at hown ⊢
  rcases hown.2 with ⟨hv, rfl⟩ | ⟨g, cap, cur, hv, hbg, hg, hnc, hcm, hcs, htake⟩
  · omega
  · injection hv with e1 e2 e3
    subst e1 e3
    have hcs : cur.size = C := by omega
    by_cases hroom : n + m ≤ C
    · have hr := run_zeros_room (P := Tryd.prog) w 25 3 ty 5 i k _ Tryd.underlying25 Tryd.underlying3 hi hz hsz hby g n C cur hg m hm hm2 hroom (by omega)
      refine ⟨_, _, _, hr, ⟨by rw [hlen, Nat.mul_one], .inr ⟨g, C, _, rfl, hbg, setRow_heap w g cur _ _ _ hg, hroom, hcm, ?_, ?_⟩⟩, ⟨rfl, rfl, rfl, by simp, fun k _ hk => setRow_other w g k _ (fun e => hk (by simp [blk, e]))⟩, Or.inl rfl⟩
      · simp
        omega
      · simp only [Nat.mul_one] at htake ⊢
        rw [htake, ← hlen, List.map_append]
        exact List.take_left
    · have holds : ∀ j u, (xs.map u8v)[j]? = some u → w.cell? ((⟨g, 0, none⟩ : Addr).add j) = some u := hown.cells (g := g) rfl
      have hr := run_zeros_grow (P := Tryd.prog) w 25 3 ty 5 i k _ Tryd.underlying25 Tryd.underlying3 hi hz hsz hby ⟨g, 0, none⟩ n C (xs.map u8v) (by simp [hlx]) holds m hm hm2 (by omega) hn
      have hge := grownCap_ge w (n + m) C 5
      have hcm' : grownCap w (n + m) C 5 ≤ maxLen := grownCap_le_maxLen w (n + m) C 5 (by unfold maxLen; omega)
      refine ⟨_, _, _, hr, ⟨by rw [hlen, Nat.mul_one], .inr ⟨w.heap.size, _, _, rfl, hbase, heap_alloc_new w.drew _, hge, hcm', ?_, ?_⟩⟩, ⟨rfl, rfl, rfl, by simp, fun k hk _ => heap_alloc_old w.drew _ hk⟩, Or.inr rfl⟩
      · simp [size_zeroCells, Value.cells, hlx]
        omega
      · simp only [Array.toList_append, Nat.mul_one, ← hlen, List.map_append]
        exact List.take_left

theorem step_zeros_u8 (w : World) {ops : Array Oper} {o : Oper} {a : Act} {K : Act → World → Prop} {Q : Exit → Act → World → Prop} {E : Prop} (hgd : Region.wanted o (yielded ops a.tmps) = true) (s x : Operand)
    (ho : o.op = .call { callee := .builtin .append, args := #[s, x], argTypes := #[25, 3] })
    (base : Nat) (A : Option Addr) (n C : Nat) (xs : List UInt8) (hs : a.eval s = .slice A n C) (hown : OwnU8 w base A n C xs)
    (k : IntKind) (m : Nat) (hx : a.eval x = .int k m) (hm : 0 < m) (hm2 : m ≤ 1048576) (hn0 : 0 < n) (hn : n ≤ 1048576) (hbase : base ≤ w.heap.size)
    (h : ∀ A2 C2 w', OwnU8 w' base A2 (n + m) C2 (xs ++ List.replicate m 0) → w.grownBy w' (blk A) → (blk A2 = blk A ∨ blk A2 = some w.heap.size) → K (a.put o.dst (.slice A2 (n + m) C2)) w') :
    if Region.wanted o (yielded ops a.tmps) = true then Oper.wp Tryd.prog o a w K Q else E := by
  rw [if_pos hgd]
  obtain ⟨A2, C2, w', hr, h1, h2, h3⟩ := run_zeros_own w o.type base A n C xs hown k m hm hm2 hn0 hn hbase
  exact Lib.wp_append_run w s x _ _ ho _ _ hs hx _ _ hr (h A2 C2 w' h1 h2 h3)

theorem list_zeros_u8 (w : World) {ops : Array Oper} {rest : List Oper} {o : Oper} {a : Act} {Q : Exit → Act → World → Prop} (hgd : Region.wanted o (yielded ops a.tmps) = true) (s x : Operand)
    (ho : o.op = .call { callee := .builtin .append, args := #[s, x], argTypes := #[25, 3] })
    (base : Nat) (A : Option Addr) (n C : Nat) (xs : List UInt8) (hs : a.eval s = .slice A n C) (hown : OwnU8 w base A n C xs)
    (k : IntKind) (m : Nat) (hx : a.eval x = .int k m) (hm : 0 < m) (hm2 : m ≤ 1048576) (hn0 : 0 < n) (hn : n ≤ 1048576) (hbase : base ≤ w.heap.size)
    (h : ∀ A2 C2 w', OwnU8 w' base A2 (n + m) C2 (xs ++ List.replicate m 0) → w.grownBy w' (blk A) → (blk A2 = blk A ∨ blk A2 = some w.heap.size) → wpList Tryd.prog ops Q rest (a.put o.dst (.slice A2 (n + m) C2)) w') :
    wpList Tryd.prog ops Q (o :: rest) a w := by
  refine wpList_step fun K hK => ?_
  exact step_zeros_u8 w hgd s x ho base A n C xs hs hown k m hx hm hm2 hn0 hn hbase fun A2 C2 w' h1 h2 h3 => hK _ _ (h A2 C2 w' h1 h2 h3)
end Go.Proofs.YtplcdjdmkmdddaaDoor
