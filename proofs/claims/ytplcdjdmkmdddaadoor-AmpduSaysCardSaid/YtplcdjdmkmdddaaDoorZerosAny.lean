/-
  append(b, make([]byte, m)...), m zero or not.
-/
import Derived.Test.YtplcdjdmkmdddaaDoorZeros
namespace Go.Proofs.YtplcdjdmkmdddaaDoor
open Go.ChangeShapes Go.WideShapes Go.ChangeAt Go.RowKit
set_option linter.unusedVariables false

theorem run_zeros_none (w : World) (ty : TypeId) (A : Option Addr) (n C : Nat) (hn : n ≤ C) (k : IntKind) (hnil : A = none → n = 0 ∧ C = 0) :
    (Builtin.append_ #[25, 3] ty #[.slice A n C, .int k 0]).run Tryd.prog w = .ok (.slice A n C) w := by
  obtain ⟨i, hi, hz, hsz, hby⟩ := info_parts info_u8
  have hw : IntKind.i64.wrap (0 : Int) = 0 := by decide
  cases A with
  | none => obtain ⟨rfl, rfl⟩ := hnil rfl; simp [Builtin.append_, run_underlying Tryd.underlying25, run_underlying Tryd.underlying3, sizeOf, typeInfo, zeroValue, hi, hz, hsz, hby, asInt, asIntOf, hw]
  | some a => simp [Builtin.append_, run_underlying Tryd.underlying25, run_underlying Tryd.underlying3, sizeOf, typeInfo, zeroValue, hi, hz, hsz, hby, asInt, asIntOf, hw, hn, storeCells]

theorem list_zeros_any (w : World) {ops : Array Oper} {rest : List Oper} {o : Oper} {a : Act} {Q : Exit → Act → World → Prop} (hgd : Region.wanted o (yielded ops a.tmps) = true) (s x : Operand)
    (ho : o.op = .call { callee := .builtin .append, args := #[s, x], argTypes := #[25, 3] })
    (base : Nat) (A : Option Addr) (n C : Nat) (xs : List UInt8) (hs : a.eval s = .slice A n C) (hown : OwnU8 w base A n C xs)
    (k : IntKind) (m : Nat) (hx : a.eval x = .int k m) (hm2 : m ≤ 1048576) (hn0 : 0 < m → 0 < n) (hn : n ≤ 1048576) (hbase : base ≤ w.heap.size)
    (h : ∀ A2 C2 w', OwnU8 w' base A2 (n + m) C2 (xs ++ List.replicate m 0) → Below base w w' → wpList Tryd.prog ops Q rest (a.put o.dst (.slice A2 (n + m) C2)) w') :
    wpList Tryd.prog ops Q (o :: rest) a w := by
  rcases Nat.eq_zero_or_pos m with rfl | hm
  · refine wpList_step fun K hK => ?_
    rw [if_pos hgd]
    refine Lib.wp_append_run w s x _ _ ho _ _ hs hx _ _ (run_zeros_none w o.type A n C ?_ k ?_) (hK _ _ (h A C w (by simpa using hown) (Below.refl _ _)))
    · exact hown.row.len_cap.1
    · rintro rfl
      unfold OwnU8 at hown
      rcases hown.2 with ⟨hv, hl⟩ | ⟨g, cap, cur, hv, _⟩
      · injection hv with e1 e2 e3; exact ⟨e2, e3⟩
      · injection hv with e1; cases e1
  · refine list_zeros_u8 w hgd s x ho base A n C xs hs hown k m hx hm hm2 (hn0 hm) hn hbase fun A2 C2 w' h1 h2 h3 => h A2 C2 w' h1 ?_
    exact below_grown (Below.refl _ _) hown (Nat.le_refl _) hbase h2
end Go.Proofs.YtplcdjdmkmdddaaDoor
