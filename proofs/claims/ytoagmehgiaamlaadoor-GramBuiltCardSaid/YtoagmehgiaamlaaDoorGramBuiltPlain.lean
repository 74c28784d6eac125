/-
  GramBuilt in plain Lean; what its loop holds.
-/
import Derived.Test.YtoagmehgiaamlaaDoorGramRun
import Derived.Test.YtoagmehgiaamlaaDoorSameInts
namespace Go.Proofs.YtoagmehgiaamlaaDoor
open Go.ChangeShapes Go.WideShapes Go.ChangeAt Go.RowKit
set_option linter.unusedVariables false

def qsum (zs : List Int) : Nat → Nat
  | 0 => 0
  | j + 1 => qsum zs j + ((zs.getD j 0) % 3).toNat + 1
theorem qsum_le (zs : List Int) : ∀ j, qsum zs j ≤ 3 * j := by
  intro j
  induction j with
  | zero => exact Nat.le_refl _
  | succ j ih =>
    have := Int.emod_lt_of_pos (zs.getD j 0) (show (0 : Int) < 3 by omega)
    unfold qsum
    omega
def bRun (start : Int) (zs : List Int) (more eosp : Bool) : RunP := ⟨5, start, qsum zs, more, eosp, fun j => [UInt8.ofNat j]⟩
theorem bRun_ok {start : Int} {zs : List Int} {more eosp : Bool} {N : Nat} (s0 : 0 ≤ start) (s1 : start < 4096) (hN : N ≤ 20) : RunOk (bRun start zs more eosp) N :=
  ⟨by show (0 : Int) ≤ 5; decide, by show (5 : Int) < 8; decide, s0, s1, fun j hj => by have := qsum_le zs j; show qsum zs j < 64; omega, fun j hj => by show qsum zs j < qsum zs j + _ + 1; omega, fun j hj => by show (1 : Nat) ≤ 1500; omega⟩
def badB (r : RunP) (bad how : Nat) : List UInt8 :=
  if how = 0 then frameB (adr2 2 3) (adr2 2 1) (adr2 2 1) r.tid (seqAt r bad) false r.more r.eosp (r.body bad)
  else if how = 1 then frameB (adr2 2 2) (adr2 2 1) (adr2 2 1) r.tid ((r.start + 64) % 4096) false r.more r.eosp (r.body bad)
  else if how = 2 then frameB (adr2 2 2) (adr2 2 1) (adr2 2 1) r.tid ((r.start + 4095) % 4096) false r.more r.eosp (r.body bad)
  else frameB (adr2 2 2) (adr2 2 2) (adr2 2 1) r.tid (seqAt r bad) false r.more r.eosp (r.body bad)
def xAt (r : RunP) (bad how j : Nat) : List UInt8 := if j = bad then badB r bad how else frAt r j
def badE (how : Nat) : Nat := if how = 1 ∨ how = 2 then 10 else 4
def xL (r : RunP) (bad how N : Nat) : List (List UInt8) := (List.range N).map (xAt r bad how)
theorem xL_len (r : RunP) (bad how N : Nat) : (xL r bad how N).length = N := by simp [xL]
theorem xL_succ (r : RunP) (bad how N : Nat) : xL r bad how (N + 1) = xL r bad how N ++ [xAt r bad how N] := by unfold xL; rw [List.range_succ, List.map_append]; rfl
theorem badB_len (r : RunP) (bad how : Nat) : (badB r bad how).length = 26 + (r.body bad).length := by
  unfold badB
  split
  · exact frame_len _ _ _ _ _ _ _ _ _
  · split
    · exact frame_len _ _ _ _ _ _ _ _ _
    · split
      · exact frame_len _ _ _ _ _ _ _ _ _
      · exact frame_len _ _ _ _ _ _ _ _ _
theorem xAt_len (start : Int) (zs : List Int) (more eosp : Bool) (bad how j : Nat) : (xAt (bRun start zs more eosp) bad how j).length = 27 := by
  unfold xAt
  split
  · exact badB_len _ _ _
  · exact fr_len _ _
theorem xL_mem {start : Int} {zs : List Int} {more eosp : Bool} {bad how N : Nat} {x : List UInt8} (h : x ∈ xL (bRun start zs more eosp) bad how N) : x.length = 27 := by
  obtain ⟨j, _, rfl⟩ := List.mem_map.1 h
  exact xAt_len _ _ _ _ _ _ _
theorem xL_fine {r : RunP} {bad how N : Nat} (h : N ≤ bad) : xL r bad how N = (List.range N).map (frAt r) := by
  unfold xL
  refine List.map_congr_left fun j hj => ?_
  unfold xAt
  rw [if_neg (by have := List.mem_range.1 hj; omega)]
theorem xL_bad {r : RunP} {bad how N : Nat} (h : bad < N) : ∃ rest, xL r bad how N = (List.range bad).map (frAt r) ++ badB r bad how :: rest := by
  obtain ⟨k, rfl⟩ : ∃ k, N = bad + (k + 1) := ⟨N - bad - 1, by omega⟩
  refine ⟨((List.range k).map (fun j => bad + (j + 1))).map (xAt r bad how), ?_⟩
  rw [← xL_fine (r := r) (how := how) (Nat.le_refl bad)]
  unfold xL
  rw [List.range_add, List.map_append, List.range_succ_eq_map]
  simp only [List.map_cons, List.map_map, Nat.add_zero]
  congr 2
  unfold xAt
  rw [if_pos rfl]
section
variable {start : Int} {zs : List Int} {more eosp : Bool} {bad how N : Nat} (s0 : 0 ≤ start) (s1 : start < 4096) (h0 : 0 < N) (hN : N ≤ 20)
theorem xL_good : goodL (xL (bRun start zs more eosp) bad how N) := fun x hx => by have := xL_mem hx; omega
include h0 in
theorem xL_ne : xL (bRun start zs more eosp) bad how N ≠ [] := by intro e; have := xL_len (bRun start zs more eosp) bad how N; rw [e] at this; simp at this; omega
include hN in
theorem xL_bound : (packP (xL (bRun start zs more eosp) bad how N)).length ≤ 700 := by
  have h1 := pack_bound (xL (bRun start zs more eosp) bad how N) 27 (fun x hx => by have := xL_mem hx; omega)
  rw [xL_len] at h1
  omega
include h0 hN in
theorem xL_packR : packR (xL (bRun start zs more eosp) bad how N) = .ok (packP (xL (bRun start zs more eosp) bad how N)) :=
  packR_yes xL_good (xL_ne h0) (by rw [xL_len]; omega) (by have := xL_bound (start := start) (zs := zs) (more := more) (eosp := eosp) (bad := bad) (how := how) hN; omega)
include h0 hN in
theorem xL_parts : partsP (packP (xL (bRun start zs more eosp) bad how N)) = .ok (xL (bRun start zs more eosp) bad how N) :=
  parts_pack xL_good (xL_ne h0) (by rw [xL_len]; omega) (by have := xL_bound (start := start) (zs := zs) (more := more) (eosp := eosp) (bad := bad) (how := how) hN; omega)
abbrev mS (start size : Int) (session : Bool) : RulesP := rulesS start size 65535 54840 (adr2 2 2) ht7 session
theorem mS_keeps (size : Int) (session : Bool) : KeepsR (mS start size session) (bRun start zs more eosp) := ⟨rfl, rfl, rfl⟩
include s0 s1 in
theorem bad_reads (hb : bad < 20) (how : Nat) : ∃ d s t q, rdErr (badB (bRun start zs more eosp) bad how) = none ∧ partG (mS start 64 true) (uread (badB (bRun start zs more eosp) bad how)) (lastK (bRun start zs more eosp) bad) = some (badE how) ∧ (d, s, t, q) = ((adr2 2 2), (adr2 2 2), (adr2 2 2), (0 : Int)) := by
  have hok := bRun_ok (zs := zs) (more := more) (eosp := eosp) (N := 20) s0 s1 (Nat.le_refl _)
  have hq : ∀ q : Int, 0 ≤ q → q < 4096 → qok 5 q ((bRun start zs more eosp).body bad).length := fun q h1 h2 => ⟨by decide, by decide, h1, h2, by show (1 : Nat) ≤ 1500; decide⟩
  have hsq : 0 ≤ seqAt (bRun start zs more eosp) bad ∧ seqAt (bRun start zs more eosp) bad < 4096 := by unfold seqAt; omega
  have hlast : ∀ x, lastK (bRun start zs more eosp) bad = some x → x.tid = 5 := by
    intro x hx
    unfold lastK at hx
    split at hx
    · cases hx
    · injection hx with hx
      obtain ⟨_, f', hu', _⟩ := fr_read hok (show bad - 1 < 20 by omega)
      rw [← hx, hu']
      rfl
  refine ⟨_, _, _, _, ?_, ?_, rfl⟩
  · unfold badB
    split
    · exact (frame_read (hq _ hsq.1 hsq.2)).1
    · split
      · exact (frame_read (hq _ (by omega) (by omega))).1
      · split
        · exact (frame_read (hq _ (by omega) (by omega))).1
        · exact (frame_read (hq _ hsq.1 hsq.2)).1
  · unfold badB badE
    split
    · rename_i e
      subst e
      obtain ⟨_, f, hu, hf⟩ := frame_read (d := adr2 2 3) (s := adr2 2 1) (t := adr2 2 1) (r := false) (m := more) (e := eosp) (hq _ hsq.1 hsq.2)
      refine Eq.trans (congrArg (fun u => partG (mS start 64 true) u _) hu) ?_
      refine part_kind (.inl (sameA_no 1 (by decide) ?_))
      show ¬ f 1 = (2 : UInt8)
      rw [hf 1 (by decide)]
      decide
    · split
      · rename_i e
        subst e
        obtain ⟨_, f, hu, hf⟩ := frame_read (d := adr2 2 2) (s := adr2 2 1) (t := adr2 2 1) (r := false) (m := more) (e := eosp) (hq ((start + 64) % 4096) (by omega) (by omega))
        refine Eq.trans (congrArg (fun u => partG (mS start 64 true) u _) hu) ?_
        refine part_seq (fA_d hf) (fA_s hf) (fA_t hf) (fun x hx => (hlast x hx).symm) ?_
        show ¬ ((start + 64) % 4096 - start) % 4096 < 64
        omega
      · split
        · rename_i e
          subst e
          obtain ⟨_, f, hu, hf⟩ := frame_read (d := adr2 2 2) (s := adr2 2 1) (t := adr2 2 1) (r := false) (m := more) (e := eosp) (hq ((start + 4095) % 4096) (by omega) (by omega))
          refine Eq.trans (congrArg (fun u => partG (mS start 64 true) u _) hu) ?_
          refine part_seq (fA_d hf) (fA_s hf) (fA_t hf) (fun x hx => (hlast x hx).symm) ?_
          show ¬ ((start + 4095) % 4096 - start) % 4096 < 64
          omega
        · rename_i e0 e1 e2
          rw [if_neg (by omega)]
          obtain ⟨_, f, hu, hf⟩ := frame_read (d := adr2 2 2) (s := adr2 2 2) (t := adr2 2 1) (r := false) (m := more) (e := eosp) (hq _ hsq.1 hsq.2)
          refine Eq.trans (congrArg (fun u => partG (mS start 64 true) u _) hu) ?_
          refine part_kind (.inr (sameA_no 1 (by decide) ?_))
          show ¬ f (6 + 1) = (1 : UInt8)
          rw [hf 7 (by decide)]
          decide
include s0 s1 h0 hN in
theorem xc_bad (hb : bad < N) : checkP (mS start 64 true) true (packP (xL (bRun start zs more eosp) bad how N)) = .placed (badE how) bad := by
  rw [check_whole rfl (xL_parts h0 hN)]
  obtain ⟨rest, e⟩ := xL_bad (r := bRun start zs more eosp) (how := how) hb
  obtain ⟨_, _, _, _, h1, h2, _⟩ := bad_reads (zs := zs) (more := more) (eosp := eosp) s0 s1 (show bad < 20 by omega) how
  have hs : sentL (mS start 64 true) (xL (bRun start zs more eosp) bad how N) 0 noSent none = .error (badE how, bad) := by
    rw [e]
    exact run_bad (mS_keeps _ _) (by show (64 : Int) ≤ 64; omega) (bRun_ok s0 s1 hN) (by omega) _ _ h1 h2
  exact allR_placed hs
include s0 s1 h0 hN in
theorem xc_fine (hb : N ≤ bad) : checkP (mS start 64 true) true (packP (xL (bRun start zs more eosp) bad how N)) = .fine (sentK (bRun start zs more eosp) N) := by
  rw [check_whole rfl (xL_parts h0 hN)]
  have hbd := xL_bound (start := start) (zs := zs) (more := more) (eosp := eosp) (bad := bad) (how := how) hN
  have hp := ht7_le (n := (packP (xL (bRun start zs more eosp) bad how N)).length) (by omega)
  refine allR_fine ?_ (whole_fine ?_ ?_)
  · rw [xL_fine hb]
    exact run_all (mS_keeps _ _) (by show (64 : Int) ≤ 64; omega) (bRun_ok s0 s1 hN)
  · rw [xL_len]
    rintro (h | h)
    · have : (64 : Int) < (N : Int) := h
      omega
    · have : (65535 : Int) < ((packP (xL (bRun start zs more eosp) bad how N)).length : Int) := h.2
      omega
  · rintro (h | h | h)
    · have : validP ht7 = false := h
      rw [ht7_valid] at this; cases this
    · have : 54840 < ppP ht7 ((packP (xL (bRun start zs more eosp) bad how N)).length : Int) := h
      omega
    · have : 54840 < ppP ht7 ((packP (xL (bRun start zs more eosp) bad how N)).length : Int) := h.2
      omega
include s0 s1 in
theorem xc_first : checkP (mS start 64 true) false (frAt (bRun start zs more eosp) 0) = .fine (sentK (bRun start zs more eosp) 1) := by
  rw [check_single]
  have hl : (frAt (bRun start zs more eosp) 0).length = 27 := fr_len _ _
  have hp := ht7_le (n := 27) (by omega)
  refine allR_fine (run_all (N := 1) (mS_keeps _ _) (by show (64 : Int) ≤ 64; omega) (bRun_ok s0 s1 (by omega))) (whole_fine ?_ ?_)
  · rintro (h | h)
    · have : (64 : Int) < ((1 : Nat) : Int) := h
      omega
    · exact absurd h.1 (by decide)
  · rw [hl]
    rintro (h | h | h)
    · have : validP ht7 = false := h
      rw [ht7_valid] at this; cases this
    · have : 54840 < ppP ht7 ((27 : Nat) : Int) := h
      omega
    · exact absurd h.1 (by decide)
theorem xc_state (start : Int) (P : List UInt8) : checkP (mS start 64 false) true P = .bare 9 := by
  unfold checkP
  rw [if_pos rfl, if_pos (show (mS start 64 false).session = false from rfl)]
include h0 hN in
theorem xc_size (m : RulesP) (hm : m.size = (N : Int) - 1) (hs : m.session = true) : (∃ c i, checkP m true (packP (xL (bRun start zs more eosp) bad how N)) = .placed c i) ∨ checkP m true (packP (xL (bRun start zs more eosp) bad how N)) = .bare 3 := by
  rw [check_whole hs (xL_parts h0 hN)]
  rcases h : sentL m (xL (bRun start zs more eosp) bad how N) 0 noSent none with x | s
  · exact .inl ⟨x.1, x.2, allR_placed h⟩
  · refine .inr (allR_bare h (whole_many (.inl ?_)))
    rw [xL_len, hm]
    omega
end
theorem app_part2 (w : World) {ops : Array Oper} {rest : List Oper} {o : Oper} {a : Act} {Q : Exit → Act → World → Prop} (hgd : Region.wanted o (yielded ops a.tmps) = true) (s x : Operand)
    (ho : o.op = .call { callee := .builtin .append, args := #[s, x], argTypes := #[38, 38] })
    (base : Nat) (A : Option Addr) (n C : Nat) (L : List (List UInt8)) (hn : n = L.length) (hs : a.eval s = .slice A n C) (hown : OwnP w base (.slice A n C) L) (hL : L.length ≤ 2000000)
    (A' : Option Addr) (m C' : Nat) (y : List UInt8) (hm : y.length = m) (hy : OwnU8 w base A' m C' y)
    (X : Option Addr) (c : Nat) (hx : a.eval x = .slice X 1 c) (hr : Row w 1 X 1 c [.slice A' m C']) (hbase : base ≤ w.heap.size)
    (h : ∀ A2 C2 w', OwnP w' base (.slice A2 (n + 1) C2) (L ++ [y]) → Below base w w' → (∀ A1 n1 C1 l1, OwnI w base A1 n1 C1 l1 → OwnI w' base A1 n1 C1 l1) → wpList Tryd.prog ops Q rest (a.put o.dst (.slice A2 (n + 1) C2)) w') : wpList Tryd.prog ops Q (o :: rest) a w := by
  refine wpList_step fun K hK => ?_
  rw [if_pos hgd]
  refine wp_append_part w s x ho base A n C L hn hs hown hL A' m C' y hm hy X c hx hr hbase (fun A2 C2 w' h1 h2 h3 _ h5 => hK _ _ (h A2 C2 w' h1 ⟨h2.os, h2.tape, h2.output, h2.size, fun k hk => h2.block k (by omega) (fun e => ?_)⟩ (fun A1 n1 C1 l1 hh => own_keep hh h2 (h3 3 (by decide) _ _ _ _ _ _ hh))))
  have := h5 k e.symm
  omega
/-- what the loop holds in a round -/
structure BltS (W0 : World) (base pf : Nat) (fc : Array Value) (Ab : Option Addr) (body : List UInt8) (A1 : Option Addr) (n1 C1 : Nat) (l1 : List Int) (A3 : Option Addr) (n3 C3 : Nat) (l3 : List (List UInt8)) (x : World) : Prop where
  f : Blk x pf fc 35
  ob : OwnU8 x base Ab 1 1 body
  o1 : OwnI x base A1 n1 C1 l1
  o3 : OwnP x base (.slice A3 n3 C3) l3
  bel : Below base W0 x
  ge : base ≤ pf
section
variable {W0 x y : World} {base pf : Nat} {fc fc' : Array Value} {Ab : Option Addr} {body : List UInt8} {A1 : Option Addr} {n1 C1 : Nat} {l1 : List Int} {A3 : Option Addr} {n3 C3 : Nat} {l3 : List (List UInt8)}
theorem BltS.below (h : BltS W0 base pf fc Ab body A1 n1 C1 l1 A3 n3 C3 l3 x) (hb : Below x.heap.size x y) : BltS W0 base pf fc Ab body A1 n1 C1 l1 A3 n3 C3 l3 y :=
  ⟨h.f.below hb h.f.lt, h.ob.below hb (Nat.le_refl _), h.o1.below hb (Nat.le_refl _), h.o3.below hb (Nat.le_refl _), h.bel.trans (hb.mono (by have := h.f.lt; have := h.ge; omega)), h.ge⟩
theorem BltS.app1 (h : BltS W0 base pf fc Ab body A1 n1 C1 l1 A3 n3 C3 l3 x) {X1 : Option Addr} {m1 D1 : Nat} {k1 : List Int} (ho : OwnI y base X1 m1 D1 k1) (hg : x.grownBy y (blk A1)) : BltS W0 base pf fc Ab body X1 m1 D1 k1 A3 n3 C3 l3 y := by
  refine ⟨h.f.grown hg (own_ne h.o1 h.f (by decide)), own_keep h.ob hg (own_ne_own h.ob h.o1 (by decide)), ho, ?_, below_grown h.bel h.o1 (Nat.le_refl _) (by have := h.f.lt; have := h.ge; omega) hg, h.ge⟩
  obtain ⟨A, C, vs, e, ho', hp⟩ := h.o3
  refine ⟨A, C, vs, e, own_keep ho' hg (own_ne_own ho' h.o1 (by decide)), fun i' u' x' hu hx => ?_⟩
  obtain ⟨A', C', e', ho2⟩ := hp i' u' x' hu hx
  exact ⟨A', C', e', own_keep ho2 hg (own_ne_own ho2 h.o1 (by decide))⟩
theorem BltS.setf (h : BltS W0 base pf fc Ab body A1 n1 C1 l1 A3 n3 C3 l3 x) (hk : Blk y pf fc' 35) (hg : x.grownBy y (some pf)) : BltS W0 base pf fc' Ab body A1 n1 C1 l1 A3 n3 C3 l3 y :=
  ⟨hk, own_keepB h.ob h.f (by decide) hg, own_keepB h.o1 h.f (by decide) hg, ownP_keepB h.o3 h.f (by decide) (by decide) hg, Below.grown h.bel hg (by have := h.f.lt; have := h.ge; omega) (by intro k hk; injection hk with hk; have := h.ge; omega), h.ge⟩
theorem BltS.set1 (h : BltS W0 base pf fc Ab body A1 n1 C1 l1 A3 n3 C3 l3 x) (i : Nat) (u : Value) (hf : fc.setIfInBounds i u = fc') : BltS W0 base pf fc' Ab body A1 n1 C1 l1 A3 n3 C3 l3 (x.setCell ⟨pf, i, none⟩ u) :=
  h.setf (by rw [← hf]; exact h.f.set_ i u) ⟨rfl, rfl, rfl, by simp [World.setCell], fun k _ hk => Below.heap_setCell x ⟨pf, i, none⟩ u k (by intro e; exact hk (by rw [e]))⟩
end
end Go.Proofs.YtoagmehgiaamlaaDoor
