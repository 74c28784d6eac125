/-
  Chapter 16's laws: what they share: their first, seqs; a session that goes on, and what lies outside of it.
-/
import Derived.Test.YthjjneanabnjoaaDoorBaOps2
import Derived.Test.YthjjneanabnjoaaDoorBaFreshOk
import Derived.Test.YthjjneanabnjoaaDoorBaWentOk
import Derived.Test.YthjjneanabnjoaaDoorBaHeard
import Derived.Test.YthjjneanabnjoaaDoorBaSweep
namespace Go.Proofs.YthjjneanabnjoaaDoor
open Go.ChangeShapes Go.WideShapes Go.ChangeAt Go.RowKit
set_option linter.unusedVariables false

/-- a session that the call made -/
structure Ss (w : World) (base B : Nat) (p : BP) (s : BS) : Prop where
  bs : Bs w base B p s
  hB : base ≤ B
  hW : base ≤ p.W
section
variable {w w' : World} {base B : Nat} {p : BP} {s s' : BS}
theorem Ss.ge (h : Ss w base B p s) : ∀ k, bsS B p s k → base ≤ k ∧ k < w.heap.size := h.bs.ge h.hB h.hW
theorem Ss.bas (h : Ss w base B p s) : base ≤ w.heap.size := Nat.le_trans h.hB (Nat.le_of_lt h.bs.lt)
theorem Ss.below {D : Nat} (h : Ss w base B p s) (hb : Below D w w') (hD : w.heap.size ≤ D) : Ss w' base B p s := ⟨h.bs.below hb hD, h.hB, h.hW⟩
theorem Ss.alloc (h : Ss w base B p s) (o : Obj) : Ss (w.alloc o) base B p s := ⟨h.bs.alloc o, h.hB, h.hW⟩
theorem Ss.drewN (h : Ss w base B p s) (n : Nat) : Ss (w.drewN n) base B p s := ⟨h.bs.drewN n, h.hB, h.hW⟩
theorem Ss.step (h : Ss w base B p s) (hs : BStep w w' base B p s s') : ∃ p', Ss w' base B p' s' ∧ Below base w w' ∧ Touch (bsS B p s) w w' ∧ ∀ k, bsS B p' s' k → bsS B p s k ∨ w.heap.size ≤ k := by
  obtain ⟨p', h1, h2, h3⟩ := hs
  refine ⟨p', ⟨h1, h.hB, ?_⟩, h2.below (fun k hk => (h.ge k hk).1) h.bas, h2, h3⟩
  rcases h3 p'.W (.inr (.inl rfl)) with h4 | h4
  · exact (h.ge _ h4).1
  · exact Nat.le_trans h.bas h4
/-- a block that is another's stays so, and as it is -/
theorem Blk.outside (h : Ss w base B p s) {p' : BP} {k : Nat} {cs : Array Value} {t : TypeId} (hk : Blk w k cs t) (hn : ¬ bsS B p s k) (ht : Touch (bsS B p s) w w') (hf : ∀ k, bsS B p' s' k → bsS B p s k ∨ w.heap.size ≤ k) : Blk w' k cs t ∧ ¬ bsS B p' s' k := by
  refine ⟨hk.touch ht hn, fun hx => ?_⟩
  rcases hf k hx with h1 | h1
  · exact hn h1
  · have := hk.lt; omega
end
theorem ss_new {w w' : World} {size retry life : Int} {e : Ending} (h : NewR w size retry life e w') : ∃ B p, e = .returned (.tuple #[.pointer (some ⟨B, 0, none⟩), .nilIface]) ∧ Ss w' w.heap.size B p (newS size retry life) ∧ Below w.heap.size w w' := by
  obtain ⟨B, p, he, h1, h2, h3, h4⟩ := h
  exact ⟨B, p, he, ⟨h1, h2, h3⟩, h4⟩
/-- a packet of a number, without bytes -/
def pk (id : Int) : Mp := ⟨id, 0, 0, 0, [], 0, 0, 0⟩
theorem pk_row (w : World) (id : Int) : Row w 1 none (pk id).body.length 0 ((pk id).body.map u8v) := row_nil w 1
set_option maxHeartbeats 1600000 in
theorem bfirst_any (w : World) : Calls Tryd.prog 9 #[] w fun e w' => e = .returned (.bool true) ∧ Below w.heap.size w w' := by
  go_enter Tryd.func9, Tryd.ntmps9
  go_wp2_with fail
  refine (bnew_ok 8 3 100 w (by decide) (by decide) (by decide) (by decide) (by decide) (by decide)).mono ?_
  rintro e w1 hnew
  obtain ⟨B, p, rfl, hS, hb⟩ := ss_new hnew
  have HS := Lib.hid hS
  have HB := Lib.hid hb
  clear hS hb hnew
  go_wp2_with fail
  refine (bstate_any HS.out.bs).mono ?_
  rintro e w2 ⟨rfl, rfl⟩
  rw [show (newS 8 3 100).state = 1 from rfl]
  go_wp2_with fail
  refine (broom_any HS.out.bs (by decide) (by decide)).mono ?_
  rintro e w2 ⟨rfl, n, rfl⟩
  rw [show room (newS 8 3 100).w = 1 by decide]
  go_wp2_with fail
  go_ret
  exact ⟨rfl, HB.out.trans (below_drewN n)⟩
set_option maxHeartbeats 1600000 in
theorem seqs_any (A : Option Addr) (n C base : Nat) (L : List Md) (w : World) (h : OwnM w base A n C L) (hn : n ≤ 1000000) :
    Calls Tryd.prog 21 #[.slice A n C] w (GivesI w (L.map (·.m.seq))) := by
  have hL := h.len
  have H := Lib.hid h
  clear h
  go_enter Tryd.func21, Tryd.ntmps21
  go_wp2_with fail
  go_loopw [3, 4] (fun ov iv wr => ∃ (k : Nat) (A2 : Option Addr) (C2 : Nat), k ≤ n ∧ iv = .int .i64 k ∧ ov = .slice A2 k C2 ∧ OwnI wr w.heap.size A2 k C2 ((L.take k).map (·.m.seq)) ∧ Below w.heap.size w wr) (fun _ iv _ => n - (intOf iv).toNat)
  case atStart => exact ⟨0, none, 0, Nat.zero_le _, rfl, rfl, ownI_nil _ _, Below.refl _ _⟩
  case round =>
    obtain ⟨k, A2, C2, hk, rfl, rfl, ho, hb⟩ := hrel
    have HO := Lib.hid ho
    have HB := Lib.hid hb
    have hs := hb.size
    clear ho hb
    by_cases hkn : k < n
    · obtain ⟨g, rfl, hg1, hg2, hC, hat⟩ := H.out.at_ (by omega)
      obtain ⟨x, hx⟩ : ∃ x, L[k]? = some x := ⟨_, List.getElem?_eq_getElem (by rw [hL]; exact hkn)⟩
      have c5 : wr.cell? ⟨g, k * 8 + 5, none⟩ = some (.int .i64 x.m.seq) := (HB.out.cell (p := ⟨g, k * 8 + 5, none⟩) hg2).trans (hat k x hx 5 _ rfl)
      have HSN := Lib.hid (show (L.take (k + 1)).map (·.m.seq) = (L.take k).map (·.m.seq) ++ [x.m.seq] by
        obtain ⟨hk, e⟩ := List.getElem?_eq_some_iff.1 hx
        rw [List.take_succ_eq_append_getElem hk, List.map_append, e]; rfl)
      generalize x.m.seq = z at *
      have HN := Lib.hid (HB.out.alloc hs (.cells #[.int .i64 z] 3))
      clear hat hx
      go_wp2_with (at_builtin; refine append_int _ rfl (.tmp 11) (.tmp 17) rfl w.heap.size A2 k C2 _ rfl (HO.out.alloc _) _ 1 1 [z] rfl (row_int1' _ _ _ _ (by simp)) (by omega) (by simp; omega) ?_; intro A5 C5 w5 ho5 hg5 _; have HO5 := Lib.hid ho5; have HB5 := Lib.hid (below_grown HN.out (HO.out.alloc _) (Nat.le_refl _) (by simp; omega) hg5); clear ho5 hg5)
      go_roundw
      case rel => exact ⟨k + 1, A5, C5, by omega, by go_num, rfl, by rw [HSN.out]; exact HO5.out, HB5.out⟩
      case measure => simp [intOf]; omega
    · have hke : k = n := by omega
      have HF := Lib.hid (show (L.take k).map (·.m.seq) = L.map (·.m.seq) by rw [hke, ← hL, List.take_length])
      clear hke
      rw [HF.out] at HO
      go_wp2_with fail
      go_ret
      exact ⟨A2, k, C2, rfl, HO.out, HB.out⟩
end Go.Proofs.YthjjneanabnjoaaDoor
