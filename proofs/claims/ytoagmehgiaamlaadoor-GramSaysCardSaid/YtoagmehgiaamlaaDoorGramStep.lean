/-
  Fields of a struct in its block: loads and stores of some cells.
-/
import Derived.Test.YtoagmehgiaamlaaDoorCheckAny
namespace Go.Proofs.YtoagmehgiaamlaaDoor
open Go.ChangeShapes Go.WideShapes Go.ChangeAt Go.RowKit
set_option linter.unusedVariables false

def setL (old : Array Value) : Nat → List Value → Array Value
  | _, [] => old
  | o, v :: vs => setL (old.setIfInBounds o v) (o + 1) vs
theorem blk_setCells {t : TypeId} {b : Nat} : ∀ (vs : List Value) (o : Nat) (old : Array Value) (w : World), Blk w b old t → Blk (w.setCells b o vs) b (setL old o vs) t ∧ w.grownBy (w.setCells b o vs) (some b) := by
  intro vs
  induction vs with
  | nil => exact fun o old w h => ⟨h, rfl, rfl, rfl, Nat.le_refl _, fun _ _ _ => rfl⟩
  | cons v vs ih =>
    intro o old w h
    obtain ⟨h1, h2⟩ := ih (o + 1) _ _ (h.set_ o v)
    refine ⟨h1, h2.os, h2.tape, h2.output, ?_, fun k hk hn => ?_⟩
    · exact Nat.le_trans (by simp [World.setCell]) h2.size
    · refine (h2.block k (by simpa [World.setCell] using hk) hn).trans (Below.heap_setCell w ⟨b, o, none⟩ v k ?_)
      intro e
      exact hn (by rw [e])
theorem blk_there {w : World} {b : Nat} {old : Array Value} {t : TypeId} (h : Blk w b old t) (o n : Nat) (hle : o + n ≤ old.size) : w.there b o n := by
  intro j hj
  refine ⟨?_, h.frozen _⟩
  rw [h.cell]
  simp [show o + j < old.size by omega]
theorem wpList_store_in {P : Program} (w : World) {ops : Array Oper} {rest : List Oper} {o : Oper} {a : Act} {Q : Exit → Act → World → Prop} (hgd : o.guard = none) (ty : TypeId) (x y : Operand) (ho : o.op = .store ty x y)
    (g i : Nat) (cells : Array Value) (hx : a.eval x = .pointer (some ⟨g, i, none⟩)) (hy : a.eval y = .agg cells) (t : TypeId) (old new : Array Value) (hg : Blk w g old t)
    (hi : (P.info? ty).map (·.size) = some cells.size) (hle : i + cells.size ≤ old.size) (h1 : cells.all (·.oneCell') = true) (hnew : setL old i cells.toList = new)
    (h : ∀ w', Blk w' g new t → w.grownBy w' (some g) → wpList P ops Q rest (a.put o.dst undef) w') : wpList P ops Q (o :: rest) a w := by
  subst hnew
  have hs := blk_setCells cells.toList i old w hg
  exact wpList_store_mid hgd ty x y ho g i cells hx hy (blk_there hg i _ hle) hi h1 (h _ hs.1 hs.2)
/-- the rules of a right session, with or without it, to a station -/
def rulesS (start size : Int) (bytes ticks : Int) (d : Nat → UInt8) (rt : RT) (session : Bool) : RulesP := ⟨adr2 2 1, d, rt, start, size, bytes, ticks, session⟩
def ht7 : RT := ⟨2, 7, 1, 20, 0⟩
theorem rulesP_S (start size : Int) : rulesP start size = rulesS start size 65535 54840 (adr2 2 2) ht7 true := rfl
theorem ht7_valid : validP ht7 = true := by decide
theorem ht7_bits : bitsP ht7 = 260 := by decide
theorem ht7_pre : preP ht7 = 360 := by decide
theorem ht7_sym : symP ht7 = 40 := by decide
theorem ht7_pp {n : Nat} (h : n ≤ 1048576) : ppP ht7 (n : Int) = 360 + (22 + 8 * (n : Int) + 260 - 1) / 260 * 40 := by
  unfold ppP symsP
  rw [if_pos (ok_of ht7_valid (by omega) (by omega)), ht7_bits, ht7_pre, ht7_sym]
theorem ht7_le {n : Nat} (h : n < 5000) : 0 < ppP ht7 (n : Int) ∧ ppP ht7 (n : Int) ≤ 54840 := by
  rw [ht7_pp (by omega)]
  omega
def frameB (d s t : Nat → UInt8) (tid seq : Int) (r m e : Bool) (body : List UInt8) : List UInt8 := qbytes (fA d s t) tid seq r m e body
theorem frame_len (d s t : Nat → UInt8) (tid seq : Int) (r m e : Bool) (body : List UInt8) : (frameB d s t tid seq r m e body).length = 26 + body.length := by
  unfold frameB qbytes
  rw [List.length_append]
  rfl
theorem allR_fine {m : RulesP} {ag : Bool} {n : Nat} {L : List (List UInt8)} {s : SentP} (h : sentL m L 0 noSent none = .ok s) (h2 : wholeP m ag (L.length : Int) (n : Int) = none) : allR m ag n L = .fine s := by
  unfold allR; rw [h]; simp only; rw [h2]
theorem allR_bare {m : RulesP} {ag : Bool} {n : Nat} {L : List (List UInt8)} {s : SentP} {c : Nat} (h : sentL m L 0 noSent none = .ok s) (h2 : wholeP m ag (L.length : Int) (n : Int) = some c) : allR m ag n L = .bare c := by
  unfold allR; rw [h]; simp only; rw [h2]
theorem allR_placed {m : RulesP} {ag : Bool} {n : Nat} {L : List (List UInt8)} {x : Nat × Nat} (h : sentL m L 0 noSent none = .error x) : allR m ag n L = .placed x.1 x.2 := by
  unfold allR; rw [h]
theorem check_single (m : RulesP) (b : List UInt8) : checkP m false b = allR m false b.length [b] := by
  unfold checkP; rw [if_neg (by decide)]
theorem check_whole {m : RulesP} (hs : m.session = true) {b : List UInt8} {L : List (List UInt8)} (hp : partsP b = .ok L) : checkP m true b = allR m true b.length L := by
  unfold checkP; rw [if_pos rfl, if_neg (by rw [hs]; decide), hp]
theorem own_keepB {w w' : World} {base sz n C : Nat} {e t : TypeId} {A : Option Addr} {vs : List Value} (h : w.ownsRow base e sz (.slice A n C) n vs) {k : Nat} {cs : Array Value} (hk : Blk w k cs t) (ht : t ≠ e) (hg : w.grownBy w' (some k)) : w'.ownsRow base e sz (.slice A n C) n vs :=
  own_keep h hg (.inr (Ne.symm (own_ne h hk ht)))
theorem ownP_keepB {w w' : World} {base n C : Nat} {t : TypeId} {A : Option Addr} {L : List (List UInt8)} (h : OwnP w base (.slice A n C) L) {k : Nat} {cs : Array Value} (hk : Blk w k cs t) (ht : t ≠ 22) (ht2 : t ≠ 5) (hg : w.grownBy w' (some k)) : OwnP w' base (.slice A n C) L := by
  obtain ⟨A', C', vs, e, ho, hp⟩ := h
  refine ⟨A', C', vs, e, own_keepB ho hk ht hg, fun i u x hu hx => ?_⟩
  obtain ⟨A'', C'', e'', ho''⟩ := hp i u x hu hx
  exact ⟨A'', C'', e'', own_keepB ho'' hk ht2 hg⟩
theorem frame_read {d s t : Nat → UInt8} {tid seq : Int} {r m e : Bool} {body : List UInt8} (hok : qok tid seq body.length) :
    rdErr (frameB d s t tid seq r m e body) = none ∧ ∃ f, uread (frameB d s t tid seq r m e body) = ⟨f, tid, seq, r, m, e, body⟩ ∧ ∀ i, i < 18 → f i = fA d s t i := uread_own hok
end Go.Proofs.YtoagmehgiaamlaaDoor
