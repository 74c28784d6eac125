/-
  gram.Check in plain Lean.
-/
import Derived.Test.YtoagmehgiaamlaaDoorGramPart
import Derived.Test.YtoagmehgiaamlaaDoorMf
import Derived.Test.YtoagmehgiaamlaaDoorMg
import Derived.Test.YtoagmehgiaamlaaDoorMd
namespace Go.Proofs.YtoagmehgiaamlaaDoor
open Go.ChangeShapes Go.WideShapes Go.ChangeAt Go.RowKit
set_option linter.unusedVariables false

/-- what was sent -/
structure SentP where
  tid : Int
  seqs : List Int
  retry : List Bool
  more : Bool
  eosp : Bool
  bodies : List (List UInt8)
def noSent : SentP := ⟨0, [], [], false, false, []⟩
def sentS (s : SentP) (u : URead) : SentP := ⟨u.tid, s.seqs ++ [u.seq], s.retry ++ [u.r], u.m, u.e, s.bodies ++ [u.body]⟩
/-- the frames, one behind the other: what was sent; or the error's place and the frame's -/
def sentL (m : RulesP) : List (List UInt8) → Nat → SentP → Option URead → Except (Nat × Nat) SentP
  | [], _, s, _ => .ok s
  | p :: ps, i, s, l => match rdErr p with
    | some c => .error (c, i)
    | none => match partG m (uread p) l with
      | some c => .error (c, i)
      | none => sentL m ps (i + 1) (sentS s (uread p)) (some (uread p))
theorem sent_bad {m : RulesP} {p : List UInt8} {ps : List (List UInt8)} {i : Nat} {s : SentP} {l : Option URead} {c : Nat} (h : rdErr p = some c) : sentL m (p :: ps) i s l = .error (c, i) := by rw [sentL, h]
theorem sent_amiss {m : RulesP} {p : List UInt8} {ps : List (List UInt8)} {i : Nat} {s : SentP} {l : Option URead} {c : Nat} (h : rdErr p = none) (h2 : partG m (uread p) l = some c) : sentL m (p :: ps) i s l = .error (c, i) := by rw [sentL, h]; simp only; rw [h2]
theorem sent_next {m : RulesP} {p : List UInt8} {ps : List (List UInt8)} {i : Nat} {s : SentP} {l : Option URead} (h : rdErr p = none) (h2 : partG m (uread p) l = none) : sentL m (p :: ps) i s l = sentL m ps (i + 1) (sentS s (uread p)) (some (uread p)) := by rw [sentL, h]; simp only; rw [h2]

inductive SentR
  | bare (c : Nat)
  | placed (c i : Nat)
  | fine (s : SentP)
def allR (m : RulesP) (ag : Bool) (n : Nat) (L : List (List UInt8)) : SentR := match sentL m L 0 noSent none with
  | .error x => .placed x.1 x.2
  | .ok s => match wholeP m ag (L.length : Int) (n : Int) with
    | some c => .bare c
    | none => .fine s
def checkP (m : RulesP) (ag : Bool) (b : List UInt8) : SentR :=
  if ag = true then
    if m.session = false then .bare 9
    else match partsP b with
      | .error c => .bare c
      | .ok L => allR m ag b.length L
  else allR m ag b.length [b]

def sentcells (t : Int) (A1 : Option Addr) (n1 C1 : Nat) (A2 : Option Addr) (n2 C2 : Nat) (mo eo : Bool) (A3 : Option Addr) (n3 C3 : Nat) : Array Value := #[.int .i64 t, .slice A1 n1 C1, .slice A2 n2 C2, .bool mo, .bool eo, .slice A3 n3 C3]
def zsent : Array Value := sentcells 0 none 0 0 none 0 0 false false none 0 0
/-- what Check gives back -/
def CheckR (w : World) (E : Nat → Addr) (r : SentR) (e : Ending) (w' : World) : Prop := match r with
  | .bare c => e = .returned (.tuple #[.agg zsent, errV E c]) ∧ Below w.heap.size w w'
  | .placed c i => ∃ p, e = .returned (.tuple #[.agg zsent, atV p]) ∧ Blk w' p #[.int .i64 (i : Int), errV E c] 74 ∧ w.heap.size ≤ p ∧ Below w.heap.size w w'
  | .fine s => ∃ A1 C1 A2 C2 A3 C3, e = .returned (.tuple #[.agg (sentcells s.tid A1 s.seqs.length C1 A2 s.retry.length C2 s.more s.eosp A3 s.bodies.length C3), .nilIface]) ∧
      OwnI w' w.heap.size A1 s.seqs.length C1 s.seqs ∧ OwnB w' w.heap.size A2 s.retry.length C2 s.retry ∧ OwnP w' w.heap.size (.slice A3 s.bodies.length C3) s.bodies ∧ Below w.heap.size w w'
theorem checkR_bare {w w' : World} {E : Nat → Addr} {r : SentR} {c : Nat} (h : r = .bare c) {e : Ending} (he : e = .returned (.tuple #[.agg zsent, errV E c])) (hb : Below w.heap.size w w') : CheckR w E r e w' := by subst h; exact ⟨he, hb⟩

/-- what Check holds all through: the rules, the result, what was sent so far; the three slices of its own -/
structure ChkS (w : World) (pr po : Nat) (s : SentP) (A1 : Option Addr) (C1 : Nat) (A2 : Option Addr) (C2 : Nat) (A3 : Option Addr) (C3 : Nat) (m : RulesP) (w' : World) : Prop where
  rules : Blk w' w.heap.size (rucells m) 30
  res : Blk w' pr zsent 40
  out : Blk w' po (sentcells s.tid A1 s.seqs.length C1 A2 s.retry.length C2 s.more s.eosp A3 s.bodies.length C3) 40
  o1 : OwnI w' w.heap.size A1 s.seqs.length C1 s.seqs
  o2 : OwnB w' w.heap.size A2 s.retry.length C2 s.retry
  o3 : OwnP w' w.heap.size (.slice A3 s.bodies.length C3) s.bodies
  bel : Below w.heap.size w w'
theorem ChkS.below {w : World} {pr po : Nat} {s : SentP} {A1 : Option Addr} {C1 : Nat} {A2 : Option Addr} {C2 : Nat} {A3 : Option Addr} {C3 : Nat} {m : RulesP} {x y : World} (h : ChkS w pr po s A1 C1 A2 C2 A3 C3 m x) (hb : Below x.heap.size x y) : ChkS w pr po s A1 C1 A2 C2 A3 C3 m y :=
  ⟨h.rules.below hb h.rules.lt, h.res.below hb h.res.lt, h.out.below hb h.out.lt, h.o1.below hb (Nat.le_refl _), h.o2.below hb (Nat.le_refl _), h.o3.below hb (Nat.le_refl _), h.bel.trans (hb.mono h.bel.size)⟩
end Go.Proofs.YtoagmehgiaamlaaDoor
