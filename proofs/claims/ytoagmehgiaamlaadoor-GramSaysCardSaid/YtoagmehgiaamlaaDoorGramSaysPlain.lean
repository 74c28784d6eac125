/-
  GramSays: the document's Check, whatever the rules; what codes may come.
-/
import Derived.Test.YtoagmehgiaamlaaDoorRefCheckMany
import Derived.Test.YtoagmehgiaamlaaDoorRefCheckOne
namespace Go.Proofs.YtoagmehgiaamlaaDoor
open Go.ChangeShapes Go.WideShapes Go.ChangeAt Go.RowKit
set_option linter.unusedVariables false

theorem rcheck_any {w : World} (m : RulesP) (ag : Bool) (hs0 : -9223372036854775808 ≤ m.r.s) (hs1 : m.r.s ≤ 9223372036854775807) (ht0 : -9223372036854775808 ≤ m.start) (ht1 : m.start ≤ 9223372036854775807) (A : Option Addr) (n C : Nat) (b : List UInt8) (h : Row w 1 A n C (b.map u8v)) (hn : n ≤ 1048576) :
    Calls Tryd.prog 16 #[.agg (rucells m), .bool ag, .slice A n C] w fun e w' => RCheckR w (checkP m ag b) e w' := by
  have hbl : b.length = n := by simpa using h.1
  cases ag with
  | false =>
    rw [check_single, hbl]
    exact rcheck_one m hs0 hs1 ht0 ht1 A n C b h hn
  | true =>
    rcases hss : m.session
    case false =>
      rw [show checkP m true b = .bare 9 by unfold checkP; rw [if_pos rfl, if_pos hss]]
      exact rcheck_state m hss A n C
    case true =>
      rcases hp : partsP b with c | L
      · rw [show checkP m true b = .bare c by unfold checkP; rw [if_pos rfl, if_neg (by rw [hss]; decide), hp]]
        exact rcheck_parts m hss A n C b h hn c hp
      · rw [check_whole hss hp, hbl]
        exact rcheck_many m hss hs0 hs1 ht0 ht1 A n C b h hn L hp
end Go.Proofs.YtoagmehgiaamlaaDoor
