/-
  BaOnce: both walks.
-/
import Derived.Test.YthjjneanabnjoaaDoorBaOnceOffWalk
import Derived.Test.YthjjneanabnjoaaDoorBaOnceOnWalk
namespace Go.Proofs.YthjjneanabnjoaaDoor
open Go.ChangeShapes Go.WideShapes Go.ChangeAt Go.RowKit
set_option linter.unusedVariables false
set_option maxRecDepth 100000

theorem baOnce_walk (w : World) {E : Nat → Addr} (hE : Errs [2, 6, 8, 9, 10] w E) (a0 : Int) (w0 : (Lit.int .i64 a0).wf = true) (a1 : Int) (w1 : (Lit.int .i64 a1).wf = true) (b : Bool) (dA : Option Addr) (n dC : Nat) (F : Nat → DoR) (hD : Dos w dA n F) :
    Calls Tryd.prog 8 #[.int .i64 a0, .int .i64 a1, .bool b, .slice dA n dC] w fun e w' => e = .returned (.bool true) ∧ Below w.heap.size w w' := by
  cases b with
  | false => exact baOnce_off w hE a0 w0 a1 w1 dA n dC F hD
  | true => exact baOnce_on w hE a0 w0 a1 w1 dA n dC F hD
end Go.Proofs.YthjjneanabnjoaaDoor
