/-
  DERIVED. GIVEN WITH THE SEED: THE CARDS: each row of YthppbicfemgoaaaDoorRows.lean that lists a variable, with what it lists TIED to the program's text (the seventh form; the later family's looks); each row that meets fmt, with fmt's text TOLD by the authors' own Lean function (tested against real Go, not proved from fmt's source: count such statements apart). THE CARD IS WHAT COUNTS. Prove the row's statement (the work); the ties are given (YthppbicfemgoaaaDoorTie.lean); close each card by the builder's one call (the guide's Derived/Test/ToyasCard.lean, 'card_holds'). Laid BY PROGRAM, IN A SANDBOX (cutbox-door.mjs). By AI agents, Wed Nov 11 2026. No macro, syntax, notation, axiom, sorry.
-/
import Derived.Test.YthppbicfemgoaaaDoorRows
import GoSem.ClaimSeven
namespace Go.Proofs.YthppbicfemgoaaaDoor
namespace Rows

/-- THE TIED CARD OF 'muezzinlaw23.CountSums'. -/
def countSumsCard : Claim7 := { stood := { row := countSumsRow, standIns := [], harness := (true, "3456b6e7bc1112355fb4fde5673a30ccabb38c2ea493707bea55eec7aa4640f3"), looks := true }, kinds := [], alts := [], laidByText := true, laidKinds := [.sentinel, .sentinel, .sentinel], laidTests := true, laidLooks := .later }
def CountSumsCardSaid : Prop := Claim7.holds Tryd.pinned (.plain (OpenSpec.ofChange countSumsSpec)) countSumsCard

/-- THE TIED CARD OF 'muezzinlaw23.CountRoads'. -/
def countRoadsCard : Claim7 := { stood := { row := countRoadsRow, standIns := [], harness := (true, "3456b6e7bc1112355fb4fde5673a30ccabb38c2ea493707bea55eec7aa4640f3"), looks := true }, kinds := [], alts := [], laidByText := true, laidKinds := [.sentinel, .sentinel, .sentinel, .sentinel, .sentinel, .sentinel, .sentinel, .sentinel, .sentinel, .sentinel, .sentinel, .sentinel, .sentinel, .sentinel], laidTests := true, laidLooks := .later }
def CountRoadsCardSaid : Prop := Claim7.holds Tryd.pinned (.plain (OpenSpec.ofChange countRoadsSpec)) countRoadsCard

/-- THE TIED CARD OF 'muezzinlaw23.CountPlays'. -/
def countPlaysCard : Claim7 := { stood := { row := countPlaysRow, standIns := [], harness := (true, "3456b6e7bc1112355fb4fde5673a30ccabb38c2ea493707bea55eec7aa4640f3"), looks := true }, kinds := [], alts := [], laidByText := true, laidKinds := [.sentinel, .sentinel, .sentinel, .sentinel, .sentinel, .sentinel, .sentinel, .sentinel, .sentinel, .sentinel, .sentinel, .sentinel, .sentinel, .sentinel], laidTests := true, laidLooks := .later }
def CountPlaysCardSaid : Prop := Claim7.holds Tryd.pinned (.plain (OpenSpec.ofChange countPlaysSpec)) countPlaysCard

/-- THE SECOND FORM's CARD OF 'muezzinlaw23.CountSums'. -/
def countSumsUptoCard : Claim7 := { stood := { row := countSumsUptoRow, standIns := [], harness := (true, "3456b6e7bc1112355fb4fde5673a30ccabb38c2ea493707bea55eec7aa4640f3"), looks := true }, kinds := [], alts := [], laidByText := true, laidKinds := [.sentinel, .sentinel, .sentinel], laidTests := true, laidLooks := .later }
def CountSumsUptoCardSaid : Prop := Claim7.holds Tryd.pinned (.plain (OpenSpec.upto countSumsSpec)) countSumsUptoCard

/-- THE SECOND FORM's CARD OF 'muezzinlaw23.CountRoads'. -/
def countRoadsUptoCard : Claim7 := { stood := { row := countRoadsUptoRow, standIns := [], harness := (true, "3456b6e7bc1112355fb4fde5673a30ccabb38c2ea493707bea55eec7aa4640f3"), looks := true }, kinds := [], alts := [], laidByText := true, laidKinds := [.sentinel, .sentinel, .sentinel, .sentinel, .sentinel, .sentinel, .sentinel, .sentinel, .sentinel, .sentinel, .sentinel, .sentinel, .sentinel, .sentinel], laidTests := true, laidLooks := .later }
def CountRoadsUptoCardSaid : Prop := Claim7.holds Tryd.pinned (.plain (OpenSpec.upto countRoadsSpec)) countRoadsUptoCard

/-- THE SECOND FORM's CARD OF 'muezzinlaw23.CountPlays'. -/
def countPlaysUptoCard : Claim7 := { stood := { row := countPlaysUptoRow, standIns := [], harness := (true, "3456b6e7bc1112355fb4fde5673a30ccabb38c2ea493707bea55eec7aa4640f3"), looks := true }, kinds := [], alts := [], laidByText := true, laidKinds := [.sentinel, .sentinel, .sentinel, .sentinel, .sentinel, .sentinel, .sentinel, .sentinel, .sentinel, .sentinel, .sentinel, .sentinel, .sentinel, .sentinel], laidTests := true, laidLooks := .later }
def CountPlaysUptoCardSaid : Prop := Claim7.holds Tryd.pinned (.plain (OpenSpec.upto countPlaysSpec)) countPlaysUptoCard
end Rows
end Go.Proofs.YthppbicfemgoaaaDoor
