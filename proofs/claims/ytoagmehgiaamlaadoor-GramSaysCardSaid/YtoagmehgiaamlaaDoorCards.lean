/-
  DERIVED. GIVEN WITH THE SEED: THE CARDS: each row of YtoagmehgiaamlaaDoorRows.lean that lists a variable, with what it lists TIED to the program's text (the seventh form; the later family's looks); each row that meets fmt, with fmt's text TOLD by the authors' own Lean function (tested against real Go, not proved from fmt's source: count such statements apart). THE CARD IS WHAT COUNTS. Prove the row's statement (the work); the ties are given (YtoagmehgiaamlaaDoorTie.lean); close each card by the builder's one call (the guide's Derived/Test/ToyasCard.lean, 'card_holds'). Laid BY PROGRAM, IN A SANDBOX (cutbox-door.mjs). By AI agents, Wed Nov 11 2026. No macro, syntax, notation, axiom, sorry.
-/
import Derived.Test.YtoagmehgiaamlaaDoorRows
import GoSem.ClaimSeven
namespace Go.Proofs.YtoagmehgiaamlaaDoor
namespace Rows

/-- THE TIED CARD OF 'muezzinlaw25.GramSingle'. -/
def gramSingleCard : Claim7 := { stood := { row := gramSingleRow, standIns := [], harness := (true, "d51aee6b5e4a474d48ed80abba158ed9017bd097420d7d79aeb5ab87dc7b2907"), looks := true }, kinds := [], alts := [], laidByText := true, laidKinds := [.sentinel, .sentinel, .sentinel, .sentinel, .sentinel, .sentinel, .sentinel, .sentinel, .sentinel, .sentinel, .sentinel, .sentinel, .sentinel, .sentinel], laidTests := true, laidLooks := .later }
def GramSingleCardSaid : Prop := Claim7.holds Tryd.pinned (.plain (OpenSpec.ofChange gramSingleSpec)) gramSingleCard

/-- THE TIED CARD OF 'muezzinlaw25.GramSays'. -/
def gramSaysCard : Claim7 := { stood := { row := gramSaysRow, standIns := [], harness := (true, "d51aee6b5e4a474d48ed80abba158ed9017bd097420d7d79aeb5ab87dc7b2907"), looks := true }, kinds := [], alts := [], laidByText := true, laidKinds := [.sentinel, .sentinel, .sentinel, .sentinel, .sentinel, .sentinel, .sentinel, .sentinel, .sentinel, .sentinel, .sentinel, .sentinel, .sentinel, .sentinel], laidTests := true, laidLooks := .later }
def GramSaysCardSaid : Prop := Claim7.holds Tryd.pinned (.plain (OpenSpec.ofChange gramSaysSpec)) gramSaysCard

/-- THE TIED CARD OF 'muezzinlaw25.GramBuilt'. -/
def gramBuiltCard : Claim7 := { stood := { row := gramBuiltRow, standIns := [], harness := (true, "d51aee6b5e4a474d48ed80abba158ed9017bd097420d7d79aeb5ab87dc7b2907"), looks := true }, kinds := [], alts := [], laidByText := true, laidKinds := [.sentinel, .sentinel, .sentinel, .sentinel, .sentinel, .sentinel, .sentinel, .sentinel, .sentinel, .sentinel, .sentinel, .sentinel, .sentinel, .sentinel], laidTests := true, laidLooks := .later }
def GramBuiltCardSaid : Prop := Claim7.holds Tryd.pinned (.plain (OpenSpec.ofChange gramBuiltSpec)) gramBuiltCard

/-- THE TIED CARD OF 'muezzinlaw25.GramBounds'. -/
def gramBoundsCard : Claim7 := { stood := { row := gramBoundsRow, standIns := [], harness := (true, "d51aee6b5e4a474d48ed80abba158ed9017bd097420d7d79aeb5ab87dc7b2907"), looks := true }, kinds := [], alts := [], laidByText := true, laidKinds := [.sentinel, .sentinel, .sentinel, .sentinel, .sentinel, .sentinel, .sentinel, .sentinel, .sentinel, .sentinel, .sentinel, .sentinel, .sentinel, .sentinel], laidTests := true, laidLooks := .later }
def GramBoundsCardSaid : Prop := Claim7.holds Tryd.pinned (.plain (OpenSpec.ofChange gramBoundsSpec)) gramBoundsCard

/-- THE SECOND FORM's CARD OF 'muezzinlaw25.GramSingle'. -/
def gramSingleUptoCard : Claim7 := { stood := { row := gramSingleUptoRow, standIns := [], harness := (true, "d51aee6b5e4a474d48ed80abba158ed9017bd097420d7d79aeb5ab87dc7b2907"), looks := true }, kinds := [], alts := [], laidByText := true, laidKinds := [.sentinel, .sentinel, .sentinel, .sentinel, .sentinel, .sentinel, .sentinel, .sentinel, .sentinel, .sentinel, .sentinel, .sentinel, .sentinel, .sentinel], laidTests := true, laidLooks := .later }
def GramSingleUptoCardSaid : Prop := Claim7.holds Tryd.pinned (.plain (OpenSpec.upto gramSingleSpec)) gramSingleUptoCard

/-- THE SECOND FORM's CARD OF 'muezzinlaw25.GramSays'. -/
def gramSaysUptoCard : Claim7 := { stood := { row := gramSaysUptoRow, standIns := [], harness := (true, "d51aee6b5e4a474d48ed80abba158ed9017bd097420d7d79aeb5ab87dc7b2907"), looks := true }, kinds := [], alts := [], laidByText := true, laidKinds := [.sentinel, .sentinel, .sentinel, .sentinel, .sentinel, .sentinel, .sentinel, .sentinel, .sentinel, .sentinel, .sentinel, .sentinel, .sentinel, .sentinel], laidTests := true, laidLooks := .later }
def GramSaysUptoCardSaid : Prop := Claim7.holds Tryd.pinned (.plain (OpenSpec.upto gramSaysSpec)) gramSaysUptoCard

/-- THE SECOND FORM's CARD OF 'muezzinlaw25.GramBuilt'. -/
def gramBuiltUptoCard : Claim7 := { stood := { row := gramBuiltUptoRow, standIns := [], harness := (true, "d51aee6b5e4a474d48ed80abba158ed9017bd097420d7d79aeb5ab87dc7b2907"), looks := true }, kinds := [], alts := [], laidByText := true, laidKinds := [.sentinel, .sentinel, .sentinel, .sentinel, .sentinel, .sentinel, .sentinel, .sentinel, .sentinel, .sentinel, .sentinel, .sentinel, .sentinel, .sentinel], laidTests := true, laidLooks := .later }
def GramBuiltUptoCardSaid : Prop := Claim7.holds Tryd.pinned (.plain (OpenSpec.upto gramBuiltSpec)) gramBuiltUptoCard

/-- THE SECOND FORM's CARD OF 'muezzinlaw25.GramBounds'. -/
def gramBoundsUptoCard : Claim7 := { stood := { row := gramBoundsUptoRow, standIns := [], harness := (true, "d51aee6b5e4a474d48ed80abba158ed9017bd097420d7d79aeb5ab87dc7b2907"), looks := true }, kinds := [], alts := [], laidByText := true, laidKinds := [.sentinel, .sentinel, .sentinel, .sentinel, .sentinel, .sentinel, .sentinel, .sentinel, .sentinel, .sentinel, .sentinel, .sentinel, .sentinel, .sentinel], laidTests := true, laidLooks := .later }
def GramBoundsUptoCardSaid : Prop := Claim7.holds Tryd.pinned (.plain (OpenSpec.upto gramBoundsSpec)) gramBoundsUptoCard
end Rows
end Go.Proofs.YtoagmehgiaamlaaDoor
