/-
  DERIVED. GIVEN WITH THE SEED: THE CARDS: each row of YtejlfifoehpljaaDoorRows.lean that lists a variable, with what it lists TIED to the program's text (the seventh form; the later family's looks); each row that meets fmt, with fmt's text TOLD by the authors' own Lean function (tested against real Go, not proved from fmt's source: count such statements apart). THE CARD IS WHAT COUNTS. Prove the row's statement (the work); the ties are given (YtejlfifoehpljaaDoorTie.lean); close each card by the builder's one call (the guide's Derived/Test/ToyasCard.lean, 'card_holds'). Laid BY PROGRAM, IN A SANDBOX (cutbox-door.mjs). By AI agents, Wed Nov 11 2026. No macro, syntax, notation, axiom, sorry.
-/
import Derived.Test.YtejlfifoehpljaaDoorRows
import GoSem.ClaimSeven
namespace Go.Proofs.YtejlfifoehpljaaDoor
namespace Rows

/-- THE TIED CARD OF 'muezzinlaw18.EdcaAlone'. -/
def edcaAloneCard : Claim7 := { stood := { row := edcaAloneRow, standIns := [], harness := (true, "de6fc14f426af9e7959639b6f7aee982e158fce68572f87362eb192ccabc01fd"), looks := true }, kinds := [], alts := [], laidByText := true, laidKinds := [.sentinel, .sentinel, .sentinel, .sentinel, .sentinel, .sentinel, .sentinel, .sentinel, .sentinel, .sentinel, .sentinel, .sentinel, .sentinel, .sentinel], laidTests := true, laidLooks := .later }
def EdcaAloneCardSaid : Prop := Claim7.holds Tryd.pinned (.plain (OpenSpec.ofChange edcaAloneSpec)) edcaAloneCard

/-- THE TIED CARD OF 'muezzinlaw18.EdcaPlays'. -/
def edcaPlaysCard : Claim7 := { stood := { row := edcaPlaysRow, standIns := [], harness := (true, "de6fc14f426af9e7959639b6f7aee982e158fce68572f87362eb192ccabc01fd"), looks := true }, kinds := [], alts := [], laidByText := true, laidKinds := [.sentinel, .sentinel, .sentinel, .sentinel, .sentinel, .sentinel, .sentinel, .sentinel, .sentinel, .sentinel, .sentinel, .sentinel, .sentinel, .sentinel], laidTests := true, laidLooks := .later }
def EdcaPlaysCardSaid : Prop := Claim7.holds Tryd.pinned (.plain (OpenSpec.ofChange edcaPlaysSpec)) edcaPlaysCard

/-- THE SECOND FORM's CARD OF 'muezzinlaw18.EdcaAlone'. -/
def edcaAloneUptoCard : Claim7 := { stood := { row := edcaAloneUptoRow, standIns := [], harness := (true, "de6fc14f426af9e7959639b6f7aee982e158fce68572f87362eb192ccabc01fd"), looks := true }, kinds := [], alts := [], laidByText := true, laidKinds := [.sentinel, .sentinel, .sentinel, .sentinel, .sentinel, .sentinel, .sentinel, .sentinel, .sentinel, .sentinel, .sentinel, .sentinel, .sentinel, .sentinel], laidTests := true, laidLooks := .later }
def EdcaAloneUptoCardSaid : Prop := Claim7.holds Tryd.pinned (.plain (OpenSpec.upto edcaAloneSpec)) edcaAloneUptoCard

/-- THE SECOND FORM's CARD OF 'muezzinlaw18.EdcaPlays'. -/
def edcaPlaysUptoCard : Claim7 := { stood := { row := edcaPlaysUptoRow, standIns := [], harness := (true, "de6fc14f426af9e7959639b6f7aee982e158fce68572f87362eb192ccabc01fd"), looks := true }, kinds := [], alts := [], laidByText := true, laidKinds := [.sentinel, .sentinel, .sentinel, .sentinel, .sentinel, .sentinel, .sentinel, .sentinel, .sentinel, .sentinel, .sentinel, .sentinel, .sentinel, .sentinel], laidTests := true, laidLooks := .later }
def EdcaPlaysUptoCardSaid : Prop := Claim7.holds Tryd.pinned (.plain (OpenSpec.upto edcaPlaysSpec)) edcaPlaysUptoCard
end Rows
end Go.Proofs.YtejlfifoehpljaaDoor
