/-
  DERIVED. GIVEN WITH THE SEED: THE CARDS: each row of YtplcdjdmkmdddaaDoorRows.lean that lists a variable, with what it lists TIED to the program's text (the seventh form; the later family's looks); each row that meets fmt, with fmt's text TOLD by the authors' own Lean function (tested against real Go, not proved from fmt's source: count such statements apart). THE CARD IS WHAT COUNTS. Prove the row's statement (the work); the ties are given (YtplcdjdmkmdddaaDoorTie.lean); close each card by the builder's one call (the guide's Derived/Test/ToyasCard.lean, 'card_holds'). Laid BY PROGRAM, IN A SANDBOX (cutbox-door.mjs). By AI agents, Wed Nov 11 2026. No macro, syntax, notation, axiom, sorry.
-/
import Derived.Test.YtplcdjdmkmdddaaDoorRows
import GoSem.ClaimSeven
namespace Go.Proofs.YtplcdjdmkmdddaaDoor
namespace Rows

/-- THE TIED CARD OF 'muezzinlaw7.AmpduMany'. -/
def ampduManyCard : Claim7 := { stood := { row := ampduManyRow, standIns := [], harness := (true, "38271df04ad7b9c0740c2772517e43566a8f05c3577c3395cfe5eff8fd1063f0"), looks := true }, kinds := [], alts := [], laidByText := true, laidKinds := [.sentinel, .sentinel, .sentinel, .sentinel, .sentinel, .sentinel, .sentinel, .sentinel, .sentinel, .sentinel, .sentinel, .sentinel, .sentinel, .sentinel], laidTests := true, laidLooks := .later }
def AmpduManyCardSaid : Prop := Claim7.holds Tryd.pinned (.plain (OpenSpec.ofChange ampduManySpec)) ampduManyCard

/-- THE TIED CARD OF 'muezzinlaw7.AmpduJunk'. -/
def ampduJunkCard : Claim7 := { stood := { row := ampduJunkRow, standIns := [], harness := (true, "38271df04ad7b9c0740c2772517e43566a8f05c3577c3395cfe5eff8fd1063f0"), looks := true }, kinds := [], alts := [], laidByText := true, laidKinds := [.sentinel, .sentinel, .sentinel, .sentinel, .sentinel], laidTests := true, laidLooks := .later }
def AmpduJunkCardSaid : Prop := Claim7.holds Tryd.pinned (.plain (OpenSpec.ofChange ampduJunkSpec)) ampduJunkCard

/-- THE TIED CARD OF 'muezzinlaw7.AmpduSays'. -/
def ampduSaysCard : Claim7 := { stood := { row := ampduSaysRow, standIns := [], harness := (true, "38271df04ad7b9c0740c2772517e43566a8f05c3577c3395cfe5eff8fd1063f0"), looks := true }, kinds := [], alts := [], laidByText := true, laidKinds := [.sentinel, .sentinel, .sentinel, .sentinel, .sentinel, .sentinel, .sentinel, .sentinel, .sentinel, .sentinel, .sentinel, .sentinel, .sentinel, .sentinel], laidTests := true, laidLooks := .later }
def AmpduSaysCardSaid : Prop := Claim7.holds Tryd.pinned (.plain (OpenSpec.ofChange ampduSaysSpec)) ampduSaysCard

/-- THE TIED CARD OF 'muezzinlaw7.AmpduBack'. -/
def ampduBackCard : Claim7 := { stood := { row := ampduBackRow, standIns := [], harness := (true, "38271df04ad7b9c0740c2772517e43566a8f05c3577c3395cfe5eff8fd1063f0"), looks := true }, kinds := [], alts := [], laidByText := true, laidKinds := [.sentinel, .sentinel, .sentinel, .sentinel, .sentinel], laidTests := true, laidLooks := .later }
def AmpduBackCardSaid : Prop := Claim7.holds Tryd.pinned (.plain (OpenSpec.ofChange ampduBackSpec)) ampduBackCard

/-- THE TIED CARD OF 'muezzinlaw7.AmpduTorn'. -/
def ampduTornCard : Claim7 := { stood := { row := ampduTornRow, standIns := [], harness := (true, "38271df04ad7b9c0740c2772517e43566a8f05c3577c3395cfe5eff8fd1063f0"), looks := true }, kinds := [], alts := [], laidByText := true, laidKinds := [.sentinel, .sentinel, .sentinel, .sentinel, .sentinel, .sentinel, .sentinel, .sentinel, .sentinel, .sentinel, .sentinel, .sentinel, .sentinel, .sentinel], laidTests := true, laidLooks := .later }
def AmpduTornCardSaid : Prop := Claim7.holds Tryd.pinned (.plain (OpenSpec.ofChange ampduTornSpec)) ampduTornCard

/-- THE SECOND FORM's CARD OF 'muezzinlaw7.AmpduMany'. -/
def ampduManyUptoCard : Claim7 := { stood := { row := ampduManyUptoRow, standIns := [], harness := (true, "38271df04ad7b9c0740c2772517e43566a8f05c3577c3395cfe5eff8fd1063f0"), looks := true }, kinds := [], alts := [], laidByText := true, laidKinds := [.sentinel, .sentinel, .sentinel, .sentinel, .sentinel, .sentinel, .sentinel, .sentinel, .sentinel, .sentinel, .sentinel, .sentinel, .sentinel, .sentinel], laidTests := true, laidLooks := .later }
def AmpduManyUptoCardSaid : Prop := Claim7.holds Tryd.pinned (.plain (OpenSpec.upto ampduManySpec)) ampduManyUptoCard

/-- THE SECOND FORM's CARD OF 'muezzinlaw7.AmpduJunk'. -/
def ampduJunkUptoCard : Claim7 := { stood := { row := ampduJunkUptoRow, standIns := [], harness := (true, "38271df04ad7b9c0740c2772517e43566a8f05c3577c3395cfe5eff8fd1063f0"), looks := true }, kinds := [], alts := [], laidByText := true, laidKinds := [.sentinel, .sentinel, .sentinel, .sentinel, .sentinel], laidTests := true, laidLooks := .later }
def AmpduJunkUptoCardSaid : Prop := Claim7.holds Tryd.pinned (.plain (OpenSpec.upto ampduJunkSpec)) ampduJunkUptoCard

/-- THE SECOND FORM's CARD OF 'muezzinlaw7.AmpduSays'. -/
def ampduSaysUptoCard : Claim7 := { stood := { row := ampduSaysUptoRow, standIns := [], harness := (true, "38271df04ad7b9c0740c2772517e43566a8f05c3577c3395cfe5eff8fd1063f0"), looks := true }, kinds := [], alts := [], laidByText := true, laidKinds := [.sentinel, .sentinel, .sentinel, .sentinel, .sentinel, .sentinel, .sentinel, .sentinel, .sentinel, .sentinel, .sentinel, .sentinel, .sentinel, .sentinel], laidTests := true, laidLooks := .later }
def AmpduSaysUptoCardSaid : Prop := Claim7.holds Tryd.pinned (.plain (OpenSpec.upto ampduSaysSpec)) ampduSaysUptoCard

/-- THE SECOND FORM's CARD OF 'muezzinlaw7.AmpduBack'. -/
def ampduBackUptoCard : Claim7 := { stood := { row := ampduBackUptoRow, standIns := [], harness := (true, "38271df04ad7b9c0740c2772517e43566a8f05c3577c3395cfe5eff8fd1063f0"), looks := true }, kinds := [], alts := [], laidByText := true, laidKinds := [.sentinel, .sentinel, .sentinel, .sentinel, .sentinel], laidTests := true, laidLooks := .later }
def AmpduBackUptoCardSaid : Prop := Claim7.holds Tryd.pinned (.plain (OpenSpec.upto ampduBackSpec)) ampduBackUptoCard

/-- THE SECOND FORM's CARD OF 'muezzinlaw7.AmpduTorn'. -/
def ampduTornUptoCard : Claim7 := { stood := { row := ampduTornUptoRow, standIns := [], harness := (true, "38271df04ad7b9c0740c2772517e43566a8f05c3577c3395cfe5eff8fd1063f0"), looks := true }, kinds := [], alts := [], laidByText := true, laidKinds := [.sentinel, .sentinel, .sentinel, .sentinel, .sentinel, .sentinel, .sentinel, .sentinel, .sentinel, .sentinel, .sentinel, .sentinel, .sentinel, .sentinel], laidTests := true, laidLooks := .later }
def AmpduTornUptoCardSaid : Prop := Claim7.holds Tryd.pinned (.plain (OpenSpec.upto ampduTornSpec)) ampduTornUptoCard
end Rows
end Go.Proofs.YtplcdjdmkmdddaaDoor
