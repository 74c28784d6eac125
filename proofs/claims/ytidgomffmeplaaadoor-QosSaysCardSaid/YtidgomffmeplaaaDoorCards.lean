/-
  DERIVED. GIVEN WITH THE SEED: THE CARDS: each row of YtidgomffmeplaaaDoorRows.lean that lists a variable, with what it lists TIED to the program's text (the seventh form; the later family's looks); each row that meets fmt, with fmt's text TOLD by the authors' own Lean function (tested against real Go, not proved from fmt's source: count such statements apart). THE CARD IS WHAT COUNTS. Prove the row's statement (the work); the ties are given (YtidgomffmeplaaaDoorTie.lean); close each card by the builder's one call (the guide's Derived/Test/ToyasCard.lean, 'card_holds'). Laid BY PROGRAM, IN A SANDBOX (cutbox-door.mjs). By AI agents, Wed Nov 11 2026. No macro, syntax, notation, axiom, sorry.
-/
import Derived.Test.YtidgomffmeplaaaDoorRows
import GoSem.ClaimSeven
namespace Go.Proofs.YtidgomffmeplaaaDoor
namespace Rows

/-- THE TIED CARD OF 'muezzinlaw3.QosBounds'. -/
def qosBoundsCard : Claim7 := { stood := { row := qosBoundsRow, standIns := [], harness := (true, "25063673b09cc3db501f246a5c0fa32cf763ccee49979716eef8deb9c2de1060"), looks := true }, kinds := [], alts := [], laidByText := true, laidKinds := [.sentinel, .sentinel, .sentinel, .sentinel, .sentinel, .sentinel, .sentinel, .sentinel, .sentinel, .sentinel, .sentinel, .sentinel, .sentinel, .sentinel], laidTests := true, laidLooks := .later }
def QosBoundsCardSaid : Prop := Claim7.holds Tryd.pinned (.plain (OpenSpec.ofChange qosBoundsSpec)) qosBoundsCard

/-- THE TIED CARD OF 'muezzinlaw3.QosKinds'. -/
def qosKindsCard : Claim7 := { stood := { row := qosKindsRow, standIns := [], harness := (true, "25063673b09cc3db501f246a5c0fa32cf763ccee49979716eef8deb9c2de1060"), looks := true }, kinds := [], alts := [], laidByText := true, laidKinds := [.sentinel, .sentinel, .sentinel, .sentinel, .sentinel, .sentinel, .sentinel, .sentinel, .sentinel, .sentinel, .sentinel, .sentinel, .sentinel, .sentinel], laidTests := true, laidLooks := .later }
def QosKindsCardSaid : Prop := Claim7.holds Tryd.pinned (.plain (OpenSpec.ofChange qosKindsSpec)) qosKindsCard

/-- THE TIED CARD OF 'muezzinlaw3.QosSays'. -/
def qosSaysCard : Claim7 := { stood := { row := qosSaysRow, standIns := [], harness := (true, "25063673b09cc3db501f246a5c0fa32cf763ccee49979716eef8deb9c2de1060"), looks := true }, kinds := [], alts := [], laidByText := true, laidKinds := [.sentinel, .sentinel, .sentinel, .sentinel, .sentinel, .sentinel, .sentinel, .sentinel, .sentinel, .sentinel, .sentinel, .sentinel, .sentinel, .sentinel], laidTests := true, laidLooks := .later }
def QosSaysCardSaid : Prop := Claim7.holds Tryd.pinned (.plain (OpenSpec.ofChange qosSaysSpec)) qosSaysCard

/-- THE TIED CARD OF 'muezzinlaw3.QosBack'. -/
def qosBackCard : Claim7 := { stood := { row := qosBackRow, standIns := [], harness := (true, "25063673b09cc3db501f246a5c0fa32cf763ccee49979716eef8deb9c2de1060"), looks := true }, kinds := [], alts := [], laidByText := true, laidKinds := [.sentinel, .sentinel, .sentinel, .sentinel, .sentinel, .sentinel, .sentinel, .sentinel, .sentinel, .sentinel, .sentinel, .sentinel, .sentinel, .sentinel], laidTests := true, laidLooks := .later }
def QosBackCardSaid : Prop := Claim7.holds Tryd.pinned (.plain (OpenSpec.ofChange qosBackSpec)) qosBackCard

/-- THE TIED CARD OF 'muezzinlaw3.QosTurned'. -/
def qosTurnedCard : Claim7 := { stood := { row := qosTurnedRow, standIns := [], harness := (true, "25063673b09cc3db501f246a5c0fa32cf763ccee49979716eef8deb9c2de1060"), looks := true }, kinds := [], alts := [], laidByText := true, laidKinds := [.sentinel, .sentinel, .sentinel, .sentinel], laidTests := true, laidLooks := .later }
def QosTurnedCardSaid : Prop := Claim7.holds Tryd.pinned (.plain (OpenSpec.ofChange qosTurnedSpec)) qosTurnedCard

/-- THE TIED CARD OF 'muezzinlaw3.QosBits'. -/
def qosBitsCard : Claim7 := { stood := { row := qosBitsRow, standIns := [], harness := (true, "25063673b09cc3db501f246a5c0fa32cf763ccee49979716eef8deb9c2de1060"), looks := true }, kinds := [], alts := [], laidByText := true, laidKinds := [.sentinel, .sentinel, .sentinel, .sentinel], laidTests := true, laidLooks := .later }
def QosBitsCardSaid : Prop := Claim7.holds Tryd.pinned (.plain (OpenSpec.ofChange qosBitsSpec)) qosBitsCard

/-- THE SECOND FORM's CARD OF 'muezzinlaw3.QosBounds'. -/
def qosBoundsUptoCard : Claim7 := { stood := { row := qosBoundsUptoRow, standIns := [], harness := (true, "25063673b09cc3db501f246a5c0fa32cf763ccee49979716eef8deb9c2de1060"), looks := true }, kinds := [], alts := [], laidByText := true, laidKinds := [.sentinel, .sentinel, .sentinel, .sentinel, .sentinel, .sentinel, .sentinel, .sentinel, .sentinel, .sentinel, .sentinel, .sentinel, .sentinel, .sentinel], laidTests := true, laidLooks := .later }
def QosBoundsUptoCardSaid : Prop := Claim7.holds Tryd.pinned (.plain (OpenSpec.upto qosBoundsSpec)) qosBoundsUptoCard

/-- THE SECOND FORM's CARD OF 'muezzinlaw3.QosKinds'. -/
def qosKindsUptoCard : Claim7 := { stood := { row := qosKindsUptoRow, standIns := [], harness := (true, "25063673b09cc3db501f246a5c0fa32cf763ccee49979716eef8deb9c2de1060"), looks := true }, kinds := [], alts := [], laidByText := true, laidKinds := [.sentinel, .sentinel, .sentinel, .sentinel, .sentinel, .sentinel, .sentinel, .sentinel, .sentinel, .sentinel, .sentinel, .sentinel, .sentinel, .sentinel], laidTests := true, laidLooks := .later }
def QosKindsUptoCardSaid : Prop := Claim7.holds Tryd.pinned (.plain (OpenSpec.upto qosKindsSpec)) qosKindsUptoCard

/-- THE SECOND FORM's CARD OF 'muezzinlaw3.QosSays'. -/
def qosSaysUptoCard : Claim7 := { stood := { row := qosSaysUptoRow, standIns := [], harness := (true, "25063673b09cc3db501f246a5c0fa32cf763ccee49979716eef8deb9c2de1060"), looks := true }, kinds := [], alts := [], laidByText := true, laidKinds := [.sentinel, .sentinel, .sentinel, .sentinel, .sentinel, .sentinel, .sentinel, .sentinel, .sentinel, .sentinel, .sentinel, .sentinel, .sentinel, .sentinel], laidTests := true, laidLooks := .later }
def QosSaysUptoCardSaid : Prop := Claim7.holds Tryd.pinned (.plain (OpenSpec.upto qosSaysSpec)) qosSaysUptoCard

/-- THE SECOND FORM's CARD OF 'muezzinlaw3.QosBack'. -/
def qosBackUptoCard : Claim7 := { stood := { row := qosBackUptoRow, standIns := [], harness := (true, "25063673b09cc3db501f246a5c0fa32cf763ccee49979716eef8deb9c2de1060"), looks := true }, kinds := [], alts := [], laidByText := true, laidKinds := [.sentinel, .sentinel, .sentinel, .sentinel, .sentinel, .sentinel, .sentinel, .sentinel, .sentinel, .sentinel, .sentinel, .sentinel, .sentinel, .sentinel], laidTests := true, laidLooks := .later }
def QosBackUptoCardSaid : Prop := Claim7.holds Tryd.pinned (.plain (OpenSpec.upto qosBackSpec)) qosBackUptoCard

/-- THE SECOND FORM's CARD OF 'muezzinlaw3.QosTurned'. -/
def qosTurnedUptoCard : Claim7 := { stood := { row := qosTurnedUptoRow, standIns := [], harness := (true, "25063673b09cc3db501f246a5c0fa32cf763ccee49979716eef8deb9c2de1060"), looks := true }, kinds := [], alts := [], laidByText := true, laidKinds := [.sentinel, .sentinel, .sentinel, .sentinel], laidTests := true, laidLooks := .later }
def QosTurnedUptoCardSaid : Prop := Claim7.holds Tryd.pinned (.plain (OpenSpec.upto qosTurnedSpec)) qosTurnedUptoCard

/-- THE SECOND FORM's CARD OF 'muezzinlaw3.QosBits'. -/
def qosBitsUptoCard : Claim7 := { stood := { row := qosBitsUptoRow, standIns := [], harness := (true, "25063673b09cc3db501f246a5c0fa32cf763ccee49979716eef8deb9c2de1060"), looks := true }, kinds := [], alts := [], laidByText := true, laidKinds := [.sentinel, .sentinel, .sentinel, .sentinel], laidTests := true, laidLooks := .later }
def QosBitsUptoCardSaid : Prop := Claim7.holds Tryd.pinned (.plain (OpenSpec.upto qosBitsSpec)) qosBitsUptoCard
end Rows
end Go.Proofs.YtidgomffmeplaaaDoor
