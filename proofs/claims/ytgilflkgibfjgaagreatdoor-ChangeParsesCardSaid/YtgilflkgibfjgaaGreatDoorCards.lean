/-
  DERIVED. GIVEN WITH THE SEED: THE CARDS: each row of YtgilflkgibfjgaaGreatDoorRows.lean that lists a variable, with what it lists TIED to the program's text (the seventh form; the later family's looks); each row that meets fmt, with fmt's text TOLD by the authors' own Lean function (tested against real Go, not proved from fmt's source: count such statements apart). THE CARD IS WHAT COUNTS. Prove the row's statement (the work); the ties are given (YtgilflkgibfjgaaGreatDoorTie.lean); close each card by the builder's one call (the guide's Derived/Test/ToyasCard.lean, 'card_holds'). Laid BY PROGRAM, IN A SANDBOX (cutbox-door.mjs). By AI agents, Wed Nov 11 2026. No macro, syntax, notation, axiom, sorry.
-/
import Derived.Test.YtgilflkgibfjgaaGreatDoorRows
import GoSem.ClaimSeven
namespace Go.Proofs.YtgilflkgibfjgaaGreatDoor
namespace Rows

/-- THE TIED CARD OF 'osierlaw10.ChangeParses'. -/
def changeParsesCard : Claim7 := { stood := { row := changeParsesRow, standIns := [], harness := (true, "85d78c3063dbed4cd12c624a77440bcf7dbec1af04034ea7816c91a4bf3c1925"), looks := true }, kinds := [], alts := [], laidByText := true, laidKinds := [.data, .data, .data, .sentinel, .sentinel], laidTests := true, laidLooks := .later }
def ChangeParsesCardSaid : Prop := Claim7.holds Tryz.pinned (.plain (OpenSpec.ofChange changeParsesSpec)) changeParsesCard

/-- THE TIED CARD OF 'osierlaw09.QueryChecks'. -/
def queryChecksCard : Claim7 := { stood := { row := queryChecksRow, standIns := [], harness := (true, "85d78c3063dbed4cd12c624a77440bcf7dbec1af04034ea7816c91a4bf3c1925"), looks := true }, kinds := [], alts := [], laidByText := true, laidKinds := [.data, .data, .data, .sentinel, .sentinel], laidTests := true, laidLooks := .later }
def QueryChecksCardSaid : Prop := Claim7.holds Tryz.pinned (.plain (OpenSpec.ofChange queryChecksSpec)) queryChecksCard

/-- THE TIED CARD OF 'osierlaw09.QueryShapes'. -/
def queryShapesCard : Claim7 := { stood := { row := queryShapesRow, standIns := [], harness := (true, "85d78c3063dbed4cd12c624a77440bcf7dbec1af04034ea7816c91a4bf3c1925"), looks := true }, kinds := [], alts := [], laidByText := true, laidKinds := [.data, .data, .data, .sentinel, .sentinel], laidTests := true, laidLooks := .later }
def QueryShapesCardSaid : Prop := Claim7.holds Tryz.pinned (.plain (OpenSpec.ofChange queryShapesSpec)) queryShapesCard

/-- THE TIED CARD OF 'osierlaw10.ChangeNets'. -/
def changeNetsCard : Claim7 := { stood := { row := changeNetsRow, standIns := [], harness := (true, "85d78c3063dbed4cd12c624a77440bcf7dbec1af04034ea7816c91a4bf3c1925"), looks := true }, kinds := [], alts := [], laidByText := true, laidKinds := [.data, .data, .data, .sentinel, .sentinel], laidTests := true, laidLooks := .later }
def ChangeNetsCardSaid : Prop := Claim7.holds Tryz.pinned (.plain (OpenSpec.ofChange changeNetsSpec)) changeNetsCard

/-- THE TIED CARD OF 'osierlaw10.ChangeSays'. -/
def changeSaysCard : Claim7 := { stood := { row := changeSaysRow, standIns := [], harness := (true, "85d78c3063dbed4cd12c624a77440bcf7dbec1af04034ea7816c91a4bf3c1925"), looks := true }, kinds := [], alts := [], laidByText := true, laidKinds := [.data, .data, .data, .sentinel, .sentinel], laidTests := true, laidLooks := .later }
def ChangeSaysCardSaid : Prop := Claim7.holds Tryz.pinned (.plain (OpenSpec.ofChange changeSaysSpec)) changeSaysCard

/-- THE TIED CARD OF 'osierlaw10.ChangeMemory'. -/
def changeMemoryCard : Claim7 := { stood := { row := changeMemoryRow, standIns := [], harness := (true, "85d78c3063dbed4cd12c624a77440bcf7dbec1af04034ea7816c91a4bf3c1925"), looks := true }, kinds := [], alts := [], laidByText := true, laidKinds := [.data, .data, .data, .sentinel, .sentinel], laidTests := true, laidLooks := .later }
def ChangeMemoryCardSaid : Prop := Claim7.holds Tryz.pinned (.plain (OpenSpec.ofChange changeMemorySpec)) changeMemoryCard

/-- THE SECOND FORM's CARD OF 'osierlaw10.ChangeParses'. -/
def changeParsesUptoCard : Claim7 := { stood := { row := changeParsesUptoRow, standIns := [], harness := (true, "85d78c3063dbed4cd12c624a77440bcf7dbec1af04034ea7816c91a4bf3c1925"), looks := true }, kinds := [], alts := [], laidByText := true, laidKinds := [.data, .data, .data, .sentinel, .sentinel], laidTests := true, laidLooks := .later }
def ChangeParsesUptoCardSaid : Prop := Claim7.holds Tryz.pinned (.plain (OpenSpec.upto changeParsesSpec)) changeParsesUptoCard

/-- THE SECOND FORM's CARD OF 'osierlaw09.QueryChecks'. -/
def queryChecksUptoCard : Claim7 := { stood := { row := queryChecksUptoRow, standIns := [], harness := (true, "85d78c3063dbed4cd12c624a77440bcf7dbec1af04034ea7816c91a4bf3c1925"), looks := true }, kinds := [], alts := [], laidByText := true, laidKinds := [.data, .data, .data, .sentinel, .sentinel], laidTests := true, laidLooks := .later }
def QueryChecksUptoCardSaid : Prop := Claim7.holds Tryz.pinned (.plain (OpenSpec.upto queryChecksSpec)) queryChecksUptoCard

/-- THE SECOND FORM's CARD OF 'osierlaw09.QueryShapes'. -/
def queryShapesUptoCard : Claim7 := { stood := { row := queryShapesUptoRow, standIns := [], harness := (true, "85d78c3063dbed4cd12c624a77440bcf7dbec1af04034ea7816c91a4bf3c1925"), looks := true }, kinds := [], alts := [], laidByText := true, laidKinds := [.data, .data, .data, .sentinel, .sentinel], laidTests := true, laidLooks := .later }
def QueryShapesUptoCardSaid : Prop := Claim7.holds Tryz.pinned (.plain (OpenSpec.upto queryShapesSpec)) queryShapesUptoCard

/-- THE SECOND FORM's CARD OF 'osierlaw10.ChangeNets'. -/
def changeNetsUptoCard : Claim7 := { stood := { row := changeNetsUptoRow, standIns := [], harness := (true, "85d78c3063dbed4cd12c624a77440bcf7dbec1af04034ea7816c91a4bf3c1925"), looks := true }, kinds := [], alts := [], laidByText := true, laidKinds := [.data, .data, .data, .sentinel, .sentinel], laidTests := true, laidLooks := .later }
def ChangeNetsUptoCardSaid : Prop := Claim7.holds Tryz.pinned (.plain (OpenSpec.upto changeNetsSpec)) changeNetsUptoCard

/-- THE SECOND FORM's CARD OF 'osierlaw10.ChangeSays'. -/
def changeSaysUptoCard : Claim7 := { stood := { row := changeSaysUptoRow, standIns := [], harness := (true, "85d78c3063dbed4cd12c624a77440bcf7dbec1af04034ea7816c91a4bf3c1925"), looks := true }, kinds := [], alts := [], laidByText := true, laidKinds := [.data, .data, .data, .sentinel, .sentinel], laidTests := true, laidLooks := .later }
def ChangeSaysUptoCardSaid : Prop := Claim7.holds Tryz.pinned (.plain (OpenSpec.upto changeSaysSpec)) changeSaysUptoCard

/-- THE SECOND FORM's CARD OF 'osierlaw10.ChangeMemory'. -/
def changeMemoryUptoCard : Claim7 := { stood := { row := changeMemoryUptoRow, standIns := [], harness := (true, "85d78c3063dbed4cd12c624a77440bcf7dbec1af04034ea7816c91a4bf3c1925"), looks := true }, kinds := [], alts := [], laidByText := true, laidKinds := [.data, .data, .data, .sentinel, .sentinel], laidTests := true, laidLooks := .later }
def ChangeMemoryUptoCardSaid : Prop := Claim7.holds Tryz.pinned (.plain (OpenSpec.upto changeMemorySpec)) changeMemoryUptoCard
end Rows
end Go.Proofs.YtgilflkgibfjgaaGreatDoor
