/-
  DERIVED. GIVEN WITH THE SEED: THE CARDS: each row of YtbehonaegfpmoaaGreatDoorRows.lean that lists a variable, with what it lists TIED to the program's text (the seventh form; the later family's looks); each row that meets fmt, with fmt's text TOLD by the authors' own Lean function (tested against real Go, not proved from fmt's source: count such statements apart). THE CARD IS WHAT COUNTS. Prove the row's statement (the work); the ties are given (YtbehonaegfpmoaaGreatDoorTie.lean); close each card by the builder's one call (the guide's Derived/Test/ToyasCard.lean, 'card_holds'). Laid BY PROGRAM, IN A SANDBOX (cutbox-door.mjs). By AI agents, Wed Nov 11 2026. No macro, syntax, notation, axiom, sorry.
-/
import Derived.Test.YtbehonaegfpmoaaGreatDoorRows
import GoSem.ClaimSeven
namespace Go.Proofs.YtbehonaegfpmoaaGreatDoor
namespace Rows

/-- THE TIED CARD OF 'osierlaw09.QueryChecks'. -/
def queryChecksCard : Claim7 := { stood := { row := queryChecksRow, standIns := [], harness := (true, "9c9f632221519cc0ab2682a76d34ae7cef8ef56b227f41509095a334140617ba"), looks := true }, kinds := [], alts := [], laidByText := true, laidKinds := [.data, .data, .data, .sentinel, .sentinel], laidTests := true, laidLooks := .later }
def QueryChecksCardSaid : Prop := Claim7.holds Tryz.pinned (.plain (OpenSpec.ofChange queryChecksSpec)) queryChecksCard

/-- THE TIED CARD OF 'osierlaw09.QueryShapes'. -/
def queryShapesCard : Claim7 := { stood := { row := queryShapesRow, standIns := [], harness := (true, "9c9f632221519cc0ab2682a76d34ae7cef8ef56b227f41509095a334140617ba"), looks := true }, kinds := [], alts := [], laidByText := true, laidKinds := [.data, .data, .data, .sentinel, .sentinel], laidTests := true, laidLooks := .later }
def QueryShapesCardSaid : Prop := Claim7.holds Tryz.pinned (.plain (OpenSpec.ofChange queryShapesSpec)) queryShapesCard

/-- THE TIED CARD OF 'osierlaw09.QueryBack'. -/
def queryBackCard : Claim7 := { stood := { row := queryBackRow, standIns := [], harness := (true, "9c9f632221519cc0ab2682a76d34ae7cef8ef56b227f41509095a334140617ba"), looks := true }, kinds := [], alts := [], laidByText := true, laidKinds := [.data, .data, .data, .sentinel, .sentinel], laidTests := true, laidLooks := .later }
def QueryBackCardSaid : Prop := Claim7.holds Tryz.pinned (.plain (OpenSpec.ofChange queryBackSpec)) queryBackCard

/-- THE TIED CARD OF 'osierlaw09.QueryOnce'. -/
def queryOnceCard : Claim7 := { stood := { row := queryOnceRow, standIns := [], harness := (true, "9c9f632221519cc0ab2682a76d34ae7cef8ef56b227f41509095a334140617ba"), looks := true }, kinds := [], alts := [], laidByText := true, laidKinds := [.data, .data, .data, .sentinel, .sentinel], laidTests := true, laidLooks := .later }
def QueryOnceCardSaid : Prop := Claim7.holds Tryz.pinned (.plain (OpenSpec.ofChange queryOnceSpec)) queryOnceCard

/-- THE SECOND FORM's CARD OF 'osierlaw09.QueryChecks'. -/
def queryChecksUptoCard : Claim7 := { stood := { row := queryChecksUptoRow, standIns := [], harness := (true, "9c9f632221519cc0ab2682a76d34ae7cef8ef56b227f41509095a334140617ba"), looks := true }, kinds := [], alts := [], laidByText := true, laidKinds := [.data, .data, .data, .sentinel, .sentinel], laidTests := true, laidLooks := .later }
def QueryChecksUptoCardSaid : Prop := Claim7.holds Tryz.pinned (.plain (OpenSpec.upto queryChecksSpec)) queryChecksUptoCard

/-- THE SECOND FORM's CARD OF 'osierlaw09.QueryShapes'. -/
def queryShapesUptoCard : Claim7 := { stood := { row := queryShapesUptoRow, standIns := [], harness := (true, "9c9f632221519cc0ab2682a76d34ae7cef8ef56b227f41509095a334140617ba"), looks := true }, kinds := [], alts := [], laidByText := true, laidKinds := [.data, .data, .data, .sentinel, .sentinel], laidTests := true, laidLooks := .later }
def QueryShapesUptoCardSaid : Prop := Claim7.holds Tryz.pinned (.plain (OpenSpec.upto queryShapesSpec)) queryShapesUptoCard

/-- THE SECOND FORM's CARD OF 'osierlaw09.QueryBack'. -/
def queryBackUptoCard : Claim7 := { stood := { row := queryBackUptoRow, standIns := [], harness := (true, "9c9f632221519cc0ab2682a76d34ae7cef8ef56b227f41509095a334140617ba"), looks := true }, kinds := [], alts := [], laidByText := true, laidKinds := [.data, .data, .data, .sentinel, .sentinel], laidTests := true, laidLooks := .later }
def QueryBackUptoCardSaid : Prop := Claim7.holds Tryz.pinned (.plain (OpenSpec.upto queryBackSpec)) queryBackUptoCard

/-- THE SECOND FORM's CARD OF 'osierlaw09.QueryOnce'. -/
def queryOnceUptoCard : Claim7 := { stood := { row := queryOnceUptoRow, standIns := [], harness := (true, "9c9f632221519cc0ab2682a76d34ae7cef8ef56b227f41509095a334140617ba"), looks := true }, kinds := [], alts := [], laidByText := true, laidKinds := [.data, .data, .data, .sentinel, .sentinel], laidTests := true, laidLooks := .later }
def QueryOnceUptoCardSaid : Prop := Claim7.holds Tryz.pinned (.plain (OpenSpec.upto queryOnceSpec)) queryOnceUptoCard
end Rows
end Go.Proofs.YtbehonaegfpmoaaGreatDoor
