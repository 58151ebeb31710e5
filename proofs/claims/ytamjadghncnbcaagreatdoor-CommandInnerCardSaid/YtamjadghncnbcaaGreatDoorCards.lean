/-
  DERIVED. GIVEN WITH THE SEED: THE CARDS: each row of YtamjadghncnbcaaGreatDoorRows.lean that lists a variable, with what it lists TIED to the program's text (the seventh form; the later family's looks); each row that meets fmt, with fmt's text TOLD by the authors' own Lean function (tested against real Go, not proved from fmt's source: count such statements apart). THE CARD IS WHAT COUNTS. Prove the row's statement (the work); the ties are given (YtamjadghncnbcaaGreatDoorTie.lean); close each card by the builder's one call (the guide's Derived/Test/ToyasCard.lean, 'card_holds'). Laid BY PROGRAM, IN A SANDBOX (cutbox-door.mjs). By AI agents, Wed Nov 11 2026. No macro, syntax, notation, axiom, sorry.
-/
import Derived.Test.YtamjadghncnbcaaGreatDoorRows
import GoSem.ClaimSeven
namespace Go.Proofs.YtamjadghncnbcaaGreatDoor
namespace Rows

/-- THE TIED CARD OF 'osierlaw25.CommandParses'. -/
def commandParsesCard : Claim7 := { stood := { row := commandParsesRow, standIns := [], harness := (true, "91a089145de125235e2385fe1ddb7a1a986ae70438e10bdb0dc7c910f247b1dd"), looks := true }, kinds := [], alts := [], laidByText := true, laidKinds := [.data, .data, .data, .sentinel, .sentinel, .data], laidTests := true, laidLooks := .later }
def CommandParsesCardSaid : Prop := Claim7.holds Tryz.pinned (.plain (OpenSpec.ofChange commandParsesSpec)) commandParsesCard

/-- THE TIED CARD OF 'osierlaw25.CommandTexts'. -/
def commandTextsCard : Claim7 := { stood := { row := commandTextsRow, standIns := [], harness := (true, "91a089145de125235e2385fe1ddb7a1a986ae70438e10bdb0dc7c910f247b1dd"), looks := true }, kinds := [], alts := [], laidByText := true, laidKinds := [.data, .data, .data, .sentinel, .sentinel, .data], laidTests := true, laidLooks := .later }
def CommandTextsCardSaid : Prop := Claim7.holds Tryz.pinned (.plain (OpenSpec.ofChange commandTextsSpec)) commandTextsCard

/-- THE TIED CARD OF 'osierlaw25.CommandBlanks'. -/
def commandBlanksCard : Claim7 := { stood := { row := commandBlanksRow, standIns := [], harness := (true, "91a089145de125235e2385fe1ddb7a1a986ae70438e10bdb0dc7c910f247b1dd"), looks := true }, kinds := [], alts := [], laidByText := true, laidKinds := [.data, .data, .data, .sentinel, .sentinel, .data], laidTests := true, laidLooks := .later }
def CommandBlanksCardSaid : Prop := Claim7.holds Tryz.pinned (.plain (OpenSpec.ofChange commandBlanksSpec)) commandBlanksCard

/-- THE TIED CARD OF 'osierlaw25.CommandBack'. -/
def commandBackCard : Claim7 := { stood := { row := commandBackRow, standIns := [], harness := (true, "91a089145de125235e2385fe1ddb7a1a986ae70438e10bdb0dc7c910f247b1dd"), looks := true }, kinds := [], alts := [], laidByText := true, laidKinds := [.data, .data, .data, .sentinel, .sentinel, .data], laidTests := true, laidLooks := .later }
def CommandBackCardSaid : Prop := Claim7.holds Tryz.pinned (.plain (OpenSpec.ofChange commandBackSpec)) commandBackCard

/-- THE TIED CARD OF 'osierlaw25.CommandOnce'. -/
def commandOnceCard : Claim7 := { stood := { row := commandOnceRow, standIns := [], harness := (true, "91a089145de125235e2385fe1ddb7a1a986ae70438e10bdb0dc7c910f247b1dd"), looks := true }, kinds := [], alts := [], laidByText := true, laidKinds := [.data, .data, .data, .sentinel, .sentinel, .data], laidTests := true, laidLooks := .later }
def CommandOnceCardSaid : Prop := Claim7.holds Tryz.pinned (.plain (OpenSpec.ofChange commandOnceSpec)) commandOnceCard

/-- THE TIED CARD OF 'osierlaw25.CommandInner'. -/
def commandInnerCard : Claim7 := { stood := { row := commandInnerRow, standIns := [], harness := (true, "91a089145de125235e2385fe1ddb7a1a986ae70438e10bdb0dc7c910f247b1dd"), looks := true }, kinds := [], alts := [], laidByText := true, laidKinds := [.data, .data, .data, .sentinel, .sentinel, .data], laidTests := true, laidLooks := .later }
def CommandInnerCardSaid : Prop := Claim7.holds Tryz.pinned (.plain (OpenSpec.ofChange commandInnerSpec)) commandInnerCard

/-- THE TIED CARD OF 'osierlaw25.CommandMemory'. -/
def commandMemoryCard : Claim7 := { stood := { row := commandMemoryRow, standIns := [], harness := (true, "91a089145de125235e2385fe1ddb7a1a986ae70438e10bdb0dc7c910f247b1dd"), looks := true }, kinds := [], alts := [], laidByText := true, laidKinds := [.data, .data, .data, .sentinel, .sentinel, .data], laidTests := true, laidLooks := .later }
def CommandMemoryCardSaid : Prop := Claim7.holds Tryz.pinned (.plain (OpenSpec.ofChange commandMemorySpec)) commandMemoryCard

/-- THE TIED CARD OF 'osierlaw10.ChangeNets'. -/
def changeNetsCard : Claim7 := { stood := { row := changeNetsRow, standIns := [], harness := (true, "91a089145de125235e2385fe1ddb7a1a986ae70438e10bdb0dc7c910f247b1dd"), looks := true }, kinds := [], alts := [], laidByText := true, laidKinds := [.data, .data, .data, .sentinel, .sentinel], laidTests := true, laidLooks := .later }
def ChangeNetsCardSaid : Prop := Claim7.holds Tryz.pinned (.plain (OpenSpec.ofChange changeNetsSpec)) changeNetsCard

/-- THE TIED CARD OF 'osierlaw10.ChangeSays'. -/
def changeSaysCard : Claim7 := { stood := { row := changeSaysRow, standIns := [], harness := (true, "91a089145de125235e2385fe1ddb7a1a986ae70438e10bdb0dc7c910f247b1dd"), looks := true }, kinds := [], alts := [], laidByText := true, laidKinds := [.data, .data, .data, .sentinel, .sentinel], laidTests := true, laidLooks := .later }
def ChangeSaysCardSaid : Prop := Claim7.holds Tryz.pinned (.plain (OpenSpec.ofChange changeSaysSpec)) changeSaysCard

/-- THE TIED CARD OF 'osierlaw10.ChangeMemory'. -/
def changeMemoryCard : Claim7 := { stood := { row := changeMemoryRow, standIns := [], harness := (true, "91a089145de125235e2385fe1ddb7a1a986ae70438e10bdb0dc7c910f247b1dd"), looks := true }, kinds := [], alts := [], laidByText := true, laidKinds := [.data, .data, .data, .sentinel, .sentinel], laidTests := true, laidLooks := .later }
def ChangeMemoryCardSaid : Prop := Claim7.holds Tryz.pinned (.plain (OpenSpec.ofChange changeMemorySpec)) changeMemoryCard

/-- THE SECOND FORM's CARD OF 'osierlaw25.CommandParses'. -/
def commandParsesUptoCard : Claim7 := { stood := { row := commandParsesUptoRow, standIns := [], harness := (true, "91a089145de125235e2385fe1ddb7a1a986ae70438e10bdb0dc7c910f247b1dd"), looks := true }, kinds := [], alts := [], laidByText := true, laidKinds := [.data, .data, .data, .sentinel, .sentinel, .data], laidTests := true, laidLooks := .later }
def CommandParsesUptoCardSaid : Prop := Claim7.holds Tryz.pinned (.plain (OpenSpec.upto commandParsesSpec)) commandParsesUptoCard

/-- THE SECOND FORM's CARD OF 'osierlaw25.CommandTexts'. -/
def commandTextsUptoCard : Claim7 := { stood := { row := commandTextsUptoRow, standIns := [], harness := (true, "91a089145de125235e2385fe1ddb7a1a986ae70438e10bdb0dc7c910f247b1dd"), looks := true }, kinds := [], alts := [], laidByText := true, laidKinds := [.data, .data, .data, .sentinel, .sentinel, .data], laidTests := true, laidLooks := .later }
def CommandTextsUptoCardSaid : Prop := Claim7.holds Tryz.pinned (.plain (OpenSpec.upto commandTextsSpec)) commandTextsUptoCard

/-- THE SECOND FORM's CARD OF 'osierlaw25.CommandBlanks'. -/
def commandBlanksUptoCard : Claim7 := { stood := { row := commandBlanksUptoRow, standIns := [], harness := (true, "91a089145de125235e2385fe1ddb7a1a986ae70438e10bdb0dc7c910f247b1dd"), looks := true }, kinds := [], alts := [], laidByText := true, laidKinds := [.data, .data, .data, .sentinel, .sentinel, .data], laidTests := true, laidLooks := .later }
def CommandBlanksUptoCardSaid : Prop := Claim7.holds Tryz.pinned (.plain (OpenSpec.upto commandBlanksSpec)) commandBlanksUptoCard

/-- THE SECOND FORM's CARD OF 'osierlaw25.CommandBack'. -/
def commandBackUptoCard : Claim7 := { stood := { row := commandBackUptoRow, standIns := [], harness := (true, "91a089145de125235e2385fe1ddb7a1a986ae70438e10bdb0dc7c910f247b1dd"), looks := true }, kinds := [], alts := [], laidByText := true, laidKinds := [.data, .data, .data, .sentinel, .sentinel, .data], laidTests := true, laidLooks := .later }
def CommandBackUptoCardSaid : Prop := Claim7.holds Tryz.pinned (.plain (OpenSpec.upto commandBackSpec)) commandBackUptoCard

/-- THE SECOND FORM's CARD OF 'osierlaw25.CommandOnce'. -/
def commandOnceUptoCard : Claim7 := { stood := { row := commandOnceUptoRow, standIns := [], harness := (true, "91a089145de125235e2385fe1ddb7a1a986ae70438e10bdb0dc7c910f247b1dd"), looks := true }, kinds := [], alts := [], laidByText := true, laidKinds := [.data, .data, .data, .sentinel, .sentinel, .data], laidTests := true, laidLooks := .later }
def CommandOnceUptoCardSaid : Prop := Claim7.holds Tryz.pinned (.plain (OpenSpec.upto commandOnceSpec)) commandOnceUptoCard

/-- THE SECOND FORM's CARD OF 'osierlaw25.CommandInner'. -/
def commandInnerUptoCard : Claim7 := { stood := { row := commandInnerUptoRow, standIns := [], harness := (true, "91a089145de125235e2385fe1ddb7a1a986ae70438e10bdb0dc7c910f247b1dd"), looks := true }, kinds := [], alts := [], laidByText := true, laidKinds := [.data, .data, .data, .sentinel, .sentinel, .data], laidTests := true, laidLooks := .later }
def CommandInnerUptoCardSaid : Prop := Claim7.holds Tryz.pinned (.plain (OpenSpec.upto commandInnerSpec)) commandInnerUptoCard

/-- THE SECOND FORM's CARD OF 'osierlaw25.CommandMemory'. -/
def commandMemoryUptoCard : Claim7 := { stood := { row := commandMemoryUptoRow, standIns := [], harness := (true, "91a089145de125235e2385fe1ddb7a1a986ae70438e10bdb0dc7c910f247b1dd"), looks := true }, kinds := [], alts := [], laidByText := true, laidKinds := [.data, .data, .data, .sentinel, .sentinel, .data], laidTests := true, laidLooks := .later }
def CommandMemoryUptoCardSaid : Prop := Claim7.holds Tryz.pinned (.plain (OpenSpec.upto commandMemorySpec)) commandMemoryUptoCard

/-- THE SECOND FORM's CARD OF 'osierlaw10.ChangeNets'. -/
def changeNetsUptoCard : Claim7 := { stood := { row := changeNetsUptoRow, standIns := [], harness := (true, "91a089145de125235e2385fe1ddb7a1a986ae70438e10bdb0dc7c910f247b1dd"), looks := true }, kinds := [], alts := [], laidByText := true, laidKinds := [.data, .data, .data, .sentinel, .sentinel], laidTests := true, laidLooks := .later }
def ChangeNetsUptoCardSaid : Prop := Claim7.holds Tryz.pinned (.plain (OpenSpec.upto changeNetsSpec)) changeNetsUptoCard

/-- THE SECOND FORM's CARD OF 'osierlaw10.ChangeSays'. -/
def changeSaysUptoCard : Claim7 := { stood := { row := changeSaysUptoRow, standIns := [], harness := (true, "91a089145de125235e2385fe1ddb7a1a986ae70438e10bdb0dc7c910f247b1dd"), looks := true }, kinds := [], alts := [], laidByText := true, laidKinds := [.data, .data, .data, .sentinel, .sentinel], laidTests := true, laidLooks := .later }
def ChangeSaysUptoCardSaid : Prop := Claim7.holds Tryz.pinned (.plain (OpenSpec.upto changeSaysSpec)) changeSaysUptoCard

/-- THE SECOND FORM's CARD OF 'osierlaw10.ChangeMemory'. -/
def changeMemoryUptoCard : Claim7 := { stood := { row := changeMemoryUptoRow, standIns := [], harness := (true, "91a089145de125235e2385fe1ddb7a1a986ae70438e10bdb0dc7c910f247b1dd"), looks := true }, kinds := [], alts := [], laidByText := true, laidKinds := [.data, .data, .data, .sentinel, .sentinel], laidTests := true, laidLooks := .later }
def ChangeMemoryUptoCardSaid : Prop := Claim7.holds Tryz.pinned (.plain (OpenSpec.upto changeMemorySpec)) changeMemoryUptoCard
end Rows
end Go.Proofs.YtamjadghncnbcaaGreatDoor
