/-
  DERIVED. GIVEN WITH THE SEED: THE CARDS: each row of YtgilflkgibfjgaaDoorRows.lean that lists a variable, with what it lists TIED to the program's text (the seventh form; the later family's looks); each row that meets fmt, with fmt's text TOLD by the authors' own Lean function (tested against real Go, not proved from fmt's source: count such statements apart). THE CARD IS WHAT COUNTS. Prove the row's statement (the work); the ties are given (YtgilflkgibfjgaaDoorTie.lean); close each card by the builder's one call (the guide's Derived/Test/ToyasCard.lean, 'card_holds'). Laid BY PROGRAM, IN A SANDBOX (cutbox-door.mjs). By AI agents, Wed Nov 11 2026. No macro, syntax, notation, axiom, sorry.
-/
import Derived.Test.YtgilflkgibfjgaaDoorRows
import GoSem.ClaimSeven
namespace Go.Proofs.YtgilflkgibfjgaaDoor
namespace Rows

/-- THE TIED CARD OF 'osierlaw09.QueryPlain'. -/
def queryPlainCard : Claim7 := { stood := { row := queryPlainRow, standIns := [], harness := (true, "b0738afa45a9ea9790b5d7064edc6d7b83a322f4b965ff4c9f3d5766f405f86b"), looks := true }, kinds := [], alts := [], laidByText := true, laidKinds := [.data, .data, .data, .sentinel, .sentinel], laidTests := true, laidLooks := .later }
def QueryPlainCardSaid : Prop := Claim7.holds Tryd.pinned (.plain (OpenSpec.ofChange queryPlainSpec)) queryPlainCard

/-- THE TIED CARD OF 'osierlaw09.QueryAlike'. -/
def queryAlikeCard : Claim7 := { stood := { row := queryAlikeRow, standIns := [], harness := (true, "b0738afa45a9ea9790b5d7064edc6d7b83a322f4b965ff4c9f3d5766f405f86b"), looks := true }, kinds := [], alts := [], laidByText := true, laidKinds := [.data, .data, .data, .sentinel, .sentinel], laidTests := true, laidLooks := .later }
def QueryAlikeCardSaid : Prop := Claim7.holds Tryd.pinned (.plain (OpenSpec.ofChange queryAlikeSpec)) queryAlikeCard

/-- THE TIED CARD OF 'osierlaw09.QueryMemory'. -/
def queryMemoryCard : Claim7 := { stood := { row := queryMemoryRow, standIns := [], harness := (true, "b0738afa45a9ea9790b5d7064edc6d7b83a322f4b965ff4c9f3d5766f405f86b"), looks := true }, kinds := [], alts := [], laidByText := true, laidKinds := [.data, .data, .data, .sentinel, .sentinel], laidTests := true, laidLooks := .later }
def QueryMemoryCardSaid : Prop := Claim7.holds Tryd.pinned (.plain (OpenSpec.ofChange queryMemorySpec)) queryMemoryCard

/-- THE TIED CARD OF 'osierlaw10.ChangeShows'. -/
def changeShowsCard : Claim7 := { stood := { row := changeShowsRow, standIns := [], harness := (true, "b0738afa45a9ea9790b5d7064edc6d7b83a322f4b965ff4c9f3d5766f405f86b"), looks := true }, kinds := [], alts := [], laidByText := true, laidKinds := [.data, .data, .data, .sentinel, .sentinel], laidTests := true, laidLooks := .later }
def ChangeShowsCardSaid : Prop := Claim7.holds Tryd.pinned (.plain (OpenSpec.ofChange changeShowsSpec)) changeShowsCard

/-- THE TIED CARD OF 'osierlaw10.ChangeBack'. -/
def changeBackCard : Claim7 := { stood := { row := changeBackRow, standIns := [], harness := (true, "b0738afa45a9ea9790b5d7064edc6d7b83a322f4b965ff4c9f3d5766f405f86b"), looks := true }, kinds := [], alts := [], laidByText := true, laidKinds := [.data, .data, .data, .sentinel, .sentinel], laidTests := true, laidLooks := .later }
def ChangeBackCardSaid : Prop := Claim7.holds Tryd.pinned (.plain (OpenSpec.ofChange changeBackSpec)) changeBackCard

/-- THE TIED CARD OF 'osierlaw10.ChangeOnce'. -/
def changeOnceCard : Claim7 := { stood := { row := changeOnceRow, standIns := [], harness := (true, "b0738afa45a9ea9790b5d7064edc6d7b83a322f4b965ff4c9f3d5766f405f86b"), looks := true }, kinds := [], alts := [], laidByText := true, laidKinds := [.data, .data, .data, .sentinel, .sentinel], laidTests := true, laidLooks := .later }
def ChangeOnceCardSaid : Prop := Claim7.holds Tryd.pinned (.plain (OpenSpec.ofChange changeOnceSpec)) changeOnceCard

/-- THE TIED CARD OF 'osierlaw08.SchemaFits'. -/
def schemaFitsCard : Claim7 := { stood := { row := schemaFitsRow, standIns := [], harness := (true, "b0738afa45a9ea9790b5d7064edc6d7b83a322f4b965ff4c9f3d5766f405f86b"), looks := true }, kinds := [], alts := [], laidByText := true, laidKinds := [.data, .data, .data, .sentinel, .sentinel], laidTests := true, laidLooks := .later }
def SchemaFitsCardSaid : Prop := Claim7.holds Tryd.pinned (.plain (OpenSpec.ofChange schemaFitsSpec)) schemaFitsCard

/-- THE TIED CARD OF 'osierlaw10.ChangeChecks'. -/
def changeChecksCard : Claim7 := { stood := { row := changeChecksRow, standIns := [], harness := (true, "b0738afa45a9ea9790b5d7064edc6d7b83a322f4b965ff4c9f3d5766f405f86b"), looks := true }, kinds := [], alts := [], laidByText := true, laidKinds := [.data, .data, .data, .sentinel, .sentinel], laidTests := true, laidLooks := .later }
def ChangeChecksCardSaid : Prop := Claim7.holds Tryd.pinned (.plain (OpenSpec.ofChange changeChecksSpec)) changeChecksCard

/-- THE TIED CARD OF 'osierlaw08.SchemaPlays'. -/
def schemaPlaysCard : Claim7 := { stood := { row := schemaPlaysRow, standIns := [], harness := (true, "b0738afa45a9ea9790b5d7064edc6d7b83a322f4b965ff4c9f3d5766f405f86b"), looks := true }, kinds := [], alts := [], laidByText := true, laidKinds := [.data, .data, .data, .sentinel, .sentinel], laidTests := true, laidLooks := .later }
def SchemaPlaysCardSaid : Prop := Claim7.holds Tryd.pinned (.plain (OpenSpec.ofChange schemaPlaysSpec)) schemaPlaysCard

/-- THE TIED CARD OF 'osierlaw10.ChangeInverts'. -/
def changeInvertsCard : Claim7 := { stood := { row := changeInvertsRow, standIns := [], harness := (true, "b0738afa45a9ea9790b5d7064edc6d7b83a322f4b965ff4c9f3d5766f405f86b"), looks := true }, kinds := [], alts := [], laidByText := true, laidKinds := [.data, .data, .data, .sentinel, .sentinel], laidTests := true, laidLooks := .later }
def ChangeInvertsCardSaid : Prop := Claim7.holds Tryd.pinned (.plain (OpenSpec.ofChange changeInvertsSpec)) changeInvertsCard

/-- THE SECOND FORM's CARD OF 'osierlaw09.QueryPlain'. -/
def queryPlainUptoCard : Claim7 := { stood := { row := queryPlainUptoRow, standIns := [], harness := (true, "b0738afa45a9ea9790b5d7064edc6d7b83a322f4b965ff4c9f3d5766f405f86b"), looks := true }, kinds := [], alts := [], laidByText := true, laidKinds := [.data, .data, .data, .sentinel, .sentinel], laidTests := true, laidLooks := .later }
def QueryPlainUptoCardSaid : Prop := Claim7.holds Tryd.pinned (.plain (OpenSpec.upto queryPlainSpec)) queryPlainUptoCard

/-- THE SECOND FORM's CARD OF 'osierlaw09.QueryAlike'. -/
def queryAlikeUptoCard : Claim7 := { stood := { row := queryAlikeUptoRow, standIns := [], harness := (true, "b0738afa45a9ea9790b5d7064edc6d7b83a322f4b965ff4c9f3d5766f405f86b"), looks := true }, kinds := [], alts := [], laidByText := true, laidKinds := [.data, .data, .data, .sentinel, .sentinel], laidTests := true, laidLooks := .later }
def QueryAlikeUptoCardSaid : Prop := Claim7.holds Tryd.pinned (.plain (OpenSpec.upto queryAlikeSpec)) queryAlikeUptoCard

/-- THE SECOND FORM's CARD OF 'osierlaw09.QueryMemory'. -/
def queryMemoryUptoCard : Claim7 := { stood := { row := queryMemoryUptoRow, standIns := [], harness := (true, "b0738afa45a9ea9790b5d7064edc6d7b83a322f4b965ff4c9f3d5766f405f86b"), looks := true }, kinds := [], alts := [], laidByText := true, laidKinds := [.data, .data, .data, .sentinel, .sentinel], laidTests := true, laidLooks := .later }
def QueryMemoryUptoCardSaid : Prop := Claim7.holds Tryd.pinned (.plain (OpenSpec.upto queryMemorySpec)) queryMemoryUptoCard

/-- THE SECOND FORM's CARD OF 'osierlaw10.ChangeShows'. -/
def changeShowsUptoCard : Claim7 := { stood := { row := changeShowsUptoRow, standIns := [], harness := (true, "b0738afa45a9ea9790b5d7064edc6d7b83a322f4b965ff4c9f3d5766f405f86b"), looks := true }, kinds := [], alts := [], laidByText := true, laidKinds := [.data, .data, .data, .sentinel, .sentinel], laidTests := true, laidLooks := .later }
def ChangeShowsUptoCardSaid : Prop := Claim7.holds Tryd.pinned (.plain (OpenSpec.upto changeShowsSpec)) changeShowsUptoCard

/-- THE SECOND FORM's CARD OF 'osierlaw10.ChangeBack'. -/
def changeBackUptoCard : Claim7 := { stood := { row := changeBackUptoRow, standIns := [], harness := (true, "b0738afa45a9ea9790b5d7064edc6d7b83a322f4b965ff4c9f3d5766f405f86b"), looks := true }, kinds := [], alts := [], laidByText := true, laidKinds := [.data, .data, .data, .sentinel, .sentinel], laidTests := true, laidLooks := .later }
def ChangeBackUptoCardSaid : Prop := Claim7.holds Tryd.pinned (.plain (OpenSpec.upto changeBackSpec)) changeBackUptoCard

/-- THE SECOND FORM's CARD OF 'osierlaw10.ChangeOnce'. -/
def changeOnceUptoCard : Claim7 := { stood := { row := changeOnceUptoRow, standIns := [], harness := (true, "b0738afa45a9ea9790b5d7064edc6d7b83a322f4b965ff4c9f3d5766f405f86b"), looks := true }, kinds := [], alts := [], laidByText := true, laidKinds := [.data, .data, .data, .sentinel, .sentinel], laidTests := true, laidLooks := .later }
def ChangeOnceUptoCardSaid : Prop := Claim7.holds Tryd.pinned (.plain (OpenSpec.upto changeOnceSpec)) changeOnceUptoCard

/-- THE SECOND FORM's CARD OF 'osierlaw08.SchemaFits'. -/
def schemaFitsUptoCard : Claim7 := { stood := { row := schemaFitsUptoRow, standIns := [], harness := (true, "b0738afa45a9ea9790b5d7064edc6d7b83a322f4b965ff4c9f3d5766f405f86b"), looks := true }, kinds := [], alts := [], laidByText := true, laidKinds := [.data, .data, .data, .sentinel, .sentinel], laidTests := true, laidLooks := .later }
def SchemaFitsUptoCardSaid : Prop := Claim7.holds Tryd.pinned (.plain (OpenSpec.upto schemaFitsSpec)) schemaFitsUptoCard

/-- THE SECOND FORM's CARD OF 'osierlaw10.ChangeChecks'. -/
def changeChecksUptoCard : Claim7 := { stood := { row := changeChecksUptoRow, standIns := [], harness := (true, "b0738afa45a9ea9790b5d7064edc6d7b83a322f4b965ff4c9f3d5766f405f86b"), looks := true }, kinds := [], alts := [], laidByText := true, laidKinds := [.data, .data, .data, .sentinel, .sentinel], laidTests := true, laidLooks := .later }
def ChangeChecksUptoCardSaid : Prop := Claim7.holds Tryd.pinned (.plain (OpenSpec.upto changeChecksSpec)) changeChecksUptoCard

/-- THE SECOND FORM's CARD OF 'osierlaw08.SchemaPlays'. -/
def schemaPlaysUptoCard : Claim7 := { stood := { row := schemaPlaysUptoRow, standIns := [], harness := (true, "b0738afa45a9ea9790b5d7064edc6d7b83a322f4b965ff4c9f3d5766f405f86b"), looks := true }, kinds := [], alts := [], laidByText := true, laidKinds := [.data, .data, .data, .sentinel, .sentinel], laidTests := true, laidLooks := .later }
def SchemaPlaysUptoCardSaid : Prop := Claim7.holds Tryd.pinned (.plain (OpenSpec.upto schemaPlaysSpec)) schemaPlaysUptoCard

/-- THE SECOND FORM's CARD OF 'osierlaw10.ChangeInverts'. -/
def changeInvertsUptoCard : Claim7 := { stood := { row := changeInvertsUptoRow, standIns := [], harness := (true, "b0738afa45a9ea9790b5d7064edc6d7b83a322f4b965ff4c9f3d5766f405f86b"), looks := true }, kinds := [], alts := [], laidByText := true, laidKinds := [.data, .data, .data, .sentinel, .sentinel], laidTests := true, laidLooks := .later }
def ChangeInvertsUptoCardSaid : Prop := Claim7.holds Tryd.pinned (.plain (OpenSpec.upto changeInvertsSpec)) changeInvertsUptoCard
end Rows
end Go.Proofs.YtgilflkgibfjgaaDoor
