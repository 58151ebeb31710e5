/-
  DERIVED. GIVEN WITH THE SEED: THE CARDS: each row of YtgopfpjinohncaaGreatDoorRows.lean that lists a variable, with what it lists TIED to the program's text (the seventh form; the later family's looks); each row that meets fmt, with fmt's text TOLD by the authors' own Lean function (tested against real Go, not proved from fmt's source: count such statements apart). THE CARD IS WHAT COUNTS. Prove the row's statement (the work); the ties are given (YtgopfpjinohncaaGreatDoorTie.lean); close each card by the builder's one call (the guide's Derived/Test/ToyasCard.lean, 'card_holds'). Laid BY PROGRAM, IN A SANDBOX (cutbox-door.mjs). By AI agents, Wed Nov 11 2026. No macro, syntax, notation, axiom, sorry.
-/
import Derived.Test.YtgopfpjinohncaaGreatDoorRows
import GoSem.ClaimSeven
namespace Go.Proofs.YtgopfpjinohncaaGreatDoor
namespace Rows

/-- THE TIED CARD OF 'osierlaw26.DumpLines'. -/
def dumpLinesCard : Claim7 := { stood := { row := dumpLinesRow, standIns := [], harness := (true, "981faa977e7ec108ed44328ddcd4be334e846bf0af66ba876ff259334bb5fd8e"), looks := true }, kinds := [], alts := [], laidByText := true, laidKinds := [.data, .data, .data, .sentinel, .sentinel, .data], laidTests := true, laidLooks := .later }
def DumpLinesCardSaid : Prop := Claim7.holds Tryz.pinned (.plain (OpenSpec.ofChange dumpLinesSpec)) dumpLinesCard

/-- THE TIED CARD OF 'osierlaw26.DumpLoads'. -/
def dumpLoadsCard : Claim7 := { stood := { row := dumpLoadsRow, standIns := [], harness := (true, "981faa977e7ec108ed44328ddcd4be334e846bf0af66ba876ff259334bb5fd8e"), looks := true }, kinds := [], alts := [], laidByText := true, laidKinds := [.data, .data, .data, .sentinel, .sentinel, .data], laidTests := true, laidLooks := .later }
def DumpLoadsCardSaid : Prop := Claim7.holds Tryz.pinned (.plain (OpenSpec.ofChange dumpLoadsSpec)) dumpLoadsCard

/-- THE TIED CARD OF 'osierlaw26.DumpBack'. -/
def dumpBackCard : Claim7 := { stood := { row := dumpBackRow, standIns := [], harness := (true, "981faa977e7ec108ed44328ddcd4be334e846bf0af66ba876ff259334bb5fd8e"), looks := true }, kinds := [], alts := [], laidByText := true, laidKinds := [.data, .data, .data, .sentinel, .sentinel, .data], laidTests := true, laidLooks := .later }
def DumpBackCardSaid : Prop := Claim7.holds Tryz.pinned (.plain (OpenSpec.ofChange dumpBackSpec)) dumpBackCard

/-- THE TIED CARD OF 'osierlaw26.DumpFits'. -/
def dumpFitsCard : Claim7 := { stood := { row := dumpFitsRow, standIns := [], harness := (true, "981faa977e7ec108ed44328ddcd4be334e846bf0af66ba876ff259334bb5fd8e"), looks := true }, kinds := [], alts := [], laidByText := true, laidKinds := [.data, .data, .data, .sentinel, .sentinel, .data], laidTests := true, laidLooks := .later }
def DumpFitsCardSaid : Prop := Claim7.holds Tryz.pinned (.plain (OpenSpec.ofChange dumpFitsSpec)) dumpFitsCard

/-- THE TIED CARD OF 'osierlaw26.DumpTurned'. -/
def dumpTurnedCard : Claim7 := { stood := { row := dumpTurnedRow, standIns := [], harness := (true, "981faa977e7ec108ed44328ddcd4be334e846bf0af66ba876ff259334bb5fd8e"), looks := true }, kinds := [], alts := [], laidByText := true, laidKinds := [.data, .data, .data, .sentinel, .sentinel, .data], laidTests := true, laidLooks := .later }
def DumpTurnedCardSaid : Prop := Claim7.holds Tryz.pinned (.plain (OpenSpec.ofChange dumpTurnedSpec)) dumpTurnedCard

/-- THE TIED CARD OF 'osierlaw26.DumpAgain'. -/
def dumpAgainCard : Claim7 := { stood := { row := dumpAgainRow, standIns := [], harness := (true, "981faa977e7ec108ed44328ddcd4be334e846bf0af66ba876ff259334bb5fd8e"), looks := true }, kinds := [], alts := [], laidByText := true, laidKinds := [.data, .data, .data, .sentinel, .sentinel, .data], laidTests := true, laidLooks := .later }
def DumpAgainCardSaid : Prop := Claim7.holds Tryz.pinned (.plain (OpenSpec.ofChange dumpAgainSpec)) dumpAgainCard

/-- THE SECOND FORM's CARD OF 'osierlaw26.DumpLines'. -/
def dumpLinesUptoCard : Claim7 := { stood := { row := dumpLinesUptoRow, standIns := [], harness := (true, "981faa977e7ec108ed44328ddcd4be334e846bf0af66ba876ff259334bb5fd8e"), looks := true }, kinds := [], alts := [], laidByText := true, laidKinds := [.data, .data, .data, .sentinel, .sentinel, .data], laidTests := true, laidLooks := .later }
def DumpLinesUptoCardSaid : Prop := Claim7.holds Tryz.pinned (.plain (OpenSpec.upto dumpLinesSpec)) dumpLinesUptoCard

/-- THE SECOND FORM's CARD OF 'osierlaw26.DumpLoads'. -/
def dumpLoadsUptoCard : Claim7 := { stood := { row := dumpLoadsUptoRow, standIns := [], harness := (true, "981faa977e7ec108ed44328ddcd4be334e846bf0af66ba876ff259334bb5fd8e"), looks := true }, kinds := [], alts := [], laidByText := true, laidKinds := [.data, .data, .data, .sentinel, .sentinel, .data], laidTests := true, laidLooks := .later }
def DumpLoadsUptoCardSaid : Prop := Claim7.holds Tryz.pinned (.plain (OpenSpec.upto dumpLoadsSpec)) dumpLoadsUptoCard

/-- THE SECOND FORM's CARD OF 'osierlaw26.DumpBack'. -/
def dumpBackUptoCard : Claim7 := { stood := { row := dumpBackUptoRow, standIns := [], harness := (true, "981faa977e7ec108ed44328ddcd4be334e846bf0af66ba876ff259334bb5fd8e"), looks := true }, kinds := [], alts := [], laidByText := true, laidKinds := [.data, .data, .data, .sentinel, .sentinel, .data], laidTests := true, laidLooks := .later }
def DumpBackUptoCardSaid : Prop := Claim7.holds Tryz.pinned (.plain (OpenSpec.upto dumpBackSpec)) dumpBackUptoCard

/-- THE SECOND FORM's CARD OF 'osierlaw26.DumpFits'. -/
def dumpFitsUptoCard : Claim7 := { stood := { row := dumpFitsUptoRow, standIns := [], harness := (true, "981faa977e7ec108ed44328ddcd4be334e846bf0af66ba876ff259334bb5fd8e"), looks := true }, kinds := [], alts := [], laidByText := true, laidKinds := [.data, .data, .data, .sentinel, .sentinel, .data], laidTests := true, laidLooks := .later }
def DumpFitsUptoCardSaid : Prop := Claim7.holds Tryz.pinned (.plain (OpenSpec.upto dumpFitsSpec)) dumpFitsUptoCard

/-- THE SECOND FORM's CARD OF 'osierlaw26.DumpTurned'. -/
def dumpTurnedUptoCard : Claim7 := { stood := { row := dumpTurnedUptoRow, standIns := [], harness := (true, "981faa977e7ec108ed44328ddcd4be334e846bf0af66ba876ff259334bb5fd8e"), looks := true }, kinds := [], alts := [], laidByText := true, laidKinds := [.data, .data, .data, .sentinel, .sentinel, .data], laidTests := true, laidLooks := .later }
def DumpTurnedUptoCardSaid : Prop := Claim7.holds Tryz.pinned (.plain (OpenSpec.upto dumpTurnedSpec)) dumpTurnedUptoCard

/-- THE SECOND FORM's CARD OF 'osierlaw26.DumpAgain'. -/
def dumpAgainUptoCard : Claim7 := { stood := { row := dumpAgainUptoRow, standIns := [], harness := (true, "981faa977e7ec108ed44328ddcd4be334e846bf0af66ba876ff259334bb5fd8e"), looks := true }, kinds := [], alts := [], laidByText := true, laidKinds := [.data, .data, .data, .sentinel, .sentinel, .data], laidTests := true, laidLooks := .later }
def DumpAgainUptoCardSaid : Prop := Claim7.holds Tryz.pinned (.plain (OpenSpec.upto dumpAgainSpec)) dumpAgainUptoCard
end Rows
end Go.Proofs.YtgopfpjinohncaaGreatDoor
