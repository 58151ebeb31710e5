/-
  DERIVED. GIVEN WITH THE SEED: THE CARDS: each row of YtbehonaegfpmoaaDoorRows.lean that lists a variable, with what it lists TIED to the program's text (the seventh form; the later family's looks); each row that meets fmt, with fmt's text TOLD by the authors' own Lean function (tested against real Go, not proved from fmt's source: count such statements apart). THE CARD IS WHAT COUNTS. Prove the row's statement (the work); the ties are given (YtbehonaegfpmoaaDoorTie.lean); close each card by the builder's one call (the guide's Derived/Test/ToyasCard.lean, 'card_holds'). Laid BY PROGRAM, IN A SANDBOX (cutbox-door.mjs). By AI agents, Wed Nov 11 2026. No macro, syntax, notation, axiom, sorry.
-/
import Derived.Test.YtbehonaegfpmoaaDoorRows
import GoSem.ClaimSeven
namespace Go.Proofs.YtbehonaegfpmoaaDoor
namespace Rows

/-- THE TIED CARD OF 'osierlaw09.QueryParses'. -/
def queryParsesCard : Claim7 := { stood := { row := queryParsesRow, standIns := [], harness := (true, "ff01a89e15e97c362aab42962ee1beb32ca5c06ab48f991d849a3ad63e8a3896"), looks := true }, kinds := [], alts := [], laidByText := true, laidKinds := [.data, .data, .data, .sentinel, .sentinel], laidTests := true, laidLooks := .later }
def QueryParsesCardSaid : Prop := Claim7.holds Tryd.pinned (.plain (OpenSpec.ofChange queryParsesSpec)) queryParsesCard

/-- THE TIED CARD OF 'osierlaw09.QueryVars'. -/
def queryVarsCard : Claim7 := { stood := { row := queryVarsRow, standIns := [], harness := (true, "ff01a89e15e97c362aab42962ee1beb32ca5c06ab48f991d849a3ad63e8a3896"), looks := true }, kinds := [], alts := [], laidByText := true, laidKinds := [.data, .data, .data, .sentinel, .sentinel], laidTests := true, laidLooks := .later }
def QueryVarsCardSaid : Prop := Claim7.holds Tryd.pinned (.plain (OpenSpec.ofChange queryVarsSpec)) queryVarsCard

/-- THE TIED CARD OF 'osierlaw09.QueryMatches'. -/
def queryMatchesCard : Claim7 := { stood := { row := queryMatchesRow, standIns := [], harness := (true, "ff01a89e15e97c362aab42962ee1beb32ca5c06ab48f991d849a3ad63e8a3896"), looks := true }, kinds := [], alts := [], laidByText := true, laidKinds := [.data, .data, .data, .sentinel, .sentinel], laidTests := true, laidLooks := .later }
def QueryMatchesCardSaid : Prop := Claim7.holds Tryd.pinned (.plain (OpenSpec.ofChange queryMatchesSpec)) queryMatchesCard

/-- THE TIED CARD OF 'osierlaw09.QueryFills'. -/
def queryFillsCard : Claim7 := { stood := { row := queryFillsRow, standIns := [], harness := (true, "ff01a89e15e97c362aab42962ee1beb32ca5c06ab48f991d849a3ad63e8a3896"), looks := true }, kinds := [], alts := [], laidByText := true, laidKinds := [.data, .data, .data, .sentinel, .sentinel], laidTests := true, laidLooks := .later }
def QueryFillsCardSaid : Prop := Claim7.holds Tryd.pinned (.plain (OpenSpec.ofChange queryFillsSpec)) queryFillsCard

/-- THE TIED CARD OF 'osierlaw08.SchemaParses'. -/
def schemaParsesCard : Claim7 := { stood := { row := schemaParsesRow, standIns := [], harness := (true, "ff01a89e15e97c362aab42962ee1beb32ca5c06ab48f991d849a3ad63e8a3896"), looks := true }, kinds := [], alts := [], laidByText := true, laidKinds := [.data, .data, .data, .sentinel, .sentinel], laidTests := true, laidLooks := .later }
def SchemaParsesCardSaid : Prop := Claim7.holds Tryd.pinned (.plain (OpenSpec.ofChange schemaParsesSpec)) schemaParsesCard

/-- THE TIED CARD OF 'osierlaw08.SchemaChecks'. -/
def schemaChecksCard : Claim7 := { stood := { row := schemaChecksRow, standIns := [], harness := (true, "ff01a89e15e97c362aab42962ee1beb32ca5c06ab48f991d849a3ad63e8a3896"), looks := true }, kinds := [], alts := [], laidByText := true, laidKinds := [.data, .data, .data, .sentinel, .sentinel], laidTests := true, laidLooks := .later }
def SchemaChecksCardSaid : Prop := Claim7.holds Tryd.pinned (.plain (OpenSpec.ofChange schemaChecksSpec)) schemaChecksCard

/-- THE TIED CARD OF 'osierlaw08.SchemaBack'. -/
def schemaBackCard : Claim7 := { stood := { row := schemaBackRow, standIns := [], harness := (true, "ff01a89e15e97c362aab42962ee1beb32ca5c06ab48f991d849a3ad63e8a3896"), looks := true }, kinds := [], alts := [], laidByText := true, laidKinds := [.data, .data, .data, .sentinel, .sentinel], laidTests := true, laidLooks := .later }
def SchemaBackCardSaid : Prop := Claim7.holds Tryd.pinned (.plain (OpenSpec.ofChange schemaBackSpec)) schemaBackCard

/-- THE TIED CARD OF 'osierlaw08.SchemaOnce'. -/
def schemaOnceCard : Claim7 := { stood := { row := schemaOnceRow, standIns := [], harness := (true, "ff01a89e15e97c362aab42962ee1beb32ca5c06ab48f991d849a3ad63e8a3896"), looks := true }, kinds := [], alts := [], laidByText := true, laidKinds := [.data, .data, .data, .sentinel, .sentinel], laidTests := true, laidLooks := .later }
def SchemaOnceCardSaid : Prop := Claim7.holds Tryd.pinned (.plain (OpenSpec.ofChange schemaOnceSpec)) schemaOnceCard

/-- THE TIED CARD OF 'osierlaw09.QueryPlain'. -/
def queryPlainCard : Claim7 := { stood := { row := queryPlainRow, standIns := [], harness := (true, "ff01a89e15e97c362aab42962ee1beb32ca5c06ab48f991d849a3ad63e8a3896"), looks := true }, kinds := [], alts := [], laidByText := true, laidKinds := [.data, .data, .data, .sentinel, .sentinel], laidTests := true, laidLooks := .later }
def QueryPlainCardSaid : Prop := Claim7.holds Tryd.pinned (.plain (OpenSpec.ofChange queryPlainSpec)) queryPlainCard

/-- THE TIED CARD OF 'osierlaw09.QueryAlike'. -/
def queryAlikeCard : Claim7 := { stood := { row := queryAlikeRow, standIns := [], harness := (true, "ff01a89e15e97c362aab42962ee1beb32ca5c06ab48f991d849a3ad63e8a3896"), looks := true }, kinds := [], alts := [], laidByText := true, laidKinds := [.data, .data, .data, .sentinel, .sentinel], laidTests := true, laidLooks := .later }
def QueryAlikeCardSaid : Prop := Claim7.holds Tryd.pinned (.plain (OpenSpec.ofChange queryAlikeSpec)) queryAlikeCard

/-- THE TIED CARD OF 'osierlaw09.QueryMemory'. -/
def queryMemoryCard : Claim7 := { stood := { row := queryMemoryRow, standIns := [], harness := (true, "ff01a89e15e97c362aab42962ee1beb32ca5c06ab48f991d849a3ad63e8a3896"), looks := true }, kinds := [], alts := [], laidByText := true, laidKinds := [.data, .data, .data, .sentinel, .sentinel], laidTests := true, laidLooks := .later }
def QueryMemoryCardSaid : Prop := Claim7.holds Tryd.pinned (.plain (OpenSpec.ofChange queryMemorySpec)) queryMemoryCard

/-- THE TIED CARD OF 'osierlaw08.SchemaFits'. -/
def schemaFitsCard : Claim7 := { stood := { row := schemaFitsRow, standIns := [], harness := (true, "ff01a89e15e97c362aab42962ee1beb32ca5c06ab48f991d849a3ad63e8a3896"), looks := true }, kinds := [], alts := [], laidByText := true, laidKinds := [.data, .data, .data, .sentinel, .sentinel], laidTests := true, laidLooks := .later }
def SchemaFitsCardSaid : Prop := Claim7.holds Tryd.pinned (.plain (OpenSpec.ofChange schemaFitsSpec)) schemaFitsCard

/-- THE TIED CARD OF 'osierlaw08.SchemaPlays'. -/
def schemaPlaysCard : Claim7 := { stood := { row := schemaPlaysRow, standIns := [], harness := (true, "ff01a89e15e97c362aab42962ee1beb32ca5c06ab48f991d849a3ad63e8a3896"), looks := true }, kinds := [], alts := [], laidByText := true, laidKinds := [.data, .data, .data, .sentinel, .sentinel], laidTests := true, laidLooks := .later }
def SchemaPlaysCardSaid : Prop := Claim7.holds Tryd.pinned (.plain (OpenSpec.ofChange schemaPlaysSpec)) schemaPlaysCard

/-- THE SECOND FORM's CARD OF 'osierlaw09.QueryParses'. -/
def queryParsesUptoCard : Claim7 := { stood := { row := queryParsesUptoRow, standIns := [], harness := (true, "ff01a89e15e97c362aab42962ee1beb32ca5c06ab48f991d849a3ad63e8a3896"), looks := true }, kinds := [], alts := [], laidByText := true, laidKinds := [.data, .data, .data, .sentinel, .sentinel], laidTests := true, laidLooks := .later }
def QueryParsesUptoCardSaid : Prop := Claim7.holds Tryd.pinned (.plain (OpenSpec.upto queryParsesSpec)) queryParsesUptoCard

/-- THE SECOND FORM's CARD OF 'osierlaw09.QueryVars'. -/
def queryVarsUptoCard : Claim7 := { stood := { row := queryVarsUptoRow, standIns := [], harness := (true, "ff01a89e15e97c362aab42962ee1beb32ca5c06ab48f991d849a3ad63e8a3896"), looks := true }, kinds := [], alts := [], laidByText := true, laidKinds := [.data, .data, .data, .sentinel, .sentinel], laidTests := true, laidLooks := .later }
def QueryVarsUptoCardSaid : Prop := Claim7.holds Tryd.pinned (.plain (OpenSpec.upto queryVarsSpec)) queryVarsUptoCard

/-- THE SECOND FORM's CARD OF 'osierlaw09.QueryMatches'. -/
def queryMatchesUptoCard : Claim7 := { stood := { row := queryMatchesUptoRow, standIns := [], harness := (true, "ff01a89e15e97c362aab42962ee1beb32ca5c06ab48f991d849a3ad63e8a3896"), looks := true }, kinds := [], alts := [], laidByText := true, laidKinds := [.data, .data, .data, .sentinel, .sentinel], laidTests := true, laidLooks := .later }
def QueryMatchesUptoCardSaid : Prop := Claim7.holds Tryd.pinned (.plain (OpenSpec.upto queryMatchesSpec)) queryMatchesUptoCard

/-- THE SECOND FORM's CARD OF 'osierlaw09.QueryFills'. -/
def queryFillsUptoCard : Claim7 := { stood := { row := queryFillsUptoRow, standIns := [], harness := (true, "ff01a89e15e97c362aab42962ee1beb32ca5c06ab48f991d849a3ad63e8a3896"), looks := true }, kinds := [], alts := [], laidByText := true, laidKinds := [.data, .data, .data, .sentinel, .sentinel], laidTests := true, laidLooks := .later }
def QueryFillsUptoCardSaid : Prop := Claim7.holds Tryd.pinned (.plain (OpenSpec.upto queryFillsSpec)) queryFillsUptoCard

/-- THE SECOND FORM's CARD OF 'osierlaw08.SchemaParses'. -/
def schemaParsesUptoCard : Claim7 := { stood := { row := schemaParsesUptoRow, standIns := [], harness := (true, "ff01a89e15e97c362aab42962ee1beb32ca5c06ab48f991d849a3ad63e8a3896"), looks := true }, kinds := [], alts := [], laidByText := true, laidKinds := [.data, .data, .data, .sentinel, .sentinel], laidTests := true, laidLooks := .later }
def SchemaParsesUptoCardSaid : Prop := Claim7.holds Tryd.pinned (.plain (OpenSpec.upto schemaParsesSpec)) schemaParsesUptoCard

/-- THE SECOND FORM's CARD OF 'osierlaw08.SchemaChecks'. -/
def schemaChecksUptoCard : Claim7 := { stood := { row := schemaChecksUptoRow, standIns := [], harness := (true, "ff01a89e15e97c362aab42962ee1beb32ca5c06ab48f991d849a3ad63e8a3896"), looks := true }, kinds := [], alts := [], laidByText := true, laidKinds := [.data, .data, .data, .sentinel, .sentinel], laidTests := true, laidLooks := .later }
def SchemaChecksUptoCardSaid : Prop := Claim7.holds Tryd.pinned (.plain (OpenSpec.upto schemaChecksSpec)) schemaChecksUptoCard

/-- THE SECOND FORM's CARD OF 'osierlaw08.SchemaBack'. -/
def schemaBackUptoCard : Claim7 := { stood := { row := schemaBackUptoRow, standIns := [], harness := (true, "ff01a89e15e97c362aab42962ee1beb32ca5c06ab48f991d849a3ad63e8a3896"), looks := true }, kinds := [], alts := [], laidByText := true, laidKinds := [.data, .data, .data, .sentinel, .sentinel], laidTests := true, laidLooks := .later }
def SchemaBackUptoCardSaid : Prop := Claim7.holds Tryd.pinned (.plain (OpenSpec.upto schemaBackSpec)) schemaBackUptoCard

/-- THE SECOND FORM's CARD OF 'osierlaw08.SchemaOnce'. -/
def schemaOnceUptoCard : Claim7 := { stood := { row := schemaOnceUptoRow, standIns := [], harness := (true, "ff01a89e15e97c362aab42962ee1beb32ca5c06ab48f991d849a3ad63e8a3896"), looks := true }, kinds := [], alts := [], laidByText := true, laidKinds := [.data, .data, .data, .sentinel, .sentinel], laidTests := true, laidLooks := .later }
def SchemaOnceUptoCardSaid : Prop := Claim7.holds Tryd.pinned (.plain (OpenSpec.upto schemaOnceSpec)) schemaOnceUptoCard

/-- THE SECOND FORM's CARD OF 'osierlaw09.QueryPlain'. -/
def queryPlainUptoCard : Claim7 := { stood := { row := queryPlainUptoRow, standIns := [], harness := (true, "ff01a89e15e97c362aab42962ee1beb32ca5c06ab48f991d849a3ad63e8a3896"), looks := true }, kinds := [], alts := [], laidByText := true, laidKinds := [.data, .data, .data, .sentinel, .sentinel], laidTests := true, laidLooks := .later }
def QueryPlainUptoCardSaid : Prop := Claim7.holds Tryd.pinned (.plain (OpenSpec.upto queryPlainSpec)) queryPlainUptoCard

/-- THE SECOND FORM's CARD OF 'osierlaw09.QueryAlike'. -/
def queryAlikeUptoCard : Claim7 := { stood := { row := queryAlikeUptoRow, standIns := [], harness := (true, "ff01a89e15e97c362aab42962ee1beb32ca5c06ab48f991d849a3ad63e8a3896"), looks := true }, kinds := [], alts := [], laidByText := true, laidKinds := [.data, .data, .data, .sentinel, .sentinel], laidTests := true, laidLooks := .later }
def QueryAlikeUptoCardSaid : Prop := Claim7.holds Tryd.pinned (.plain (OpenSpec.upto queryAlikeSpec)) queryAlikeUptoCard

/-- THE SECOND FORM's CARD OF 'osierlaw09.QueryMemory'. -/
def queryMemoryUptoCard : Claim7 := { stood := { row := queryMemoryUptoRow, standIns := [], harness := (true, "ff01a89e15e97c362aab42962ee1beb32ca5c06ab48f991d849a3ad63e8a3896"), looks := true }, kinds := [], alts := [], laidByText := true, laidKinds := [.data, .data, .data, .sentinel, .sentinel], laidTests := true, laidLooks := .later }
def QueryMemoryUptoCardSaid : Prop := Claim7.holds Tryd.pinned (.plain (OpenSpec.upto queryMemorySpec)) queryMemoryUptoCard

/-- THE SECOND FORM's CARD OF 'osierlaw08.SchemaFits'. -/
def schemaFitsUptoCard : Claim7 := { stood := { row := schemaFitsUptoRow, standIns := [], harness := (true, "ff01a89e15e97c362aab42962ee1beb32ca5c06ab48f991d849a3ad63e8a3896"), looks := true }, kinds := [], alts := [], laidByText := true, laidKinds := [.data, .data, .data, .sentinel, .sentinel], laidTests := true, laidLooks := .later }
def SchemaFitsUptoCardSaid : Prop := Claim7.holds Tryd.pinned (.plain (OpenSpec.upto schemaFitsSpec)) schemaFitsUptoCard

/-- THE SECOND FORM's CARD OF 'osierlaw08.SchemaPlays'. -/
def schemaPlaysUptoCard : Claim7 := { stood := { row := schemaPlaysUptoRow, standIns := [], harness := (true, "ff01a89e15e97c362aab42962ee1beb32ca5c06ab48f991d849a3ad63e8a3896"), looks := true }, kinds := [], alts := [], laidByText := true, laidKinds := [.data, .data, .data, .sentinel, .sentinel], laidTests := true, laidLooks := .later }
def SchemaPlaysUptoCardSaid : Prop := Claim7.holds Tryd.pinned (.plain (OpenSpec.upto schemaPlaysSpec)) schemaPlaysUptoCard
end Rows
end Go.Proofs.YtbehonaegfpmoaaDoor
