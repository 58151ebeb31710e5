/-
  DERIVED. GIVEN WITH THE SEED: THE CARDS: each row of YthfibaajmbhdkaaDoorRows.lean that lists a variable, with what it lists TIED to the program's text (the seventh form; the later family's looks); each row that meets fmt, with fmt's text TOLD by the authors' own Lean function (tested against real Go, not proved from fmt's source: count such statements apart). THE CARD IS WHAT COUNTS. Prove the row's statement (the work); the ties are given (YthfibaajmbhdkaaDoorTie.lean); close each card by the builder's one call (the guide's Derived/Test/ToyasCard.lean, 'card_holds'). Laid BY PROGRAM, IN A SANDBOX (cutbox-door.mjs). By AI agents, Wed Nov 11 2026. No macro, syntax, notation, axiom, sorry.
-/
import Derived.Test.YthfibaajmbhdkaaDoorRows
import GoSem.ClaimSeven
namespace Go.Proofs.YthfibaajmbhdkaaDoor
namespace Rows

/-- THE TIED CARD OF 'osierlaw07.LexTokens'. -/
def lexTokensCard : Claim7 := { stood := { row := lexTokensRow, standIns := [], harness := (true, "ce20207fa56ee89dad3b6a62a99ce127e090938ef27be47da92071fe72183108"), looks := true }, kinds := [], alts := [], laidByText := true, laidKinds := [.data, .data, .data, .sentinel, .sentinel], laidTests := true, laidLooks := .later }
def LexTokensCardSaid : Prop := Claim7.holds Tryd.pinned (.plain (OpenSpec.ofChange lexTokensSpec)) lexTokensCard

/-- THE TIED CARD OF 'osierlaw07.LexNames'. -/
def lexNamesCard : Claim7 := { stood := { row := lexNamesRow, standIns := [], harness := (true, "ce20207fa56ee89dad3b6a62a99ce127e090938ef27be47da92071fe72183108"), looks := true }, kinds := [], alts := [], laidByText := true, laidKinds := [.data, .data, .data, .sentinel, .sentinel], laidTests := true, laidLooks := .later }
def LexNamesCardSaid : Prop := Claim7.holds Tryd.pinned (.plain (OpenSpec.ofChange lexNamesSpec)) lexNamesCard

/-- THE TIED CARD OF 'osierlaw07.LexTiles'. -/
def lexTilesCard : Claim7 := { stood := { row := lexTilesRow, standIns := [], harness := (true, "ce20207fa56ee89dad3b6a62a99ce127e090938ef27be47da92071fe72183108"), looks := true }, kinds := [], alts := [], laidByText := true, laidKinds := [.data, .data, .data, .sentinel, .sentinel], laidTests := true, laidLooks := .later }
def LexTilesCardSaid : Prop := Claim7.holds Tryd.pinned (.plain (OpenSpec.ofChange lexTilesSpec)) lexTilesCard

/-- THE TIED CARD OF 'osierlaw07.LexBlanks'. -/
def lexBlanksCard : Claim7 := { stood := { row := lexBlanksRow, standIns := [], harness := (true, "ce20207fa56ee89dad3b6a62a99ce127e090938ef27be47da92071fe72183108"), looks := true }, kinds := [], alts := [], laidByText := true, laidKinds := [.data, .data, .data, .sentinel, .sentinel], laidTests := true, laidLooks := .later }
def LexBlanksCardSaid : Prop := Claim7.holds Tryd.pinned (.plain (OpenSpec.ofChange lexBlanksSpec)) lexBlanksCard

/-- THE TIED CARD OF 'osierlaw07.LexFaults'. -/
def lexFaultsCard : Claim7 := { stood := { row := lexFaultsRow, standIns := [], harness := (true, "ce20207fa56ee89dad3b6a62a99ce127e090938ef27be47da92071fe72183108"), looks := true }, kinds := [], alts := [], laidByText := true, laidKinds := [.data, .data, .data, .sentinel, .sentinel], laidTests := true, laidLooks := .later }
def LexFaultsCardSaid : Prop := Claim7.holds Tryd.pinned (.plain (OpenSpec.ofChange lexFaultsSpec)) lexFaultsCard

/-- THE TIED CARD OF 'osierlaw07.LexMemory'. -/
def lexMemoryCard : Claim7 := { stood := { row := lexMemoryRow, standIns := [], harness := (true, "ce20207fa56ee89dad3b6a62a99ce127e090938ef27be47da92071fe72183108"), looks := true }, kinds := [], alts := [], laidByText := true, laidKinds := [.data, .data, .data, .sentinel, .sentinel], laidTests := true, laidLooks := .later }
def LexMemoryCardSaid : Prop := Claim7.holds Tryd.pinned (.plain (OpenSpec.ofChange lexMemorySpec)) lexMemoryCard

/-- THE TIED CARD OF 'osierlaw01.ValueValids'. -/
def valueValidsCard : Claim7 := { stood := { row := valueValidsRow, standIns := [], harness := (true, "ce20207fa56ee89dad3b6a62a99ce127e090938ef27be47da92071fe72183108"), looks := true }, kinds := [], alts := [], laidByText := true, laidKinds := [.data, .data, .data, .sentinel, .sentinel], laidTests := true, laidLooks := .later }
def ValueValidsCardSaid : Prop := Claim7.holds Tryd.pinned (.plain (OpenSpec.ofChange valueValidsSpec)) valueValidsCard

/-- THE TIED CARD OF 'osierlaw01.ValueShows'. -/
def valueShowsCard : Claim7 := { stood := { row := valueShowsRow, standIns := [], harness := (true, "ce20207fa56ee89dad3b6a62a99ce127e090938ef27be47da92071fe72183108"), looks := true }, kinds := [], alts := [], laidByText := true, laidKinds := [.data, .data, .data, .sentinel, .sentinel], laidTests := true, laidLooks := .later }
def ValueShowsCardSaid : Prop := Claim7.holds Tryd.pinned (.plain (OpenSpec.ofChange valueShowsSpec)) valueShowsCard

/-- THE TIED CARD OF 'osierlaw01.ValueScans'. -/
def valueScansCard : Claim7 := { stood := { row := valueScansRow, standIns := [], harness := (true, "ce20207fa56ee89dad3b6a62a99ce127e090938ef27be47da92071fe72183108"), looks := true }, kinds := [], alts := [], laidByText := true, laidKinds := [.data, .data, .data, .sentinel, .sentinel], laidTests := true, laidLooks := .later }
def ValueScansCardSaid : Prop := Claim7.holds Tryd.pinned (.plain (OpenSpec.ofChange valueScansSpec)) valueScansCard

/-- THE TIED CARD OF 'osierlaw01.ValueReads'. -/
def valueReadsCard : Claim7 := { stood := { row := valueReadsRow, standIns := [], harness := (true, "ce20207fa56ee89dad3b6a62a99ce127e090938ef27be47da92071fe72183108"), looks := true }, kinds := [], alts := [], laidByText := true, laidKinds := [.data, .data, .data, .sentinel, .sentinel], laidTests := true, laidLooks := .later }
def ValueReadsCardSaid : Prop := Claim7.holds Tryd.pinned (.plain (OpenSpec.ofChange valueReadsSpec)) valueReadsCard

/-- THE TIED CARD OF 'osierlaw01.ValueBack'. -/
def valueBackCard : Claim7 := { stood := { row := valueBackRow, standIns := [], harness := (true, "ce20207fa56ee89dad3b6a62a99ce127e090938ef27be47da92071fe72183108"), looks := true }, kinds := [], alts := [], laidByText := true, laidKinds := [.data, .data, .data, .sentinel, .sentinel], laidTests := true, laidLooks := .later }
def ValueBackCardSaid : Prop := Claim7.holds Tryd.pinned (.plain (OpenSpec.ofChange valueBackSpec)) valueBackCard

/-- THE TIED CARD OF 'osierlaw01.ValueOnce'. -/
def valueOnceCard : Claim7 := { stood := { row := valueOnceRow, standIns := [], harness := (true, "ce20207fa56ee89dad3b6a62a99ce127e090938ef27be47da92071fe72183108"), looks := true }, kinds := [], alts := [], laidByText := true, laidKinds := [.data, .data, .data, .sentinel, .sentinel], laidTests := true, laidLooks := .later }
def ValueOnceCardSaid : Prop := Claim7.holds Tryd.pinned (.plain (OpenSpec.ofChange valueOnceSpec)) valueOnceCard

/-- THE TIED CARD OF 'osierlaw01.ValueWithin'. -/
def valueWithinCard : Claim7 := { stood := { row := valueWithinRow, standIns := [], harness := (true, "ce20207fa56ee89dad3b6a62a99ce127e090938ef27be47da92071fe72183108"), looks := true }, kinds := [], alts := [], laidByText := true, laidKinds := [.data, .data, .data, .sentinel, .sentinel], laidTests := true, laidLooks := .later }
def ValueWithinCardSaid : Prop := Claim7.holds Tryd.pinned (.plain (OpenSpec.ofChange valueWithinSpec)) valueWithinCard

/-- THE TIED CARD OF 'osierlaw01.ValueShort'. -/
def valueShortCard : Claim7 := { stood := { row := valueShortRow, standIns := [], harness := (true, "ce20207fa56ee89dad3b6a62a99ce127e090938ef27be47da92071fe72183108"), looks := true }, kinds := [], alts := [], laidByText := true, laidKinds := [.data, .data, .data, .sentinel, .sentinel], laidTests := true, laidLooks := .later }
def ValueShortCardSaid : Prop := Claim7.holds Tryd.pinned (.plain (OpenSpec.ofChange valueShortSpec)) valueShortCard

/-- THE TIED CARD OF 'osierlaw01.ValueCompares'. -/
def valueComparesCard : Claim7 := { stood := { row := valueComparesRow, standIns := [], harness := (true, "ce20207fa56ee89dad3b6a62a99ce127e090938ef27be47da92071fe72183108"), looks := true }, kinds := [], alts := [], laidByText := true, laidKinds := [.data, .data, .data, .sentinel, .sentinel], laidTests := true, laidLooks := .later }
def ValueComparesCardSaid : Prop := Claim7.holds Tryd.pinned (.plain (OpenSpec.ofChange valueComparesSpec)) valueComparesCard

/-- THE SECOND FORM's CARD OF 'osierlaw07.LexTokens'. -/
def lexTokensUptoCard : Claim7 := { stood := { row := lexTokensUptoRow, standIns := [], harness := (true, "ce20207fa56ee89dad3b6a62a99ce127e090938ef27be47da92071fe72183108"), looks := true }, kinds := [], alts := [], laidByText := true, laidKinds := [.data, .data, .data, .sentinel, .sentinel], laidTests := true, laidLooks := .later }
def LexTokensUptoCardSaid : Prop := Claim7.holds Tryd.pinned (.plain (OpenSpec.upto lexTokensSpec)) lexTokensUptoCard

/-- THE SECOND FORM's CARD OF 'osierlaw07.LexNames'. -/
def lexNamesUptoCard : Claim7 := { stood := { row := lexNamesUptoRow, standIns := [], harness := (true, "ce20207fa56ee89dad3b6a62a99ce127e090938ef27be47da92071fe72183108"), looks := true }, kinds := [], alts := [], laidByText := true, laidKinds := [.data, .data, .data, .sentinel, .sentinel], laidTests := true, laidLooks := .later }
def LexNamesUptoCardSaid : Prop := Claim7.holds Tryd.pinned (.plain (OpenSpec.upto lexNamesSpec)) lexNamesUptoCard

/-- THE SECOND FORM's CARD OF 'osierlaw07.LexTiles'. -/
def lexTilesUptoCard : Claim7 := { stood := { row := lexTilesUptoRow, standIns := [], harness := (true, "ce20207fa56ee89dad3b6a62a99ce127e090938ef27be47da92071fe72183108"), looks := true }, kinds := [], alts := [], laidByText := true, laidKinds := [.data, .data, .data, .sentinel, .sentinel], laidTests := true, laidLooks := .later }
def LexTilesUptoCardSaid : Prop := Claim7.holds Tryd.pinned (.plain (OpenSpec.upto lexTilesSpec)) lexTilesUptoCard

/-- THE SECOND FORM's CARD OF 'osierlaw07.LexBlanks'. -/
def lexBlanksUptoCard : Claim7 := { stood := { row := lexBlanksUptoRow, standIns := [], harness := (true, "ce20207fa56ee89dad3b6a62a99ce127e090938ef27be47da92071fe72183108"), looks := true }, kinds := [], alts := [], laidByText := true, laidKinds := [.data, .data, .data, .sentinel, .sentinel], laidTests := true, laidLooks := .later }
def LexBlanksUptoCardSaid : Prop := Claim7.holds Tryd.pinned (.plain (OpenSpec.upto lexBlanksSpec)) lexBlanksUptoCard

/-- THE SECOND FORM's CARD OF 'osierlaw07.LexFaults'. -/
def lexFaultsUptoCard : Claim7 := { stood := { row := lexFaultsUptoRow, standIns := [], harness := (true, "ce20207fa56ee89dad3b6a62a99ce127e090938ef27be47da92071fe72183108"), looks := true }, kinds := [], alts := [], laidByText := true, laidKinds := [.data, .data, .data, .sentinel, .sentinel], laidTests := true, laidLooks := .later }
def LexFaultsUptoCardSaid : Prop := Claim7.holds Tryd.pinned (.plain (OpenSpec.upto lexFaultsSpec)) lexFaultsUptoCard

/-- THE SECOND FORM's CARD OF 'osierlaw07.LexMemory'. -/
def lexMemoryUptoCard : Claim7 := { stood := { row := lexMemoryUptoRow, standIns := [], harness := (true, "ce20207fa56ee89dad3b6a62a99ce127e090938ef27be47da92071fe72183108"), looks := true }, kinds := [], alts := [], laidByText := true, laidKinds := [.data, .data, .data, .sentinel, .sentinel], laidTests := true, laidLooks := .later }
def LexMemoryUptoCardSaid : Prop := Claim7.holds Tryd.pinned (.plain (OpenSpec.upto lexMemorySpec)) lexMemoryUptoCard

/-- THE SECOND FORM's CARD OF 'osierlaw01.ValueValids'. -/
def valueValidsUptoCard : Claim7 := { stood := { row := valueValidsUptoRow, standIns := [], harness := (true, "ce20207fa56ee89dad3b6a62a99ce127e090938ef27be47da92071fe72183108"), looks := true }, kinds := [], alts := [], laidByText := true, laidKinds := [.data, .data, .data, .sentinel, .sentinel], laidTests := true, laidLooks := .later }
def ValueValidsUptoCardSaid : Prop := Claim7.holds Tryd.pinned (.plain (OpenSpec.upto valueValidsSpec)) valueValidsUptoCard

/-- THE SECOND FORM's CARD OF 'osierlaw01.ValueShows'. -/
def valueShowsUptoCard : Claim7 := { stood := { row := valueShowsUptoRow, standIns := [], harness := (true, "ce20207fa56ee89dad3b6a62a99ce127e090938ef27be47da92071fe72183108"), looks := true }, kinds := [], alts := [], laidByText := true, laidKinds := [.data, .data, .data, .sentinel, .sentinel], laidTests := true, laidLooks := .later }
def ValueShowsUptoCardSaid : Prop := Claim7.holds Tryd.pinned (.plain (OpenSpec.upto valueShowsSpec)) valueShowsUptoCard

/-- THE SECOND FORM's CARD OF 'osierlaw01.ValueScans'. -/
def valueScansUptoCard : Claim7 := { stood := { row := valueScansUptoRow, standIns := [], harness := (true, "ce20207fa56ee89dad3b6a62a99ce127e090938ef27be47da92071fe72183108"), looks := true }, kinds := [], alts := [], laidByText := true, laidKinds := [.data, .data, .data, .sentinel, .sentinel], laidTests := true, laidLooks := .later }
def ValueScansUptoCardSaid : Prop := Claim7.holds Tryd.pinned (.plain (OpenSpec.upto valueScansSpec)) valueScansUptoCard

/-- THE SECOND FORM's CARD OF 'osierlaw01.ValueReads'. -/
def valueReadsUptoCard : Claim7 := { stood := { row := valueReadsUptoRow, standIns := [], harness := (true, "ce20207fa56ee89dad3b6a62a99ce127e090938ef27be47da92071fe72183108"), looks := true }, kinds := [], alts := [], laidByText := true, laidKinds := [.data, .data, .data, .sentinel, .sentinel], laidTests := true, laidLooks := .later }
def ValueReadsUptoCardSaid : Prop := Claim7.holds Tryd.pinned (.plain (OpenSpec.upto valueReadsSpec)) valueReadsUptoCard

/-- THE SECOND FORM's CARD OF 'osierlaw01.ValueBack'. -/
def valueBackUptoCard : Claim7 := { stood := { row := valueBackUptoRow, standIns := [], harness := (true, "ce20207fa56ee89dad3b6a62a99ce127e090938ef27be47da92071fe72183108"), looks := true }, kinds := [], alts := [], laidByText := true, laidKinds := [.data, .data, .data, .sentinel, .sentinel], laidTests := true, laidLooks := .later }
def ValueBackUptoCardSaid : Prop := Claim7.holds Tryd.pinned (.plain (OpenSpec.upto valueBackSpec)) valueBackUptoCard

/-- THE SECOND FORM's CARD OF 'osierlaw01.ValueOnce'. -/
def valueOnceUptoCard : Claim7 := { stood := { row := valueOnceUptoRow, standIns := [], harness := (true, "ce20207fa56ee89dad3b6a62a99ce127e090938ef27be47da92071fe72183108"), looks := true }, kinds := [], alts := [], laidByText := true, laidKinds := [.data, .data, .data, .sentinel, .sentinel], laidTests := true, laidLooks := .later }
def ValueOnceUptoCardSaid : Prop := Claim7.holds Tryd.pinned (.plain (OpenSpec.upto valueOnceSpec)) valueOnceUptoCard

/-- THE SECOND FORM's CARD OF 'osierlaw01.ValueWithin'. -/
def valueWithinUptoCard : Claim7 := { stood := { row := valueWithinUptoRow, standIns := [], harness := (true, "ce20207fa56ee89dad3b6a62a99ce127e090938ef27be47da92071fe72183108"), looks := true }, kinds := [], alts := [], laidByText := true, laidKinds := [.data, .data, .data, .sentinel, .sentinel], laidTests := true, laidLooks := .later }
def ValueWithinUptoCardSaid : Prop := Claim7.holds Tryd.pinned (.plain (OpenSpec.upto valueWithinSpec)) valueWithinUptoCard

/-- THE SECOND FORM's CARD OF 'osierlaw01.ValueShort'. -/
def valueShortUptoCard : Claim7 := { stood := { row := valueShortUptoRow, standIns := [], harness := (true, "ce20207fa56ee89dad3b6a62a99ce127e090938ef27be47da92071fe72183108"), looks := true }, kinds := [], alts := [], laidByText := true, laidKinds := [.data, .data, .data, .sentinel, .sentinel], laidTests := true, laidLooks := .later }
def ValueShortUptoCardSaid : Prop := Claim7.holds Tryd.pinned (.plain (OpenSpec.upto valueShortSpec)) valueShortUptoCard

/-- THE SECOND FORM's CARD OF 'osierlaw01.ValueCompares'. -/
def valueComparesUptoCard : Claim7 := { stood := { row := valueComparesUptoRow, standIns := [], harness := (true, "ce20207fa56ee89dad3b6a62a99ce127e090938ef27be47da92071fe72183108"), looks := true }, kinds := [], alts := [], laidByText := true, laidKinds := [.data, .data, .data, .sentinel, .sentinel], laidTests := true, laidLooks := .later }
def ValueComparesUptoCardSaid : Prop := Claim7.holds Tryd.pinned (.plain (OpenSpec.upto valueComparesSpec)) valueComparesUptoCard
end Rows
end Go.Proofs.YthfibaajmbhdkaaDoor
