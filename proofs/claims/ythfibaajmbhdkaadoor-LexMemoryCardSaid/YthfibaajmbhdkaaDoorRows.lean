/-
  NARROWER THAN 'FOR EVERY INPUT', by the rows' own cells (each row's printed sentence says how): LexTokens: laid · LexNames: laid · LexTiles: laid · LexBlanks: laid · LexFaults: laid · LexMemory: laid · ValueValids: laid · ValueShows: laid · ValueScans: laid · ValueReads: laid · ValueBack: laid · ValueOnce: laid · ValueWithin: laid · ValueShort: laid · ValueCompares: laid.
  DERIVED. THE GIVEN ROWS OF THIS SEAT. 15 by the template 'for every input the law returns true; each argument reads behind the call as it read before'; 0 by the template 'total and deterministic' (their statements: YthfibaajmbhdkaaDoorTotals.lean).
  GIVEN WITH THE SEED: the statements are not yours to turn. If you find one false, say at which input.
  Laid BY PROGRAM, IN A SANDBOX (cutbox-rows.mjs): the forced cells as the released guide's own fill.sh prints them over the translation 84c4a650d1f92a03… (all of the seat's roots in one cut). By AI agents, Wed Nov 11 2026. No macro, syntax, notation, axiom, sorry.
-/
import Derived.Test.YthfibaajmbhdkaaDoorChecked
import GoSem.Claim
import GoSem.ClaimJoined
import GoSem.ClaimMapViews
import Derived.JoinedTies
import Derived.KernelRfl
namespace Go.Proofs.YthfibaajmbhdkaaDoor
/- THE CELL 'sum', in the pinned program and in every row, IS THE sha256 OF THE DUMP (.gsa) THAT YthfibaajmbhdkaaDoorProg.lean LOADS. Nothing in Lean hashes anything: it is a label: what it is worth is what the hold of that sum in a sandbox is worth. -/
noncomputable def Tryd.pinned : Pinned := { name := "ythfibaajmbhdkaadoor", sum := "84c4a650d1f92a037fdc191bd1ea875377fff5941223c1a7cb2442d0f026fe9a", checked := Tryd.checked }
namespace Rows
def none {H : Type} : Left H := { results := [], args := [] }

/- WHAT THE LISTED PACKAGE-LEVEL VARIABLES READ AS WHEN THE CALL BEGINS. Each datum BY PROGRAM (the guide's laid-datum.mjs) off the statement by which the dump's own 'gosem.cut.vars' lays the variable. In a bare row this is a premise. The card (YthfibaajmbhdkaaDoorCards.lean) ties it to the program's text. -/
def laid_math_bits_deBruijn32tab {H : Type} : DataW H := .agg [.lit (.int .u8 0), .lit (.int .u8 1), .lit (.int .u8 28), .lit (.int .u8 2), .lit (.int .u8 29), .lit (.int .u8 14), .lit (.int .u8 24), .lit (.int .u8 3), .lit (.int .u8 30), .lit (.int .u8 22), .lit (.int .u8 20), .lit (.int .u8 15), .lit (.int .u8 25), .lit (.int .u8 17), .lit (.int .u8 4), .lit (.int .u8 8), .lit (.int .u8 31), .lit (.int .u8 27), .lit (.int .u8 13), .lit (.int .u8 23), .lit (.int .u8 21), .lit (.int .u8 19), .lit (.int .u8 16), .lit (.int .u8 7), .lit (.int .u8 26), .lit (.int .u8 12), .lit (.int .u8 18), .lit (.int .u8 6), .lit (.int .u8 11), .lit (.int .u8 5), .lit (.int .u8 10), .lit (.int .u8 9)]
def laid_math_bits_deBruijn64tab {H : Type} : DataW H := .agg [.lit (.int .u8 0), .lit (.int .u8 1), .lit (.int .u8 56), .lit (.int .u8 2), .lit (.int .u8 57), .lit (.int .u8 49), .lit (.int .u8 28), .lit (.int .u8 3), .lit (.int .u8 61), .lit (.int .u8 58), .lit (.int .u8 42), .lit (.int .u8 50), .lit (.int .u8 38), .lit (.int .u8 29), .lit (.int .u8 17), .lit (.int .u8 4), .lit (.int .u8 62), .lit (.int .u8 47), .lit (.int .u8 59), .lit (.int .u8 36), .lit (.int .u8 45), .lit (.int .u8 43), .lit (.int .u8 51), .lit (.int .u8 22), .lit (.int .u8 53), .lit (.int .u8 39), .lit (.int .u8 33), .lit (.int .u8 30), .lit (.int .u8 24), .lit (.int .u8 18), .lit (.int .u8 12), .lit (.int .u8 5), .lit (.int .u8 63), .lit (.int .u8 55), .lit (.int .u8 48), .lit (.int .u8 27), .lit (.int .u8 60), .lit (.int .u8 41), .lit (.int .u8 37), .lit (.int .u8 16), .lit (.int .u8 46), .lit (.int .u8 35), .lit (.int .u8 44), .lit (.int .u8 21), .lit (.int .u8 52), .lit (.int .u8 32), .lit (.int .u8 23), .lit (.int .u8 11), .lit (.int .u8 54), .lit (.int .u8 26), .lit (.int .u8 40), .lit (.int .u8 15), .lit (.int .u8 34), .lit (.int .u8 20), .lit (.int .u8 31), .lit (.int .u8 10), .lit (.int .u8 25), .lit (.int .u8 14), .lit (.int .u8 19), .lit (.int .u8 9), .lit (.int .u8 13), .lit (.int .u8 8), .lit (.int .u8 7), .lit (.int .u8 6)]
def laid_internal_strconv_uint64pow10 {H : Type} : DataW H := .agg [.lit (.int .u64 1), .lit (.int .u64 10), .lit (.int .u64 100), .lit (.int .u64 1000), .lit (.int .u64 10000), .lit (.int .u64 100000), .lit (.int .u64 1000000), .lit (.int .u64 10000000), .lit (.int .u64 100000000), .lit (.int .u64 1000000000), .lit (.int .u64 10000000000), .lit (.int .u64 100000000000), .lit (.int .u64 1000000000000), .lit (.int .u64 10000000000000), .lit (.int .u64 100000000000000), .lit (.int .u64 1000000000000000), .lit (.int .u64 10000000000000000), .lit (.int .u64 100000000000000000), .lit (.int .u64 1000000000000000000), .lit (.int .u64 10000000000000000000)]
def laid_strconv_ErrRange {H : Type} : DataW H := .iface "*errors.errorString" (.ptr (.agg [.lit (.string [118, 97, 108, 117, 101, 32, 111, 117, 116, 32, 111, 102, 32, 114, 97, 110, 103, 101])]))
def laid_strconv_ErrSyntax {H : Type} : DataW H := .iface "*errors.errorString" (.ptr (.agg [.lit (.string [105, 110, 118, 97, 108, 105, 100, 32, 115, 121, 110, 116, 97, 120])]))

/-- 'osierlaw07.LexTokens': WHATEVER THE INPUT: true; the input reads as it did. -/
def lexTokensSpec : ChangeSpec := { name := "lexTokens", fn := fun _ => fun
  | [d] => { results := [.lit (.bool true)], args := [d] }
  | _ => none }
def lexTokensRow : OpenClaim := { program := "ythfibaajmbhdkaadoor", sum := "84c4a650d1f92a037fdc191bd1ea875377fff5941223c1a7cb2442d0f026fe9a", func := "osier/osierlaw07.LexTokens", spec := "lexTokens", named := ["strconv.ErrSyntax", "strconv.ErrRange", "internal/strconv.uint64pow10", "math/bits.deBruijn32tab", "math/bits.deBruijn64tab"], apart := false, laid := [("math/bits.deBruijn32tab", laid_math_bits_deBruijn32tab), ("math/bits.deBruijn64tab", laid_math_bits_deBruijn64tab), ("internal/strconv.uint64pow10", laid_internal_strconv_uint64pow10), ("strconv.ErrRange", laid_strconv_ErrRange), ("strconv.ErrSyntax", laid_strconv_ErrSyntax)] }
def LexTokensSaid : Prop := lexTokensRow.holds Tryd.pinned (OpenSpec.ofChange lexTokensSpec)

/-- ITS FALSE NEIGHBOUR: 'it returns false'. Refute it at one input. -/
def lexTokensWrong : ChangeSpec := { name := "lexTokens", fn := fun _ => fun
  | [d] => { results := [.lit (.bool false)], args := [d] }
  | _ => none }
def LexTokensWrongFalsely : Prop := lexTokensRow.holds Tryd.pinned (OpenSpec.ofChange lexTokensWrong)

/-- 'osierlaw07.LexNames': WHATEVER THE INPUT: true; the input reads as it did. -/
def lexNamesSpec : ChangeSpec := { name := "lexNames", fn := fun _ => fun
  | [d] => { results := [.lit (.bool true)], args := [d] }
  | _ => none }
def lexNamesRow : OpenClaim := { program := "ythfibaajmbhdkaadoor", sum := "84c4a650d1f92a037fdc191bd1ea875377fff5941223c1a7cb2442d0f026fe9a", func := "osier/osierlaw07.LexNames", spec := "lexNames", named := ["strconv.ErrSyntax", "strconv.ErrRange", "internal/strconv.uint64pow10", "math/bits.deBruijn32tab", "math/bits.deBruijn64tab"], apart := false, laid := [("math/bits.deBruijn32tab", laid_math_bits_deBruijn32tab), ("math/bits.deBruijn64tab", laid_math_bits_deBruijn64tab), ("internal/strconv.uint64pow10", laid_internal_strconv_uint64pow10), ("strconv.ErrRange", laid_strconv_ErrRange), ("strconv.ErrSyntax", laid_strconv_ErrSyntax)] }
def LexNamesSaid : Prop := lexNamesRow.holds Tryd.pinned (OpenSpec.ofChange lexNamesSpec)

/-- ITS FALSE NEIGHBOUR: 'it returns false'. Refute it at one input. -/
def lexNamesWrong : ChangeSpec := { name := "lexNames", fn := fun _ => fun
  | [d] => { results := [.lit (.bool false)], args := [d] }
  | _ => none }
def LexNamesWrongFalsely : Prop := lexNamesRow.holds Tryd.pinned (OpenSpec.ofChange lexNamesWrong)

/-- 'osierlaw07.LexTiles': WHATEVER THE INPUT: true; the input reads as it did. -/
def lexTilesSpec : ChangeSpec := { name := "lexTiles", fn := fun _ => fun
  | [d] => { results := [.lit (.bool true)], args := [d] }
  | _ => none }
def lexTilesRow : OpenClaim := { program := "ythfibaajmbhdkaadoor", sum := "84c4a650d1f92a037fdc191bd1ea875377fff5941223c1a7cb2442d0f026fe9a", func := "osier/osierlaw07.LexTiles", spec := "lexTiles", named := ["strconv.ErrSyntax", "strconv.ErrRange", "internal/strconv.uint64pow10", "math/bits.deBruijn32tab", "math/bits.deBruijn64tab"], apart := false, laid := [("math/bits.deBruijn32tab", laid_math_bits_deBruijn32tab), ("math/bits.deBruijn64tab", laid_math_bits_deBruijn64tab), ("internal/strconv.uint64pow10", laid_internal_strconv_uint64pow10), ("strconv.ErrRange", laid_strconv_ErrRange), ("strconv.ErrSyntax", laid_strconv_ErrSyntax)] }
def LexTilesSaid : Prop := lexTilesRow.holds Tryd.pinned (OpenSpec.ofChange lexTilesSpec)

/-- ITS FALSE NEIGHBOUR: 'it returns false'. Refute it at one input. -/
def lexTilesWrong : ChangeSpec := { name := "lexTiles", fn := fun _ => fun
  | [d] => { results := [.lit (.bool false)], args := [d] }
  | _ => none }
def LexTilesWrongFalsely : Prop := lexTilesRow.holds Tryd.pinned (OpenSpec.ofChange lexTilesWrong)

/-- 'osierlaw07.LexBlanks': WHATEVER THE INPUT: true; the input reads as it did. -/
def lexBlanksSpec : ChangeSpec := { name := "lexBlanks", fn := fun _ => fun
  | [d1, d2] => { results := [.lit (.bool true)], args := [d1, d2] }
  | _ => none }
def lexBlanksRow : OpenClaim := { program := "ythfibaajmbhdkaadoor", sum := "84c4a650d1f92a037fdc191bd1ea875377fff5941223c1a7cb2442d0f026fe9a", func := "osier/osierlaw07.LexBlanks", spec := "lexBlanks", named := ["strconv.ErrSyntax", "strconv.ErrRange", "internal/strconv.uint64pow10", "math/bits.deBruijn32tab", "math/bits.deBruijn64tab"], apart := false, laid := [("math/bits.deBruijn32tab", laid_math_bits_deBruijn32tab), ("math/bits.deBruijn64tab", laid_math_bits_deBruijn64tab), ("internal/strconv.uint64pow10", laid_internal_strconv_uint64pow10), ("strconv.ErrRange", laid_strconv_ErrRange), ("strconv.ErrSyntax", laid_strconv_ErrSyntax)] }
def LexBlanksSaid : Prop := lexBlanksRow.holds Tryd.pinned (OpenSpec.ofChange lexBlanksSpec)

/-- ITS FALSE NEIGHBOUR: 'it returns false'. Refute it at one input. -/
def lexBlanksWrong : ChangeSpec := { name := "lexBlanks", fn := fun _ => fun
  | [d1, d2] => { results := [.lit (.bool false)], args := [d1, d2] }
  | _ => none }
def LexBlanksWrongFalsely : Prop := lexBlanksRow.holds Tryd.pinned (OpenSpec.ofChange lexBlanksWrong)

/-- 'osierlaw07.LexFaults': WHATEVER THE INPUT: true; the input reads as it did. -/
def lexFaultsSpec : ChangeSpec := { name := "lexFaults", fn := fun _ => fun
  | [d1, d2] => { results := [.lit (.bool true)], args := [d1, d2] }
  | _ => none }
def lexFaultsRow : OpenClaim := { program := "ythfibaajmbhdkaadoor", sum := "84c4a650d1f92a037fdc191bd1ea875377fff5941223c1a7cb2442d0f026fe9a", func := "osier/osierlaw07.LexFaults", spec := "lexFaults", named := ["strconv.ErrSyntax", "strconv.ErrRange", "internal/strconv.uint64pow10", "math/bits.deBruijn32tab", "math/bits.deBruijn64tab"], apart := false, laid := [("math/bits.deBruijn32tab", laid_math_bits_deBruijn32tab), ("math/bits.deBruijn64tab", laid_math_bits_deBruijn64tab), ("internal/strconv.uint64pow10", laid_internal_strconv_uint64pow10), ("strconv.ErrRange", laid_strconv_ErrRange), ("strconv.ErrSyntax", laid_strconv_ErrSyntax)] }
def LexFaultsSaid : Prop := lexFaultsRow.holds Tryd.pinned (OpenSpec.ofChange lexFaultsSpec)

/-- ITS FALSE NEIGHBOUR: 'it returns false'. Refute it at one input. -/
def lexFaultsWrong : ChangeSpec := { name := "lexFaults", fn := fun _ => fun
  | [d1, d2] => { results := [.lit (.bool false)], args := [d1, d2] }
  | _ => none }
def LexFaultsWrongFalsely : Prop := lexFaultsRow.holds Tryd.pinned (OpenSpec.ofChange lexFaultsWrong)

/-- 'osierlaw07.LexMemory': WHATEVER THE INPUT: true; the input reads as it did. -/
def lexMemorySpec : ChangeSpec := { name := "lexMemory", fn := fun _ => fun
  | [d] => { results := [.lit (.bool true)], args := [d] }
  | _ => none }
def lexMemoryRow : OpenClaim := { program := "ythfibaajmbhdkaadoor", sum := "84c4a650d1f92a037fdc191bd1ea875377fff5941223c1a7cb2442d0f026fe9a", func := "osier/osierlaw07.LexMemory", spec := "lexMemory", named := ["strconv.ErrSyntax", "strconv.ErrRange", "internal/strconv.uint64pow10", "math/bits.deBruijn32tab", "math/bits.deBruijn64tab"], apart := false, laid := [("math/bits.deBruijn32tab", laid_math_bits_deBruijn32tab), ("math/bits.deBruijn64tab", laid_math_bits_deBruijn64tab), ("internal/strconv.uint64pow10", laid_internal_strconv_uint64pow10), ("strconv.ErrRange", laid_strconv_ErrRange), ("strconv.ErrSyntax", laid_strconv_ErrSyntax)] }
def LexMemorySaid : Prop := lexMemoryRow.holds Tryd.pinned (OpenSpec.ofChange lexMemorySpec)

/-- ITS FALSE NEIGHBOUR: 'it returns false'. Refute it at one input. -/
def lexMemoryWrong : ChangeSpec := { name := "lexMemory", fn := fun _ => fun
  | [d] => { results := [.lit (.bool false)], args := [d] }
  | _ => none }
def LexMemoryWrongFalsely : Prop := lexMemoryRow.holds Tryd.pinned (OpenSpec.ofChange lexMemoryWrong)

/-- 'osierlaw01.ValueValids': WHATEVER THE INPUT: true; the input reads as it did. -/
def valueValidsSpec : ChangeSpec := { name := "valueValids", fn := fun _ => fun
  | [d] => { results := [.lit (.bool true)], args := [d] }
  | _ => none }
def valueValidsRow : OpenClaim := { program := "ythfibaajmbhdkaadoor", sum := "84c4a650d1f92a037fdc191bd1ea875377fff5941223c1a7cb2442d0f026fe9a", func := "osier/osierlaw01.ValueValids", spec := "valueValids", inPlace := ["internal/abi.NoEscape"], named := ["strconv.ErrSyntax", "strconv.ErrRange", "internal/strconv.uint64pow10", "math/bits.deBruijn32tab", "math/bits.deBruijn64tab"], apart := false, laid := [("math/bits.deBruijn32tab", laid_math_bits_deBruijn32tab), ("math/bits.deBruijn64tab", laid_math_bits_deBruijn64tab), ("internal/strconv.uint64pow10", laid_internal_strconv_uint64pow10), ("strconv.ErrRange", laid_strconv_ErrRange), ("strconv.ErrSyntax", laid_strconv_ErrSyntax)] }
def ValueValidsSaid : Prop := valueValidsRow.holds Tryd.pinned (OpenSpec.ofChange valueValidsSpec)

/-- ITS FALSE NEIGHBOUR: 'it returns false'. Refute it at one input. -/
def valueValidsWrong : ChangeSpec := { name := "valueValids", fn := fun _ => fun
  | [d] => { results := [.lit (.bool false)], args := [d] }
  | _ => none }
def ValueValidsWrongFalsely : Prop := valueValidsRow.holds Tryd.pinned (OpenSpec.ofChange valueValidsWrong)

/-- 'osierlaw01.ValueShows': WHATEVER THE INPUT: true; the input reads as it did. -/
def valueShowsSpec : ChangeSpec := { name := "valueShows", fn := fun _ => fun
  | [d] => { results := [.lit (.bool true)], args := [d] }
  | _ => none }
def valueShowsRow : OpenClaim := { program := "ythfibaajmbhdkaadoor", sum := "84c4a650d1f92a037fdc191bd1ea875377fff5941223c1a7cb2442d0f026fe9a", func := "osier/osierlaw01.ValueShows", spec := "valueShows", inPlace := ["internal/abi.NoEscape"], named := ["strconv.ErrSyntax", "strconv.ErrRange", "internal/strconv.uint64pow10", "math/bits.deBruijn32tab", "math/bits.deBruijn64tab"], apart := false, laid := [("math/bits.deBruijn32tab", laid_math_bits_deBruijn32tab), ("math/bits.deBruijn64tab", laid_math_bits_deBruijn64tab), ("internal/strconv.uint64pow10", laid_internal_strconv_uint64pow10), ("strconv.ErrRange", laid_strconv_ErrRange), ("strconv.ErrSyntax", laid_strconv_ErrSyntax)] }
def ValueShowsSaid : Prop := valueShowsRow.holds Tryd.pinned (OpenSpec.ofChange valueShowsSpec)

/-- ITS FALSE NEIGHBOUR: 'it returns false'. Refute it at one input. -/
def valueShowsWrong : ChangeSpec := { name := "valueShows", fn := fun _ => fun
  | [d] => { results := [.lit (.bool false)], args := [d] }
  | _ => none }
def ValueShowsWrongFalsely : Prop := valueShowsRow.holds Tryd.pinned (OpenSpec.ofChange valueShowsWrong)

/-- 'osierlaw01.ValueScans': WHATEVER THE INPUT: true; the input reads as it did. -/
def valueScansSpec : ChangeSpec := { name := "valueScans", fn := fun _ => fun
  | [d1, d2] => { results := [.lit (.bool true)], args := [d1, d2] }
  | _ => none }
def valueScansRow : OpenClaim := { program := "ythfibaajmbhdkaadoor", sum := "84c4a650d1f92a037fdc191bd1ea875377fff5941223c1a7cb2442d0f026fe9a", func := "osier/osierlaw01.ValueScans", spec := "valueScans", inPlace := ["internal/abi.NoEscape"], named := ["strconv.ErrSyntax", "strconv.ErrRange", "internal/strconv.uint64pow10", "math/bits.deBruijn32tab", "math/bits.deBruijn64tab"], apart := false, laid := [("math/bits.deBruijn32tab", laid_math_bits_deBruijn32tab), ("math/bits.deBruijn64tab", laid_math_bits_deBruijn64tab), ("internal/strconv.uint64pow10", laid_internal_strconv_uint64pow10), ("strconv.ErrRange", laid_strconv_ErrRange), ("strconv.ErrSyntax", laid_strconv_ErrSyntax)] }
def ValueScansSaid : Prop := valueScansRow.holds Tryd.pinned (OpenSpec.ofChange valueScansSpec)

/-- ITS FALSE NEIGHBOUR: 'it returns false'. Refute it at one input. -/
def valueScansWrong : ChangeSpec := { name := "valueScans", fn := fun _ => fun
  | [d1, d2] => { results := [.lit (.bool false)], args := [d1, d2] }
  | _ => none }
def ValueScansWrongFalsely : Prop := valueScansRow.holds Tryd.pinned (OpenSpec.ofChange valueScansWrong)

/-- 'osierlaw01.ValueReads': WHATEVER THE INPUT: true; the input reads as it did. -/
def valueReadsSpec : ChangeSpec := { name := "valueReads", fn := fun _ => fun
  | [d] => { results := [.lit (.bool true)], args := [d] }
  | _ => none }
def valueReadsRow : OpenClaim := { program := "ythfibaajmbhdkaadoor", sum := "84c4a650d1f92a037fdc191bd1ea875377fff5941223c1a7cb2442d0f026fe9a", func := "osier/osierlaw01.ValueReads", spec := "valueReads", inPlace := ["internal/abi.NoEscape"], named := ["strconv.ErrSyntax", "strconv.ErrRange", "internal/strconv.uint64pow10", "math/bits.deBruijn32tab", "math/bits.deBruijn64tab"], apart := false, laid := [("math/bits.deBruijn32tab", laid_math_bits_deBruijn32tab), ("math/bits.deBruijn64tab", laid_math_bits_deBruijn64tab), ("internal/strconv.uint64pow10", laid_internal_strconv_uint64pow10), ("strconv.ErrRange", laid_strconv_ErrRange), ("strconv.ErrSyntax", laid_strconv_ErrSyntax)] }
def ValueReadsSaid : Prop := valueReadsRow.holds Tryd.pinned (OpenSpec.ofChange valueReadsSpec)

/-- ITS FALSE NEIGHBOUR: 'it returns false'. Refute it at one input. -/
def valueReadsWrong : ChangeSpec := { name := "valueReads", fn := fun _ => fun
  | [d] => { results := [.lit (.bool false)], args := [d] }
  | _ => none }
def ValueReadsWrongFalsely : Prop := valueReadsRow.holds Tryd.pinned (OpenSpec.ofChange valueReadsWrong)

/-- 'osierlaw01.ValueBack': WHATEVER THE INPUT: true; the input reads as it did. -/
def valueBackSpec : ChangeSpec := { name := "valueBack", fn := fun _ => fun
  | [d] => { results := [.lit (.bool true)], args := [d] }
  | _ => none }
def valueBackRow : OpenClaim := { program := "ythfibaajmbhdkaadoor", sum := "84c4a650d1f92a037fdc191bd1ea875377fff5941223c1a7cb2442d0f026fe9a", func := "osier/osierlaw01.ValueBack", spec := "valueBack", inPlace := ["internal/abi.NoEscape"], named := ["internal/strconv.uint64pow10", "math/bits.deBruijn32tab", "math/bits.deBruijn64tab", "strconv.ErrSyntax", "strconv.ErrRange"], apart := false, laid := [("math/bits.deBruijn32tab", laid_math_bits_deBruijn32tab), ("math/bits.deBruijn64tab", laid_math_bits_deBruijn64tab), ("internal/strconv.uint64pow10", laid_internal_strconv_uint64pow10), ("strconv.ErrRange", laid_strconv_ErrRange), ("strconv.ErrSyntax", laid_strconv_ErrSyntax)] }
def ValueBackSaid : Prop := valueBackRow.holds Tryd.pinned (OpenSpec.ofChange valueBackSpec)

/-- ITS FALSE NEIGHBOUR: 'it returns false'. Refute it at one input. -/
def valueBackWrong : ChangeSpec := { name := "valueBack", fn := fun _ => fun
  | [d] => { results := [.lit (.bool false)], args := [d] }
  | _ => none }
def ValueBackWrongFalsely : Prop := valueBackRow.holds Tryd.pinned (OpenSpec.ofChange valueBackWrong)

/-- 'osierlaw01.ValueOnce': WHATEVER THE INPUT: true; the input reads as it did. -/
def valueOnceSpec : ChangeSpec := { name := "valueOnce", fn := fun _ => fun
  | [d] => { results := [.lit (.bool true)], args := [d] }
  | _ => none }
def valueOnceRow : OpenClaim := { program := "ythfibaajmbhdkaadoor", sum := "84c4a650d1f92a037fdc191bd1ea875377fff5941223c1a7cb2442d0f026fe9a", func := "osier/osierlaw01.ValueOnce", spec := "valueOnce", inPlace := ["internal/abi.NoEscape"], named := ["strconv.ErrSyntax", "strconv.ErrRange", "internal/strconv.uint64pow10", "math/bits.deBruijn32tab", "math/bits.deBruijn64tab"], apart := false, laid := [("math/bits.deBruijn32tab", laid_math_bits_deBruijn32tab), ("math/bits.deBruijn64tab", laid_math_bits_deBruijn64tab), ("internal/strconv.uint64pow10", laid_internal_strconv_uint64pow10), ("strconv.ErrRange", laid_strconv_ErrRange), ("strconv.ErrSyntax", laid_strconv_ErrSyntax)] }
def ValueOnceSaid : Prop := valueOnceRow.holds Tryd.pinned (OpenSpec.ofChange valueOnceSpec)

/-- ITS FALSE NEIGHBOUR: 'it returns false'. Refute it at one input. -/
def valueOnceWrong : ChangeSpec := { name := "valueOnce", fn := fun _ => fun
  | [d] => { results := [.lit (.bool false)], args := [d] }
  | _ => none }
def ValueOnceWrongFalsely : Prop := valueOnceRow.holds Tryd.pinned (OpenSpec.ofChange valueOnceWrong)

/-- 'osierlaw01.ValueWithin': WHATEVER THE INPUT: true; the input reads as it did. -/
def valueWithinSpec : ChangeSpec := { name := "valueWithin", fn := fun _ => fun
  | [d1, d2] => { results := [.lit (.bool true)], args := [d1, d2] }
  | _ => none }
def valueWithinRow : OpenClaim := { program := "ythfibaajmbhdkaadoor", sum := "84c4a650d1f92a037fdc191bd1ea875377fff5941223c1a7cb2442d0f026fe9a", func := "osier/osierlaw01.ValueWithin", spec := "valueWithin", inPlace := ["internal/abi.NoEscape"], named := ["strconv.ErrSyntax", "strconv.ErrRange", "internal/strconv.uint64pow10", "math/bits.deBruijn32tab", "math/bits.deBruijn64tab"], apart := false, laid := [("math/bits.deBruijn32tab", laid_math_bits_deBruijn32tab), ("math/bits.deBruijn64tab", laid_math_bits_deBruijn64tab), ("internal/strconv.uint64pow10", laid_internal_strconv_uint64pow10), ("strconv.ErrRange", laid_strconv_ErrRange), ("strconv.ErrSyntax", laid_strconv_ErrSyntax)] }
def ValueWithinSaid : Prop := valueWithinRow.holds Tryd.pinned (OpenSpec.ofChange valueWithinSpec)

/-- ITS FALSE NEIGHBOUR: 'it returns false'. Refute it at one input. -/
def valueWithinWrong : ChangeSpec := { name := "valueWithin", fn := fun _ => fun
  | [d1, d2] => { results := [.lit (.bool false)], args := [d1, d2] }
  | _ => none }
def ValueWithinWrongFalsely : Prop := valueWithinRow.holds Tryd.pinned (OpenSpec.ofChange valueWithinWrong)

/-- 'osierlaw01.ValueShort': WHATEVER THE INPUT: true; the input reads as it did. -/
def valueShortSpec : ChangeSpec := { name := "valueShort", fn := fun _ => fun
  | [d] => { results := [.lit (.bool true)], args := [d] }
  | _ => none }
def valueShortRow : OpenClaim := { program := "ythfibaajmbhdkaadoor", sum := "84c4a650d1f92a037fdc191bd1ea875377fff5941223c1a7cb2442d0f026fe9a", func := "osier/osierlaw01.ValueShort", spec := "valueShort", inPlace := ["internal/abi.NoEscape"], named := ["strconv.ErrSyntax", "strconv.ErrRange", "internal/strconv.uint64pow10", "math/bits.deBruijn32tab", "math/bits.deBruijn64tab"], apart := false, laid := [("math/bits.deBruijn32tab", laid_math_bits_deBruijn32tab), ("math/bits.deBruijn64tab", laid_math_bits_deBruijn64tab), ("internal/strconv.uint64pow10", laid_internal_strconv_uint64pow10), ("strconv.ErrRange", laid_strconv_ErrRange), ("strconv.ErrSyntax", laid_strconv_ErrSyntax)] }
def ValueShortSaid : Prop := valueShortRow.holds Tryd.pinned (OpenSpec.ofChange valueShortSpec)

/-- ITS FALSE NEIGHBOUR: 'it returns false'. Refute it at one input. -/
def valueShortWrong : ChangeSpec := { name := "valueShort", fn := fun _ => fun
  | [d] => { results := [.lit (.bool false)], args := [d] }
  | _ => none }
def ValueShortWrongFalsely : Prop := valueShortRow.holds Tryd.pinned (OpenSpec.ofChange valueShortWrong)

/-- 'osierlaw01.ValueCompares': WHATEVER THE INPUT: true; the input reads as it did. -/
def valueComparesSpec : ChangeSpec := { name := "valueCompares", fn := fun _ => fun
  | [d1, d2] => { results := [.lit (.bool true)], args := [d1, d2] }
  | _ => none }
def valueComparesRow : OpenClaim := { program := "ythfibaajmbhdkaadoor", sum := "84c4a650d1f92a037fdc191bd1ea875377fff5941223c1a7cb2442d0f026fe9a", func := "osier/osierlaw01.ValueCompares", spec := "valueCompares", inPlace := ["internal/abi.NoEscape", "internal/bytealg.abigen_runtime_cmpstring"], named := ["strconv.ErrSyntax", "strconv.ErrRange", "internal/strconv.uint64pow10", "math/bits.deBruijn32tab", "math/bits.deBruijn64tab"], apart := false, laid := [("math/bits.deBruijn32tab", laid_math_bits_deBruijn32tab), ("math/bits.deBruijn64tab", laid_math_bits_deBruijn64tab), ("internal/strconv.uint64pow10", laid_internal_strconv_uint64pow10), ("strconv.ErrRange", laid_strconv_ErrRange), ("strconv.ErrSyntax", laid_strconv_ErrSyntax)] }
def ValueComparesSaid : Prop := valueComparesRow.holds Tryd.pinned (OpenSpec.ofChange valueComparesSpec)

/-- ITS FALSE NEIGHBOUR: 'it returns false'. Refute it at one input. -/
def valueComparesWrong : ChangeSpec := { name := "valueCompares", fn := fun _ => fun
  | [d1, d2] => { results := [.lit (.bool false)], args := [d1, d2] }
  | _ => none }
def ValueComparesWrongFalsely : Prop := valueComparesRow.holds Tryd.pinned (OpenSpec.ofChange valueComparesWrong)

/- THE SECOND FORM. 'bulk': how many values and letters a reading holds, each counted each time it is reached (what is shared counts as often as it is met; a slice's spare places count too). A statement '..UptoSaid' is the law's where the arguments, and the package variables that the reading takes, are together of bulk at most 1048576: NARROWER than '..Said'. Prove '..Said' where nothing that the law and all that it calls make is longer than what came in: it says more and counts as full. Else prove '..UptoSaid'. A law counts once. -/
mutual
def uptoBulk {H : Type} : DataW H → Nat
  | .lit (.string bytes) => bytes.length + 1
  | .lit _ => 1
  | .nil => 1
  | .ptr d => uptoBulk d + 1
  | .slice elems spare => uptoBulkAll elems + uptoBulkAll spare + 1
  | .agg parts => uptoBulkAll parts + 1
  | .iface _ d => uptoBulk d + 1
  | .map entries => uptoBulkEntries entries + 1
  | .held _ => 1
def uptoBulkAll {H : Type} : List (DataW H) → Nat
  | [] => 0
  | d :: r => uptoBulk d + uptoBulkAll r
def uptoBulkEntries {H : Type} : List (Lit × DataW H) → Nat
  | [] => 0
  | x :: r => uptoBulkEntry x + uptoBulkEntries r
def uptoBulkEntry {H : Type} : Lit × DataW H → Nat
  | (.string bytes, d) => bytes.length + uptoBulk d + 1
  | (_, d) => uptoBulk d + 1
 end
def uptoSmall : (H : Type) → List (DataW H) → Bool := fun _ ds => decide (uptoBulkAll ds ≤ 1048576)
def OpenSpec.upto (s : _root_.Go.ChangeSpec) : _root_.Go.OpenSpec := { _root_.Go.OpenSpec.ofChange s with cond := some uptoSmall }

/-- 'osierlaw07.LexTokens', WHERE WHAT IT READS IS OF BULK AT MOST 1048576: true; the input reads as it did. -/
def lexTokensUptoRow : OpenClaim := { program := "ythfibaajmbhdkaadoor", sum := "84c4a650d1f92a037fdc191bd1ea875377fff5941223c1a7cb2442d0f026fe9a", func := "osier/osierlaw07.LexTokens", spec := "lexTokens", named := ["strconv.ErrSyntax", "strconv.ErrRange", "internal/strconv.uint64pow10", "math/bits.deBruijn32tab", "math/bits.deBruijn64tab"], apart := false, laid := [("math/bits.deBruijn32tab", laid_math_bits_deBruijn32tab), ("math/bits.deBruijn64tab", laid_math_bits_deBruijn64tab), ("internal/strconv.uint64pow10", laid_internal_strconv_uint64pow10), ("strconv.ErrRange", laid_strconv_ErrRange), ("strconv.ErrSyntax", laid_strconv_ErrSyntax)], narrowed := true }
def LexTokensUptoSaid : Prop := lexTokensUptoRow.holds Tryd.pinned (OpenSpec.upto lexTokensSpec)

/-- 'osierlaw07.LexNames', WHERE WHAT IT READS IS OF BULK AT MOST 1048576: true; the input reads as it did. -/
def lexNamesUptoRow : OpenClaim := { program := "ythfibaajmbhdkaadoor", sum := "84c4a650d1f92a037fdc191bd1ea875377fff5941223c1a7cb2442d0f026fe9a", func := "osier/osierlaw07.LexNames", spec := "lexNames", named := ["strconv.ErrSyntax", "strconv.ErrRange", "internal/strconv.uint64pow10", "math/bits.deBruijn32tab", "math/bits.deBruijn64tab"], apart := false, laid := [("math/bits.deBruijn32tab", laid_math_bits_deBruijn32tab), ("math/bits.deBruijn64tab", laid_math_bits_deBruijn64tab), ("internal/strconv.uint64pow10", laid_internal_strconv_uint64pow10), ("strconv.ErrRange", laid_strconv_ErrRange), ("strconv.ErrSyntax", laid_strconv_ErrSyntax)], narrowed := true }
def LexNamesUptoSaid : Prop := lexNamesUptoRow.holds Tryd.pinned (OpenSpec.upto lexNamesSpec)

/-- 'osierlaw07.LexTiles', WHERE WHAT IT READS IS OF BULK AT MOST 1048576: true; the input reads as it did. -/
def lexTilesUptoRow : OpenClaim := { program := "ythfibaajmbhdkaadoor", sum := "84c4a650d1f92a037fdc191bd1ea875377fff5941223c1a7cb2442d0f026fe9a", func := "osier/osierlaw07.LexTiles", spec := "lexTiles", named := ["strconv.ErrSyntax", "strconv.ErrRange", "internal/strconv.uint64pow10", "math/bits.deBruijn32tab", "math/bits.deBruijn64tab"], apart := false, laid := [("math/bits.deBruijn32tab", laid_math_bits_deBruijn32tab), ("math/bits.deBruijn64tab", laid_math_bits_deBruijn64tab), ("internal/strconv.uint64pow10", laid_internal_strconv_uint64pow10), ("strconv.ErrRange", laid_strconv_ErrRange), ("strconv.ErrSyntax", laid_strconv_ErrSyntax)], narrowed := true }
def LexTilesUptoSaid : Prop := lexTilesUptoRow.holds Tryd.pinned (OpenSpec.upto lexTilesSpec)

/-- 'osierlaw07.LexBlanks', WHERE WHAT IT READS IS OF BULK AT MOST 1048576: true; the input reads as it did. -/
def lexBlanksUptoRow : OpenClaim := { program := "ythfibaajmbhdkaadoor", sum := "84c4a650d1f92a037fdc191bd1ea875377fff5941223c1a7cb2442d0f026fe9a", func := "osier/osierlaw07.LexBlanks", spec := "lexBlanks", named := ["strconv.ErrSyntax", "strconv.ErrRange", "internal/strconv.uint64pow10", "math/bits.deBruijn32tab", "math/bits.deBruijn64tab"], apart := false, laid := [("math/bits.deBruijn32tab", laid_math_bits_deBruijn32tab), ("math/bits.deBruijn64tab", laid_math_bits_deBruijn64tab), ("internal/strconv.uint64pow10", laid_internal_strconv_uint64pow10), ("strconv.ErrRange", laid_strconv_ErrRange), ("strconv.ErrSyntax", laid_strconv_ErrSyntax)], narrowed := true }
def LexBlanksUptoSaid : Prop := lexBlanksUptoRow.holds Tryd.pinned (OpenSpec.upto lexBlanksSpec)

/-- 'osierlaw07.LexFaults', WHERE WHAT IT READS IS OF BULK AT MOST 1048576: true; the input reads as it did. -/
def lexFaultsUptoRow : OpenClaim := { program := "ythfibaajmbhdkaadoor", sum := "84c4a650d1f92a037fdc191bd1ea875377fff5941223c1a7cb2442d0f026fe9a", func := "osier/osierlaw07.LexFaults", spec := "lexFaults", named := ["strconv.ErrSyntax", "strconv.ErrRange", "internal/strconv.uint64pow10", "math/bits.deBruijn32tab", "math/bits.deBruijn64tab"], apart := false, laid := [("math/bits.deBruijn32tab", laid_math_bits_deBruijn32tab), ("math/bits.deBruijn64tab", laid_math_bits_deBruijn64tab), ("internal/strconv.uint64pow10", laid_internal_strconv_uint64pow10), ("strconv.ErrRange", laid_strconv_ErrRange), ("strconv.ErrSyntax", laid_strconv_ErrSyntax)], narrowed := true }
def LexFaultsUptoSaid : Prop := lexFaultsUptoRow.holds Tryd.pinned (OpenSpec.upto lexFaultsSpec)

/-- 'osierlaw07.LexMemory', WHERE WHAT IT READS IS OF BULK AT MOST 1048576: true; the input reads as it did. -/
def lexMemoryUptoRow : OpenClaim := { program := "ythfibaajmbhdkaadoor", sum := "84c4a650d1f92a037fdc191bd1ea875377fff5941223c1a7cb2442d0f026fe9a", func := "osier/osierlaw07.LexMemory", spec := "lexMemory", named := ["strconv.ErrSyntax", "strconv.ErrRange", "internal/strconv.uint64pow10", "math/bits.deBruijn32tab", "math/bits.deBruijn64tab"], apart := false, laid := [("math/bits.deBruijn32tab", laid_math_bits_deBruijn32tab), ("math/bits.deBruijn64tab", laid_math_bits_deBruijn64tab), ("internal/strconv.uint64pow10", laid_internal_strconv_uint64pow10), ("strconv.ErrRange", laid_strconv_ErrRange), ("strconv.ErrSyntax", laid_strconv_ErrSyntax)], narrowed := true }
def LexMemoryUptoSaid : Prop := lexMemoryUptoRow.holds Tryd.pinned (OpenSpec.upto lexMemorySpec)

/-- 'osierlaw01.ValueValids', WHERE WHAT IT READS IS OF BULK AT MOST 1048576: true; the input reads as it did. -/
def valueValidsUptoRow : OpenClaim := { program := "ythfibaajmbhdkaadoor", sum := "84c4a650d1f92a037fdc191bd1ea875377fff5941223c1a7cb2442d0f026fe9a", func := "osier/osierlaw01.ValueValids", spec := "valueValids", inPlace := ["internal/abi.NoEscape"], named := ["strconv.ErrSyntax", "strconv.ErrRange", "internal/strconv.uint64pow10", "math/bits.deBruijn32tab", "math/bits.deBruijn64tab"], apart := false, laid := [("math/bits.deBruijn32tab", laid_math_bits_deBruijn32tab), ("math/bits.deBruijn64tab", laid_math_bits_deBruijn64tab), ("internal/strconv.uint64pow10", laid_internal_strconv_uint64pow10), ("strconv.ErrRange", laid_strconv_ErrRange), ("strconv.ErrSyntax", laid_strconv_ErrSyntax)], narrowed := true }
def ValueValidsUptoSaid : Prop := valueValidsUptoRow.holds Tryd.pinned (OpenSpec.upto valueValidsSpec)

/-- 'osierlaw01.ValueShows', WHERE WHAT IT READS IS OF BULK AT MOST 1048576: true; the input reads as it did. -/
def valueShowsUptoRow : OpenClaim := { program := "ythfibaajmbhdkaadoor", sum := "84c4a650d1f92a037fdc191bd1ea875377fff5941223c1a7cb2442d0f026fe9a", func := "osier/osierlaw01.ValueShows", spec := "valueShows", inPlace := ["internal/abi.NoEscape"], named := ["strconv.ErrSyntax", "strconv.ErrRange", "internal/strconv.uint64pow10", "math/bits.deBruijn32tab", "math/bits.deBruijn64tab"], apart := false, laid := [("math/bits.deBruijn32tab", laid_math_bits_deBruijn32tab), ("math/bits.deBruijn64tab", laid_math_bits_deBruijn64tab), ("internal/strconv.uint64pow10", laid_internal_strconv_uint64pow10), ("strconv.ErrRange", laid_strconv_ErrRange), ("strconv.ErrSyntax", laid_strconv_ErrSyntax)], narrowed := true }
def ValueShowsUptoSaid : Prop := valueShowsUptoRow.holds Tryd.pinned (OpenSpec.upto valueShowsSpec)

/-- 'osierlaw01.ValueScans', WHERE WHAT IT READS IS OF BULK AT MOST 1048576: true; the input reads as it did. -/
def valueScansUptoRow : OpenClaim := { program := "ythfibaajmbhdkaadoor", sum := "84c4a650d1f92a037fdc191bd1ea875377fff5941223c1a7cb2442d0f026fe9a", func := "osier/osierlaw01.ValueScans", spec := "valueScans", inPlace := ["internal/abi.NoEscape"], named := ["strconv.ErrSyntax", "strconv.ErrRange", "internal/strconv.uint64pow10", "math/bits.deBruijn32tab", "math/bits.deBruijn64tab"], apart := false, laid := [("math/bits.deBruijn32tab", laid_math_bits_deBruijn32tab), ("math/bits.deBruijn64tab", laid_math_bits_deBruijn64tab), ("internal/strconv.uint64pow10", laid_internal_strconv_uint64pow10), ("strconv.ErrRange", laid_strconv_ErrRange), ("strconv.ErrSyntax", laid_strconv_ErrSyntax)], narrowed := true }
def ValueScansUptoSaid : Prop := valueScansUptoRow.holds Tryd.pinned (OpenSpec.upto valueScansSpec)

/-- 'osierlaw01.ValueReads', WHERE WHAT IT READS IS OF BULK AT MOST 1048576: true; the input reads as it did. -/
def valueReadsUptoRow : OpenClaim := { program := "ythfibaajmbhdkaadoor", sum := "84c4a650d1f92a037fdc191bd1ea875377fff5941223c1a7cb2442d0f026fe9a", func := "osier/osierlaw01.ValueReads", spec := "valueReads", inPlace := ["internal/abi.NoEscape"], named := ["strconv.ErrSyntax", "strconv.ErrRange", "internal/strconv.uint64pow10", "math/bits.deBruijn32tab", "math/bits.deBruijn64tab"], apart := false, laid := [("math/bits.deBruijn32tab", laid_math_bits_deBruijn32tab), ("math/bits.deBruijn64tab", laid_math_bits_deBruijn64tab), ("internal/strconv.uint64pow10", laid_internal_strconv_uint64pow10), ("strconv.ErrRange", laid_strconv_ErrRange), ("strconv.ErrSyntax", laid_strconv_ErrSyntax)], narrowed := true }
def ValueReadsUptoSaid : Prop := valueReadsUptoRow.holds Tryd.pinned (OpenSpec.upto valueReadsSpec)

/-- 'osierlaw01.ValueBack', WHERE WHAT IT READS IS OF BULK AT MOST 1048576: true; the input reads as it did. -/
def valueBackUptoRow : OpenClaim := { program := "ythfibaajmbhdkaadoor", sum := "84c4a650d1f92a037fdc191bd1ea875377fff5941223c1a7cb2442d0f026fe9a", func := "osier/osierlaw01.ValueBack", spec := "valueBack", inPlace := ["internal/abi.NoEscape"], named := ["internal/strconv.uint64pow10", "math/bits.deBruijn32tab", "math/bits.deBruijn64tab", "strconv.ErrSyntax", "strconv.ErrRange"], apart := false, laid := [("math/bits.deBruijn32tab", laid_math_bits_deBruijn32tab), ("math/bits.deBruijn64tab", laid_math_bits_deBruijn64tab), ("internal/strconv.uint64pow10", laid_internal_strconv_uint64pow10), ("strconv.ErrRange", laid_strconv_ErrRange), ("strconv.ErrSyntax", laid_strconv_ErrSyntax)], narrowed := true }
def ValueBackUptoSaid : Prop := valueBackUptoRow.holds Tryd.pinned (OpenSpec.upto valueBackSpec)

/-- 'osierlaw01.ValueOnce', WHERE WHAT IT READS IS OF BULK AT MOST 1048576: true; the input reads as it did. -/
def valueOnceUptoRow : OpenClaim := { program := "ythfibaajmbhdkaadoor", sum := "84c4a650d1f92a037fdc191bd1ea875377fff5941223c1a7cb2442d0f026fe9a", func := "osier/osierlaw01.ValueOnce", spec := "valueOnce", inPlace := ["internal/abi.NoEscape"], named := ["strconv.ErrSyntax", "strconv.ErrRange", "internal/strconv.uint64pow10", "math/bits.deBruijn32tab", "math/bits.deBruijn64tab"], apart := false, laid := [("math/bits.deBruijn32tab", laid_math_bits_deBruijn32tab), ("math/bits.deBruijn64tab", laid_math_bits_deBruijn64tab), ("internal/strconv.uint64pow10", laid_internal_strconv_uint64pow10), ("strconv.ErrRange", laid_strconv_ErrRange), ("strconv.ErrSyntax", laid_strconv_ErrSyntax)], narrowed := true }
def ValueOnceUptoSaid : Prop := valueOnceUptoRow.holds Tryd.pinned (OpenSpec.upto valueOnceSpec)

/-- 'osierlaw01.ValueWithin', WHERE WHAT IT READS IS OF BULK AT MOST 1048576: true; the input reads as it did. -/
def valueWithinUptoRow : OpenClaim := { program := "ythfibaajmbhdkaadoor", sum := "84c4a650d1f92a037fdc191bd1ea875377fff5941223c1a7cb2442d0f026fe9a", func := "osier/osierlaw01.ValueWithin", spec := "valueWithin", inPlace := ["internal/abi.NoEscape"], named := ["strconv.ErrSyntax", "strconv.ErrRange", "internal/strconv.uint64pow10", "math/bits.deBruijn32tab", "math/bits.deBruijn64tab"], apart := false, laid := [("math/bits.deBruijn32tab", laid_math_bits_deBruijn32tab), ("math/bits.deBruijn64tab", laid_math_bits_deBruijn64tab), ("internal/strconv.uint64pow10", laid_internal_strconv_uint64pow10), ("strconv.ErrRange", laid_strconv_ErrRange), ("strconv.ErrSyntax", laid_strconv_ErrSyntax)], narrowed := true }
def ValueWithinUptoSaid : Prop := valueWithinUptoRow.holds Tryd.pinned (OpenSpec.upto valueWithinSpec)

/-- 'osierlaw01.ValueShort', WHERE WHAT IT READS IS OF BULK AT MOST 1048576: true; the input reads as it did. -/
def valueShortUptoRow : OpenClaim := { program := "ythfibaajmbhdkaadoor", sum := "84c4a650d1f92a037fdc191bd1ea875377fff5941223c1a7cb2442d0f026fe9a", func := "osier/osierlaw01.ValueShort", spec := "valueShort", inPlace := ["internal/abi.NoEscape"], named := ["strconv.ErrSyntax", "strconv.ErrRange", "internal/strconv.uint64pow10", "math/bits.deBruijn32tab", "math/bits.deBruijn64tab"], apart := false, laid := [("math/bits.deBruijn32tab", laid_math_bits_deBruijn32tab), ("math/bits.deBruijn64tab", laid_math_bits_deBruijn64tab), ("internal/strconv.uint64pow10", laid_internal_strconv_uint64pow10), ("strconv.ErrRange", laid_strconv_ErrRange), ("strconv.ErrSyntax", laid_strconv_ErrSyntax)], narrowed := true }
def ValueShortUptoSaid : Prop := valueShortUptoRow.holds Tryd.pinned (OpenSpec.upto valueShortSpec)

/-- 'osierlaw01.ValueCompares', WHERE WHAT IT READS IS OF BULK AT MOST 1048576: true; the input reads as it did. -/
def valueComparesUptoRow : OpenClaim := { program := "ythfibaajmbhdkaadoor", sum := "84c4a650d1f92a037fdc191bd1ea875377fff5941223c1a7cb2442d0f026fe9a", func := "osier/osierlaw01.ValueCompares", spec := "valueCompares", inPlace := ["internal/abi.NoEscape", "internal/bytealg.abigen_runtime_cmpstring"], named := ["strconv.ErrSyntax", "strconv.ErrRange", "internal/strconv.uint64pow10", "math/bits.deBruijn32tab", "math/bits.deBruijn64tab"], apart := false, laid := [("math/bits.deBruijn32tab", laid_math_bits_deBruijn32tab), ("math/bits.deBruijn64tab", laid_math_bits_deBruijn64tab), ("internal/strconv.uint64pow10", laid_internal_strconv_uint64pow10), ("strconv.ErrRange", laid_strconv_ErrRange), ("strconv.ErrSyntax", laid_strconv_ErrSyntax)], narrowed := true }
def ValueComparesUptoSaid : Prop := valueComparesUptoRow.holds Tryd.pinned (OpenSpec.upto valueComparesSpec)

end Rows
end Go.Proofs.YthfibaajmbhdkaaDoor
