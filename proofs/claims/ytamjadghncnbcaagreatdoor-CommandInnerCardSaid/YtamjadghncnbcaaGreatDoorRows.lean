/-
  NARROWER THAN 'FOR EVERY INPUT', by the rows' own cells (each row's printed sentence says how): CommandParses: laid · CommandTexts: laid · CommandBlanks: laid · CommandBack: laid · CommandOnce: laid · CommandInner: laid · CommandMemory: laid · ChangeNets: laid · ChangeSays: laid · ChangeMemory: laid.
  DERIVED. THE GIVEN ROWS OF THIS SEAT. 10 by the template 'for every input the law returns true; each argument reads behind the call as it read before'; 0 by the template 'total and deterministic' (their statements: YtamjadghncnbcaaGreatDoorTotals.lean).
  GIVEN WITH THE SEED: the statements are not yours to turn. If you find one false, say at which input.
  Laid BY PROGRAM, IN A SANDBOX (cutbox-rows.mjs): the forced cells as the released guide's own fill.sh prints them over the translation 9d38e980973476d9… (all of the seat's roots in one cut). By AI agents, Wed Nov 11 2026. No macro, syntax, notation, axiom, sorry.
-/
import Derived.Test.YtamjadghncnbcaaGreatDoorChecked
import GoSem.Claim
import GoSem.ClaimJoined
import GoSem.ClaimMapViews
import Derived.JoinedTies
import Derived.KernelRfl
namespace Go.Proofs.YtamjadghncnbcaaGreatDoor
/- THE CELL 'sum', in the pinned program and in every row, IS THE sha256 OF THE DUMP (.gsa) THAT YtamjadghncnbcaaGreatDoorProg.lean LOADS. Nothing in Lean hashes anything: it is a label: what it is worth is what the hold of that sum in a sandbox is worth. -/
noncomputable def Tryz.pinned : Pinned := { name := "ytamjadghncnbcaagreatdoor", sum := "9d38e980973476d97d75f1e0ea00eadb71a408d42058b96f9a1e321c42a0167b", checked := Tryz.checked }
namespace Rows
def none {H : Type} : Left H := { results := [], args := [] }

/- WHAT THE LISTED PACKAGE-LEVEL VARIABLES READ AS WHEN THE CALL BEGINS. Each datum BY PROGRAM (the guide's laid-datum.mjs) off the statement by which the dump's own 'gosem.cut.vars' lays the variable. In a bare row this is a premise. The card (YtamjadghncnbcaaGreatDoorCards.lean) ties it to the program's text. -/
def laid_math_bits_deBruijn32tab {H : Type} : DataW H := .agg [.lit (.int .u8 0), .lit (.int .u8 1), .lit (.int .u8 28), .lit (.int .u8 2), .lit (.int .u8 29), .lit (.int .u8 14), .lit (.int .u8 24), .lit (.int .u8 3), .lit (.int .u8 30), .lit (.int .u8 22), .lit (.int .u8 20), .lit (.int .u8 15), .lit (.int .u8 25), .lit (.int .u8 17), .lit (.int .u8 4), .lit (.int .u8 8), .lit (.int .u8 31), .lit (.int .u8 27), .lit (.int .u8 13), .lit (.int .u8 23), .lit (.int .u8 21), .lit (.int .u8 19), .lit (.int .u8 16), .lit (.int .u8 7), .lit (.int .u8 26), .lit (.int .u8 12), .lit (.int .u8 18), .lit (.int .u8 6), .lit (.int .u8 11), .lit (.int .u8 5), .lit (.int .u8 10), .lit (.int .u8 9)]
def laid_math_bits_deBruijn64tab {H : Type} : DataW H := .agg [.lit (.int .u8 0), .lit (.int .u8 1), .lit (.int .u8 56), .lit (.int .u8 2), .lit (.int .u8 57), .lit (.int .u8 49), .lit (.int .u8 28), .lit (.int .u8 3), .lit (.int .u8 61), .lit (.int .u8 58), .lit (.int .u8 42), .lit (.int .u8 50), .lit (.int .u8 38), .lit (.int .u8 29), .lit (.int .u8 17), .lit (.int .u8 4), .lit (.int .u8 62), .lit (.int .u8 47), .lit (.int .u8 59), .lit (.int .u8 36), .lit (.int .u8 45), .lit (.int .u8 43), .lit (.int .u8 51), .lit (.int .u8 22), .lit (.int .u8 53), .lit (.int .u8 39), .lit (.int .u8 33), .lit (.int .u8 30), .lit (.int .u8 24), .lit (.int .u8 18), .lit (.int .u8 12), .lit (.int .u8 5), .lit (.int .u8 63), .lit (.int .u8 55), .lit (.int .u8 48), .lit (.int .u8 27), .lit (.int .u8 60), .lit (.int .u8 41), .lit (.int .u8 37), .lit (.int .u8 16), .lit (.int .u8 46), .lit (.int .u8 35), .lit (.int .u8 44), .lit (.int .u8 21), .lit (.int .u8 52), .lit (.int .u8 32), .lit (.int .u8 23), .lit (.int .u8 11), .lit (.int .u8 54), .lit (.int .u8 26), .lit (.int .u8 40), .lit (.int .u8 15), .lit (.int .u8 34), .lit (.int .u8 20), .lit (.int .u8 31), .lit (.int .u8 10), .lit (.int .u8 25), .lit (.int .u8 14), .lit (.int .u8 19), .lit (.int .u8 9), .lit (.int .u8 13), .lit (.int .u8 8), .lit (.int .u8 7), .lit (.int .u8 6)]
def laid_internal_strconv_uint64pow10 {H : Type} : DataW H := .agg [.lit (.int .u64 1), .lit (.int .u64 10), .lit (.int .u64 100), .lit (.int .u64 1000), .lit (.int .u64 10000), .lit (.int .u64 100000), .lit (.int .u64 1000000), .lit (.int .u64 10000000), .lit (.int .u64 100000000), .lit (.int .u64 1000000000), .lit (.int .u64 10000000000), .lit (.int .u64 100000000000), .lit (.int .u64 1000000000000), .lit (.int .u64 10000000000000), .lit (.int .u64 100000000000000), .lit (.int .u64 1000000000000000), .lit (.int .u64 10000000000000000), .lit (.int .u64 100000000000000000), .lit (.int .u64 1000000000000000000), .lit (.int .u64 10000000000000000000)]
def laid_strconv_ErrRange {H : Type} : DataW H := .iface "*errors.errorString" (.ptr (.agg [.lit (.string [118, 97, 108, 117, 101, 32, 111, 117, 116, 32, 111, 102, 32, 114, 97, 110, 103, 101])]))
def laid_strconv_ErrSyntax {H : Type} : DataW H := .iface "*errors.errorString" (.ptr (.agg [.lit (.string [105, 110, 118, 97, 108, 105, 100, 32, 115, 121, 110, 116, 97, 120])]))
def laid_osier_command_words {H : Type} : DataW H := .agg [.lit (.string []), .lit (.string [114, 101, 108]), .lit (.string [118, 105, 101, 119]), .lit (.string [100, 114, 111, 112]), .lit (.string [98, 97, 116, 99, 104]), .lit (.string [114, 111, 119, 115]), .lit (.string [111, 112, 101, 110]), .lit (.string [110, 101, 120, 116]), .lit (.string [114, 101, 115, 101, 116]), .lit (.string [99, 108, 111, 115, 101]), .lit (.string [99, 111, 117, 110, 116]), .lit (.string [110, 116, 104]), .lit (.string [114, 97, 110, 107]), .lit (.string [116, 101, 115, 116]), .lit (.string [99, 108, 97, 115, 115]), .lit (.string [99, 111, 114, 101]), .lit (.string [115, 104, 111, 119]), .lit (.string [100, 117, 109, 112]), .lit (.string [99, 117, 114, 115, 111, 114, 115])]

/-- 'osierlaw25.CommandParses': WHATEVER THE INPUT: true; the input reads as it did. -/
def commandParsesSpec : ChangeSpec := { name := "commandParses", fn := fun _ => fun
  | [d] => { results := [.lit (.bool true)], args := [d] }
  | _ => none }
def commandParsesRow : OpenClaim := { program := "ytamjadghncnbcaagreatdoor", sum := "9d38e980973476d97d75f1e0ea00eadb71a408d42058b96f9a1e321c42a0167b", func := "osier/osierlaw25.CommandParses", spec := "commandParses", inPlace := ["internal/abi.NoEscape", "internal/bytealg.MakeNoZero"], unfollowed := true, recurses := true, named := ["strconv.ErrSyntax", "strconv.ErrRange", "internal/strconv.uint64pow10", "math/bits.deBruijn32tab", "math/bits.deBruijn64tab", "osier/command.words"], apart := false, laid := [("math/bits.deBruijn32tab", laid_math_bits_deBruijn32tab), ("math/bits.deBruijn64tab", laid_math_bits_deBruijn64tab), ("internal/strconv.uint64pow10", laid_internal_strconv_uint64pow10), ("strconv.ErrRange", laid_strconv_ErrRange), ("strconv.ErrSyntax", laid_strconv_ErrSyntax), ("osier/command.words", laid_osier_command_words)] }
def CommandParsesSaid : Prop := commandParsesRow.holds Tryz.pinned (OpenSpec.ofChange commandParsesSpec)

/-- ITS FALSE NEIGHBOUR: 'it returns false'. Refute it at one input. -/
def commandParsesWrong : ChangeSpec := { name := "commandParses", fn := fun _ => fun
  | [d] => { results := [.lit (.bool false)], args := [d] }
  | _ => none }
def CommandParsesWrongFalsely : Prop := commandParsesRow.holds Tryz.pinned (OpenSpec.ofChange commandParsesWrong)

/-- 'osierlaw25.CommandTexts': WHATEVER THE INPUT: true; the input reads as it did. -/
def commandTextsSpec : ChangeSpec := { name := "commandTexts", fn := fun _ => fun
  | [d] => { results := [.lit (.bool true)], args := [d] }
  | _ => none }
def commandTextsRow : OpenClaim := { program := "ytamjadghncnbcaagreatdoor", sum := "9d38e980973476d97d75f1e0ea00eadb71a408d42058b96f9a1e321c42a0167b", func := "osier/osierlaw25.CommandTexts", spec := "commandTexts", inPlace := ["internal/abi.NoEscape", "internal/bytealg.MakeNoZero"], unfollowed := true, recurses := true, named := ["strconv.ErrSyntax", "strconv.ErrRange", "internal/strconv.uint64pow10", "math/bits.deBruijn32tab", "math/bits.deBruijn64tab", "osier/command.words"], apart := false, laid := [("math/bits.deBruijn32tab", laid_math_bits_deBruijn32tab), ("math/bits.deBruijn64tab", laid_math_bits_deBruijn64tab), ("internal/strconv.uint64pow10", laid_internal_strconv_uint64pow10), ("strconv.ErrRange", laid_strconv_ErrRange), ("strconv.ErrSyntax", laid_strconv_ErrSyntax), ("osier/command.words", laid_osier_command_words)] }
def CommandTextsSaid : Prop := commandTextsRow.holds Tryz.pinned (OpenSpec.ofChange commandTextsSpec)

/-- ITS FALSE NEIGHBOUR: 'it returns false'. Refute it at one input. -/
def commandTextsWrong : ChangeSpec := { name := "commandTexts", fn := fun _ => fun
  | [d] => { results := [.lit (.bool false)], args := [d] }
  | _ => none }
def CommandTextsWrongFalsely : Prop := commandTextsRow.holds Tryz.pinned (OpenSpec.ofChange commandTextsWrong)

/-- 'osierlaw25.CommandBlanks': WHATEVER THE INPUT: true; the input reads as it did. -/
def commandBlanksSpec : ChangeSpec := { name := "commandBlanks", fn := fun _ => fun
  | [d] => { results := [.lit (.bool true)], args := [d] }
  | _ => none }
def commandBlanksRow : OpenClaim := { program := "ytamjadghncnbcaagreatdoor", sum := "9d38e980973476d97d75f1e0ea00eadb71a408d42058b96f9a1e321c42a0167b", func := "osier/osierlaw25.CommandBlanks", spec := "commandBlanks", inPlace := ["internal/abi.NoEscape", "internal/bytealg.MakeNoZero"], unfollowed := true, recurses := true, named := ["strconv.ErrSyntax", "strconv.ErrRange", "internal/strconv.uint64pow10", "math/bits.deBruijn32tab", "math/bits.deBruijn64tab", "osier/command.words"], apart := false, laid := [("math/bits.deBruijn32tab", laid_math_bits_deBruijn32tab), ("math/bits.deBruijn64tab", laid_math_bits_deBruijn64tab), ("internal/strconv.uint64pow10", laid_internal_strconv_uint64pow10), ("strconv.ErrRange", laid_strconv_ErrRange), ("strconv.ErrSyntax", laid_strconv_ErrSyntax), ("osier/command.words", laid_osier_command_words)] }
def CommandBlanksSaid : Prop := commandBlanksRow.holds Tryz.pinned (OpenSpec.ofChange commandBlanksSpec)

/-- ITS FALSE NEIGHBOUR: 'it returns false'. Refute it at one input. -/
def commandBlanksWrong : ChangeSpec := { name := "commandBlanks", fn := fun _ => fun
  | [d] => { results := [.lit (.bool false)], args := [d] }
  | _ => none }
def CommandBlanksWrongFalsely : Prop := commandBlanksRow.holds Tryz.pinned (OpenSpec.ofChange commandBlanksWrong)

/-- 'osierlaw25.CommandBack': WHATEVER THE INPUT: true; the input reads as it did. -/
def commandBackSpec : ChangeSpec := { name := "commandBack", fn := fun _ => fun
  | [d] => { results := [.lit (.bool true)], args := [d] }
  | _ => none }
def commandBackRow : OpenClaim := { program := "ytamjadghncnbcaagreatdoor", sum := "9d38e980973476d97d75f1e0ea00eadb71a408d42058b96f9a1e321c42a0167b", func := "osier/osierlaw25.CommandBack", spec := "commandBack", inPlace := ["internal/abi.NoEscape", "internal/bytealg.MakeNoZero"], unfollowed := true, recurses := true, named := ["osier/command.words", "internal/strconv.uint64pow10", "math/bits.deBruijn32tab", "math/bits.deBruijn64tab", "strconv.ErrSyntax", "strconv.ErrRange"], apart := false, laid := [("math/bits.deBruijn32tab", laid_math_bits_deBruijn32tab), ("math/bits.deBruijn64tab", laid_math_bits_deBruijn64tab), ("internal/strconv.uint64pow10", laid_internal_strconv_uint64pow10), ("strconv.ErrRange", laid_strconv_ErrRange), ("strconv.ErrSyntax", laid_strconv_ErrSyntax), ("osier/command.words", laid_osier_command_words)] }
def CommandBackSaid : Prop := commandBackRow.holds Tryz.pinned (OpenSpec.ofChange commandBackSpec)

/-- ITS FALSE NEIGHBOUR: 'it returns false'. Refute it at one input. -/
def commandBackWrong : ChangeSpec := { name := "commandBack", fn := fun _ => fun
  | [d] => { results := [.lit (.bool false)], args := [d] }
  | _ => none }
def CommandBackWrongFalsely : Prop := commandBackRow.holds Tryz.pinned (OpenSpec.ofChange commandBackWrong)

/-- 'osierlaw25.CommandOnce': WHATEVER THE INPUT: true; the input reads as it did. -/
def commandOnceSpec : ChangeSpec := { name := "commandOnce", fn := fun _ => fun
  | [d] => { results := [.lit (.bool true)], args := [d] }
  | _ => none }
def commandOnceRow : OpenClaim := { program := "ytamjadghncnbcaagreatdoor", sum := "9d38e980973476d97d75f1e0ea00eadb71a408d42058b96f9a1e321c42a0167b", func := "osier/osierlaw25.CommandOnce", spec := "commandOnce", inPlace := ["internal/abi.NoEscape", "internal/bytealg.MakeNoZero"], unfollowed := true, recurses := true, named := ["strconv.ErrSyntax", "strconv.ErrRange", "internal/strconv.uint64pow10", "math/bits.deBruijn32tab", "math/bits.deBruijn64tab", "osier/command.words"], apart := false, laid := [("math/bits.deBruijn32tab", laid_math_bits_deBruijn32tab), ("math/bits.deBruijn64tab", laid_math_bits_deBruijn64tab), ("internal/strconv.uint64pow10", laid_internal_strconv_uint64pow10), ("strconv.ErrRange", laid_strconv_ErrRange), ("strconv.ErrSyntax", laid_strconv_ErrSyntax), ("osier/command.words", laid_osier_command_words)] }
def CommandOnceSaid : Prop := commandOnceRow.holds Tryz.pinned (OpenSpec.ofChange commandOnceSpec)

/-- ITS FALSE NEIGHBOUR: 'it returns false'. Refute it at one input. -/
def commandOnceWrong : ChangeSpec := { name := "commandOnce", fn := fun _ => fun
  | [d] => { results := [.lit (.bool false)], args := [d] }
  | _ => none }
def CommandOnceWrongFalsely : Prop := commandOnceRow.holds Tryz.pinned (OpenSpec.ofChange commandOnceWrong)

/-- 'osierlaw25.CommandInner': WHATEVER THE INPUT: true; the input reads as it did. -/
def commandInnerSpec : ChangeSpec := { name := "commandInner", fn := fun _ => fun
  | [d] => { results := [.lit (.bool true)], args := [d] }
  | _ => none }
def commandInnerRow : OpenClaim := { program := "ytamjadghncnbcaagreatdoor", sum := "9d38e980973476d97d75f1e0ea00eadb71a408d42058b96f9a1e321c42a0167b", func := "osier/osierlaw25.CommandInner", spec := "commandInner", inPlace := ["internal/abi.NoEscape", "internal/bytealg.MakeNoZero"], unfollowed := true, recurses := true, named := ["strconv.ErrSyntax", "strconv.ErrRange", "internal/strconv.uint64pow10", "math/bits.deBruijn32tab", "math/bits.deBruijn64tab", "osier/command.words"], apart := false, laid := [("math/bits.deBruijn32tab", laid_math_bits_deBruijn32tab), ("math/bits.deBruijn64tab", laid_math_bits_deBruijn64tab), ("internal/strconv.uint64pow10", laid_internal_strconv_uint64pow10), ("strconv.ErrRange", laid_strconv_ErrRange), ("strconv.ErrSyntax", laid_strconv_ErrSyntax), ("osier/command.words", laid_osier_command_words)] }
def CommandInnerSaid : Prop := commandInnerRow.holds Tryz.pinned (OpenSpec.ofChange commandInnerSpec)

/-- ITS FALSE NEIGHBOUR: 'it returns false'. Refute it at one input. -/
def commandInnerWrong : ChangeSpec := { name := "commandInner", fn := fun _ => fun
  | [d] => { results := [.lit (.bool false)], args := [d] }
  | _ => none }
def CommandInnerWrongFalsely : Prop := commandInnerRow.holds Tryz.pinned (OpenSpec.ofChange commandInnerWrong)

/-- 'osierlaw25.CommandMemory': WHATEVER THE INPUT: true; the input reads as it did. -/
def commandMemorySpec : ChangeSpec := { name := "commandMemory", fn := fun _ => fun
  | [d] => { results := [.lit (.bool true)], args := [d] }
  | _ => none }
def commandMemoryRow : OpenClaim := { program := "ytamjadghncnbcaagreatdoor", sum := "9d38e980973476d97d75f1e0ea00eadb71a408d42058b96f9a1e321c42a0167b", func := "osier/osierlaw25.CommandMemory", spec := "commandMemory", inPlace := ["internal/abi.NoEscape", "internal/bytealg.MakeNoZero"], unfollowed := true, recurses := true, named := ["strconv.ErrSyntax", "strconv.ErrRange", "internal/strconv.uint64pow10", "math/bits.deBruijn32tab", "math/bits.deBruijn64tab", "osier/command.words"], apart := false, laid := [("math/bits.deBruijn32tab", laid_math_bits_deBruijn32tab), ("math/bits.deBruijn64tab", laid_math_bits_deBruijn64tab), ("internal/strconv.uint64pow10", laid_internal_strconv_uint64pow10), ("strconv.ErrRange", laid_strconv_ErrRange), ("strconv.ErrSyntax", laid_strconv_ErrSyntax), ("osier/command.words", laid_osier_command_words)] }
def CommandMemorySaid : Prop := commandMemoryRow.holds Tryz.pinned (OpenSpec.ofChange commandMemorySpec)

/-- ITS FALSE NEIGHBOUR: 'it returns false'. Refute it at one input. -/
def commandMemoryWrong : ChangeSpec := { name := "commandMemory", fn := fun _ => fun
  | [d] => { results := [.lit (.bool false)], args := [d] }
  | _ => none }
def CommandMemoryWrongFalsely : Prop := commandMemoryRow.holds Tryz.pinned (OpenSpec.ofChange commandMemoryWrong)

/-- 'osierlaw10.ChangeNets': WHATEVER THE INPUT: true; the input reads as it did. -/
def changeNetsSpec : ChangeSpec := { name := "changeNets", fn := fun _ => fun
  | [d] => { results := [.lit (.bool true)], args := [d] }
  | _ => none }
def changeNetsRow : OpenClaim := { program := "ytamjadghncnbcaagreatdoor", sum := "9d38e980973476d97d75f1e0ea00eadb71a408d42058b96f9a1e321c42a0167b", func := "osier/osierlaw10.ChangeNets", spec := "changeNets", inPlace := ["internal/abi.NoEscape", "internal/bytealg.MakeNoZero", "internal/bytealg.abigen_runtime_cmpstring"], unfollowed := true, recurses := true, named := ["strconv.ErrSyntax", "strconv.ErrRange", "internal/strconv.uint64pow10", "math/bits.deBruijn32tab", "math/bits.deBruijn64tab"], apart := false, laid := [("math/bits.deBruijn32tab", laid_math_bits_deBruijn32tab), ("math/bits.deBruijn64tab", laid_math_bits_deBruijn64tab), ("internal/strconv.uint64pow10", laid_internal_strconv_uint64pow10), ("strconv.ErrRange", laid_strconv_ErrRange), ("strconv.ErrSyntax", laid_strconv_ErrSyntax)] }
def ChangeNetsSaid : Prop := changeNetsRow.holds Tryz.pinned (OpenSpec.ofChange changeNetsSpec)

/-- ITS FALSE NEIGHBOUR: 'it returns false'. Refute it at one input. -/
def changeNetsWrong : ChangeSpec := { name := "changeNets", fn := fun _ => fun
  | [d] => { results := [.lit (.bool false)], args := [d] }
  | _ => none }
def ChangeNetsWrongFalsely : Prop := changeNetsRow.holds Tryz.pinned (OpenSpec.ofChange changeNetsWrong)

/-- 'osierlaw10.ChangeSays': WHATEVER THE INPUT: true; the input reads as it did. -/
def changeSaysSpec : ChangeSpec := { name := "changeSays", fn := fun _ => fun
  | [d1, d2] => { results := [.lit (.bool true)], args := [d1, d2] }
  | _ => none }
def changeSaysRow : OpenClaim := { program := "ytamjadghncnbcaagreatdoor", sum := "9d38e980973476d97d75f1e0ea00eadb71a408d42058b96f9a1e321c42a0167b", func := "osier/osierlaw10.ChangeSays", spec := "changeSays", inPlace := ["internal/bytealg.abigen_runtime_cmpstring", "internal/abi.NoEscape", "internal/bytealg.MakeNoZero"], unfollowed := true, recurses := true, named := ["strconv.ErrSyntax", "strconv.ErrRange", "internal/strconv.uint64pow10", "math/bits.deBruijn32tab", "math/bits.deBruijn64tab"], apart := false, laid := [("math/bits.deBruijn32tab", laid_math_bits_deBruijn32tab), ("math/bits.deBruijn64tab", laid_math_bits_deBruijn64tab), ("internal/strconv.uint64pow10", laid_internal_strconv_uint64pow10), ("strconv.ErrRange", laid_strconv_ErrRange), ("strconv.ErrSyntax", laid_strconv_ErrSyntax)] }
def ChangeSaysSaid : Prop := changeSaysRow.holds Tryz.pinned (OpenSpec.ofChange changeSaysSpec)

/-- ITS FALSE NEIGHBOUR: 'it returns false'. Refute it at one input. -/
def changeSaysWrong : ChangeSpec := { name := "changeSays", fn := fun _ => fun
  | [d1, d2] => { results := [.lit (.bool false)], args := [d1, d2] }
  | _ => none }
def ChangeSaysWrongFalsely : Prop := changeSaysRow.holds Tryz.pinned (OpenSpec.ofChange changeSaysWrong)

/-- 'osierlaw10.ChangeMemory': WHATEVER THE INPUT: true; the input reads as it did. -/
def changeMemorySpec : ChangeSpec := { name := "changeMemory", fn := fun _ => fun
  | [d] => { results := [.lit (.bool true)], args := [d] }
  | _ => none }
def changeMemoryRow : OpenClaim := { program := "ytamjadghncnbcaagreatdoor", sum := "9d38e980973476d97d75f1e0ea00eadb71a408d42058b96f9a1e321c42a0167b", func := "osier/osierlaw10.ChangeMemory", spec := "changeMemory", inPlace := ["internal/bytealg.abigen_runtime_cmpstring", "internal/abi.NoEscape", "internal/bytealg.MakeNoZero"], unfollowed := true, recurses := true, named := ["strconv.ErrSyntax", "strconv.ErrRange", "internal/strconv.uint64pow10", "math/bits.deBruijn32tab", "math/bits.deBruijn64tab"], apart := false, laid := [("math/bits.deBruijn32tab", laid_math_bits_deBruijn32tab), ("math/bits.deBruijn64tab", laid_math_bits_deBruijn64tab), ("internal/strconv.uint64pow10", laid_internal_strconv_uint64pow10), ("strconv.ErrRange", laid_strconv_ErrRange), ("strconv.ErrSyntax", laid_strconv_ErrSyntax)] }
def ChangeMemorySaid : Prop := changeMemoryRow.holds Tryz.pinned (OpenSpec.ofChange changeMemorySpec)

/-- ITS FALSE NEIGHBOUR: 'it returns false'. Refute it at one input. -/
def changeMemoryWrong : ChangeSpec := { name := "changeMemory", fn := fun _ => fun
  | [d] => { results := [.lit (.bool false)], args := [d] }
  | _ => none }
def ChangeMemoryWrongFalsely : Prop := changeMemoryRow.holds Tryz.pinned (OpenSpec.ofChange changeMemoryWrong)

/- THE SECOND FORM. 'bulk': how many values and letters a reading holds, each counted each time it is reached (what is shared counts as often as it is met; a slice's spare places count too). A statement '..UptoSaid' is the law's where the arguments, and the package variables that the reading takes, are together of bulk at most 1048576: NARROWER than '..Said'. Prove '..Said' where nothing that the law and all that it calls make is longer than what came in: it says more and counts as full. Else prove '..UptoSaid'. A law counts once. -/
mutual
def uptoBulk {H : Type} : DataW H → Nat
  | .lit (.string bytes) => bytes.length + 1
  | .lit _ => 1
  | .nil => 1
  | .ptr d => uptoBulk d + 1
  | .slice elems spare => uptoBulkAll elems + uptoBulkAll spare + 1
  | .agg parts => uptoBulkAll parts + 1
  | .iface _ d => uptoBulk d + 1
  | .map entries => uptoBulkEntries entries + 1
  | .held _ => 1
def uptoBulkAll {H : Type} : List (DataW H) → Nat
  | [] => 0
  | d :: r => uptoBulk d + uptoBulkAll r
def uptoBulkEntries {H : Type} : List (Lit × DataW H) → Nat
  | [] => 0
  | x :: r => uptoBulkEntry x + uptoBulkEntries r
def uptoBulkEntry {H : Type} : Lit × DataW H → Nat
  | (.string bytes, d) => bytes.length + uptoBulk d + 1
  | (_, d) => uptoBulk d + 1
 end
def uptoSmall : (H : Type) → List (DataW H) → Bool := fun _ ds => decide (uptoBulkAll ds ≤ 1048576)
def OpenSpec.upto (s : _root_.Go.ChangeSpec) : _root_.Go.OpenSpec := { _root_.Go.OpenSpec.ofChange s with cond := some uptoSmall }

/-- 'osierlaw25.CommandParses', WHERE WHAT IT READS IS OF BULK AT MOST 1048576: true; the input reads as it did. -/
def commandParsesUptoRow : OpenClaim := { program := "ytamjadghncnbcaagreatdoor", sum := "9d38e980973476d97d75f1e0ea00eadb71a408d42058b96f9a1e321c42a0167b", func := "osier/osierlaw25.CommandParses", spec := "commandParses", inPlace := ["internal/abi.NoEscape", "internal/bytealg.MakeNoZero"], unfollowed := true, recurses := true, named := ["strconv.ErrSyntax", "strconv.ErrRange", "internal/strconv.uint64pow10", "math/bits.deBruijn32tab", "math/bits.deBruijn64tab", "osier/command.words"], apart := false, laid := [("math/bits.deBruijn32tab", laid_math_bits_deBruijn32tab), ("math/bits.deBruijn64tab", laid_math_bits_deBruijn64tab), ("internal/strconv.uint64pow10", laid_internal_strconv_uint64pow10), ("strconv.ErrRange", laid_strconv_ErrRange), ("strconv.ErrSyntax", laid_strconv_ErrSyntax), ("osier/command.words", laid_osier_command_words)], narrowed := true }
def CommandParsesUptoSaid : Prop := commandParsesUptoRow.holds Tryz.pinned (OpenSpec.upto commandParsesSpec)

/-- 'osierlaw25.CommandTexts', WHERE WHAT IT READS IS OF BULK AT MOST 1048576: true; the input reads as it did. -/
def commandTextsUptoRow : OpenClaim := { program := "ytamjadghncnbcaagreatdoor", sum := "9d38e980973476d97d75f1e0ea00eadb71a408d42058b96f9a1e321c42a0167b", func := "osier/osierlaw25.CommandTexts", spec := "commandTexts", inPlace := ["internal/abi.NoEscape", "internal/bytealg.MakeNoZero"], unfollowed := true, recurses := true, named := ["strconv.ErrSyntax", "strconv.ErrRange", "internal/strconv.uint64pow10", "math/bits.deBruijn32tab", "math/bits.deBruijn64tab", "osier/command.words"], apart := false, laid := [("math/bits.deBruijn32tab", laid_math_bits_deBruijn32tab), ("math/bits.deBruijn64tab", laid_math_bits_deBruijn64tab), ("internal/strconv.uint64pow10", laid_internal_strconv_uint64pow10), ("strconv.ErrRange", laid_strconv_ErrRange), ("strconv.ErrSyntax", laid_strconv_ErrSyntax), ("osier/command.words", laid_osier_command_words)], narrowed := true }
def CommandTextsUptoSaid : Prop := commandTextsUptoRow.holds Tryz.pinned (OpenSpec.upto commandTextsSpec)

/-- 'osierlaw25.CommandBlanks', WHERE WHAT IT READS IS OF BULK AT MOST 1048576: true; the input reads as it did. -/
def commandBlanksUptoRow : OpenClaim := { program := "ytamjadghncnbcaagreatdoor", sum := "9d38e980973476d97d75f1e0ea00eadb71a408d42058b96f9a1e321c42a0167b", func := "osier/osierlaw25.CommandBlanks", spec := "commandBlanks", inPlace := ["internal/abi.NoEscape", "internal/bytealg.MakeNoZero"], unfollowed := true, recurses := true, named := ["strconv.ErrSyntax", "strconv.ErrRange", "internal/strconv.uint64pow10", "math/bits.deBruijn32tab", "math/bits.deBruijn64tab", "osier/command.words"], apart := false, laid := [("math/bits.deBruijn32tab", laid_math_bits_deBruijn32tab), ("math/bits.deBruijn64tab", laid_math_bits_deBruijn64tab), ("internal/strconv.uint64pow10", laid_internal_strconv_uint64pow10), ("strconv.ErrRange", laid_strconv_ErrRange), ("strconv.ErrSyntax", laid_strconv_ErrSyntax), ("osier/command.words", laid_osier_command_words)], narrowed := true }
def CommandBlanksUptoSaid : Prop := commandBlanksUptoRow.holds Tryz.pinned (OpenSpec.upto commandBlanksSpec)

/-- 'osierlaw25.CommandBack', WHERE WHAT IT READS IS OF BULK AT MOST 1048576: true; the input reads as it did. -/
def commandBackUptoRow : OpenClaim := { program := "ytamjadghncnbcaagreatdoor", sum := "9d38e980973476d97d75f1e0ea00eadb71a408d42058b96f9a1e321c42a0167b", func := "osier/osierlaw25.CommandBack", spec := "commandBack", inPlace := ["internal/abi.NoEscape", "internal/bytealg.MakeNoZero"], unfollowed := true, recurses := true, named := ["osier/command.words", "internal/strconv.uint64pow10", "math/bits.deBruijn32tab", "math/bits.deBruijn64tab", "strconv.ErrSyntax", "strconv.ErrRange"], apart := false, laid := [("math/bits.deBruijn32tab", laid_math_bits_deBruijn32tab), ("math/bits.deBruijn64tab", laid_math_bits_deBruijn64tab), ("internal/strconv.uint64pow10", laid_internal_strconv_uint64pow10), ("strconv.ErrRange", laid_strconv_ErrRange), ("strconv.ErrSyntax", laid_strconv_ErrSyntax), ("osier/command.words", laid_osier_command_words)], narrowed := true }
def CommandBackUptoSaid : Prop := commandBackUptoRow.holds Tryz.pinned (OpenSpec.upto commandBackSpec)

/-- 'osierlaw25.CommandOnce', WHERE WHAT IT READS IS OF BULK AT MOST 1048576: true; the input reads as it did. -/
def commandOnceUptoRow : OpenClaim := { program := "ytamjadghncnbcaagreatdoor", sum := "9d38e980973476d97d75f1e0ea00eadb71a408d42058b96f9a1e321c42a0167b", func := "osier/osierlaw25.CommandOnce", spec := "commandOnce", inPlace := ["internal/abi.NoEscape", "internal/bytealg.MakeNoZero"], unfollowed := true, recurses := true, named := ["strconv.ErrSyntax", "strconv.ErrRange", "internal/strconv.uint64pow10", "math/bits.deBruijn32tab", "math/bits.deBruijn64tab", "osier/command.words"], apart := false, laid := [("math/bits.deBruijn32tab", laid_math_bits_deBruijn32tab), ("math/bits.deBruijn64tab", laid_math_bits_deBruijn64tab), ("internal/strconv.uint64pow10", laid_internal_strconv_uint64pow10), ("strconv.ErrRange", laid_strconv_ErrRange), ("strconv.ErrSyntax", laid_strconv_ErrSyntax), ("osier/command.words", laid_osier_command_words)], narrowed := true }
def CommandOnceUptoSaid : Prop := commandOnceUptoRow.holds Tryz.pinned (OpenSpec.upto commandOnceSpec)

/-- 'osierlaw25.CommandInner', WHERE WHAT IT READS IS OF BULK AT MOST 1048576: true; the input reads as it did. -/
def commandInnerUptoRow : OpenClaim := { program := "ytamjadghncnbcaagreatdoor", sum := "9d38e980973476d97d75f1e0ea00eadb71a408d42058b96f9a1e321c42a0167b", func := "osier/osierlaw25.CommandInner", spec := "commandInner", inPlace := ["internal/abi.NoEscape", "internal/bytealg.MakeNoZero"], unfollowed := true, recurses := true, named := ["strconv.ErrSyntax", "strconv.ErrRange", "internal/strconv.uint64pow10", "math/bits.deBruijn32tab", "math/bits.deBruijn64tab", "osier/command.words"], apart := false, laid := [("math/bits.deBruijn32tab", laid_math_bits_deBruijn32tab), ("math/bits.deBruijn64tab", laid_math_bits_deBruijn64tab), ("internal/strconv.uint64pow10", laid_internal_strconv_uint64pow10), ("strconv.ErrRange", laid_strconv_ErrRange), ("strconv.ErrSyntax", laid_strconv_ErrSyntax), ("osier/command.words", laid_osier_command_words)], narrowed := true }
def CommandInnerUptoSaid : Prop := commandInnerUptoRow.holds Tryz.pinned (OpenSpec.upto commandInnerSpec)

/-- 'osierlaw25.CommandMemory', WHERE WHAT IT READS IS OF BULK AT MOST 1048576: true; the input reads as it did. -/
def commandMemoryUptoRow : OpenClaim := { program := "ytamjadghncnbcaagreatdoor", sum := "9d38e980973476d97d75f1e0ea00eadb71a408d42058b96f9a1e321c42a0167b", func := "osier/osierlaw25.CommandMemory", spec := "commandMemory", inPlace := ["internal/abi.NoEscape", "internal/bytealg.MakeNoZero"], unfollowed := true, recurses := true, named := ["strconv.ErrSyntax", "strconv.ErrRange", "internal/strconv.uint64pow10", "math/bits.deBruijn32tab", "math/bits.deBruijn64tab", "osier/command.words"], apart := false, laid := [("math/bits.deBruijn32tab", laid_math_bits_deBruijn32tab), ("math/bits.deBruijn64tab", laid_math_bits_deBruijn64tab), ("internal/strconv.uint64pow10", laid_internal_strconv_uint64pow10), ("strconv.ErrRange", laid_strconv_ErrRange), ("strconv.ErrSyntax", laid_strconv_ErrSyntax), ("osier/command.words", laid_osier_command_words)], narrowed := true }
def CommandMemoryUptoSaid : Prop := commandMemoryUptoRow.holds Tryz.pinned (OpenSpec.upto commandMemorySpec)

/-- 'osierlaw10.ChangeNets', WHERE WHAT IT READS IS OF BULK AT MOST 1048576: true; the input reads as it did. -/
def changeNetsUptoRow : OpenClaim := { program := "ytamjadghncnbcaagreatdoor", sum := "9d38e980973476d97d75f1e0ea00eadb71a408d42058b96f9a1e321c42a0167b", func := "osier/osierlaw10.ChangeNets", spec := "changeNets", inPlace := ["internal/abi.NoEscape", "internal/bytealg.MakeNoZero", "internal/bytealg.abigen_runtime_cmpstring"], unfollowed := true, recurses := true, named := ["strconv.ErrSyntax", "strconv.ErrRange", "internal/strconv.uint64pow10", "math/bits.deBruijn32tab", "math/bits.deBruijn64tab"], apart := false, laid := [("math/bits.deBruijn32tab", laid_math_bits_deBruijn32tab), ("math/bits.deBruijn64tab", laid_math_bits_deBruijn64tab), ("internal/strconv.uint64pow10", laid_internal_strconv_uint64pow10), ("strconv.ErrRange", laid_strconv_ErrRange), ("strconv.ErrSyntax", laid_strconv_ErrSyntax)], narrowed := true }
def ChangeNetsUptoSaid : Prop := changeNetsUptoRow.holds Tryz.pinned (OpenSpec.upto changeNetsSpec)

/-- 'osierlaw10.ChangeSays', WHERE WHAT IT READS IS OF BULK AT MOST 1048576: true; the input reads as it did. -/
def changeSaysUptoRow : OpenClaim := { program := "ytamjadghncnbcaagreatdoor", sum := "9d38e980973476d97d75f1e0ea00eadb71a408d42058b96f9a1e321c42a0167b", func := "osier/osierlaw10.ChangeSays", spec := "changeSays", inPlace := ["internal/bytealg.abigen_runtime_cmpstring", "internal/abi.NoEscape", "internal/bytealg.MakeNoZero"], unfollowed := true, recurses := true, named := ["strconv.ErrSyntax", "strconv.ErrRange", "internal/strconv.uint64pow10", "math/bits.deBruijn32tab", "math/bits.deBruijn64tab"], apart := false, laid := [("math/bits.deBruijn32tab", laid_math_bits_deBruijn32tab), ("math/bits.deBruijn64tab", laid_math_bits_deBruijn64tab), ("internal/strconv.uint64pow10", laid_internal_strconv_uint64pow10), ("strconv.ErrRange", laid_strconv_ErrRange), ("strconv.ErrSyntax", laid_strconv_ErrSyntax)], narrowed := true }
def ChangeSaysUptoSaid : Prop := changeSaysUptoRow.holds Tryz.pinned (OpenSpec.upto changeSaysSpec)

/-- 'osierlaw10.ChangeMemory', WHERE WHAT IT READS IS OF BULK AT MOST 1048576: true; the input reads as it did. -/
def changeMemoryUptoRow : OpenClaim := { program := "ytamjadghncnbcaagreatdoor", sum := "9d38e980973476d97d75f1e0ea00eadb71a408d42058b96f9a1e321c42a0167b", func := "osier/osierlaw10.ChangeMemory", spec := "changeMemory", inPlace := ["internal/bytealg.abigen_runtime_cmpstring", "internal/abi.NoEscape", "internal/bytealg.MakeNoZero"], unfollowed := true, recurses := true, named := ["strconv.ErrSyntax", "strconv.ErrRange", "internal/strconv.uint64pow10", "math/bits.deBruijn32tab", "math/bits.deBruijn64tab"], apart := false, laid := [("math/bits.deBruijn32tab", laid_math_bits_deBruijn32tab), ("math/bits.deBruijn64tab", laid_math_bits_deBruijn64tab), ("internal/strconv.uint64pow10", laid_internal_strconv_uint64pow10), ("strconv.ErrRange", laid_strconv_ErrRange), ("strconv.ErrSyntax", laid_strconv_ErrSyntax)], narrowed := true }
def ChangeMemoryUptoSaid : Prop := changeMemoryUptoRow.holds Tryz.pinned (OpenSpec.upto changeMemorySpec)

end Rows
end Go.Proofs.YtamjadghncnbcaaGreatDoor
