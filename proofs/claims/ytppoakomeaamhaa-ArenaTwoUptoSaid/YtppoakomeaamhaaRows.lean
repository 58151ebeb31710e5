/-
  No cell of these rows narrows 'for every input' (looked for: loops, veiled, ifaces, maps, wideKeys, modest, calm, conditions, laid).
  DERIVED. THE GIVEN ROWS OF THIS SEAT. 6 by the template 'for every input the law returns true; each argument reads behind the call as it read before'; 0 by the template 'total and deterministic' (their statements: YtppoakomeaamhaaTotals.lean).
  GIVEN WITH THE SEED: the statements are not yours to turn. If you find one false, say at which input.
  Laid BY PROGRAM, IN A SANDBOX (cutbox-rows.mjs): the forced cells as the released guide's own fill.sh prints them over the translation 87cbf685b7741441… (all of the seat's roots in one cut). By AI agents, Wed Nov 11 2026. No macro, syntax, notation, axiom, sorry.
-/
import Derived.Test.YtppoakomeaamhaaChecked
import GoSem.Claim
import GoSem.ClaimJoined
import GoSem.ClaimMapViews
import Derived.JoinedTies
import Derived.KernelRfl
namespace Go.Proofs.Ytppoakomeaamhaa
/- THE CELL 'sum', in the pinned program and in every row, IS THE sha256 OF THE DUMP (.gsa) THAT YtppoakomeaamhaaProg.lean LOADS. Nothing in Lean hashes anything: it is a label: what it is worth is what the hold of that sum in a sandbox is worth. -/
noncomputable def Try.pinned : Pinned := { name := "ytppoakomeaamhaa", sum := "87cbf685b7741441904c44105ae660ec1d9ebe1220ff8fad8ae2d22c279d1bcf", checked := Try.checked }
namespace Rows
def none {H : Type} : Left H := { results := [], args := [] }

/-- 'osierlaw03.ArenaNews': WHATEVER THE INPUT: true; the input reads as it did. -/
def arenaNewsSpec : ChangeSpec := { name := "arenaNews", fn := fun _ => fun
  | [d1, d2] => { results := [.lit (.bool true)], args := [d1, d2] }
  | _ => none }
def arenaNewsRow : OpenClaim := { program := "ytppoakomeaamhaa", sum := "87cbf685b7741441904c44105ae660ec1d9ebe1220ff8fad8ae2d22c279d1bcf", func := "osier/osierlaw03.ArenaNews", spec := "arenaNews", apart := false }
def ArenaNewsSaid : Prop := arenaNewsRow.holds Try.pinned (OpenSpec.ofChange arenaNewsSpec)

/-- ITS FALSE NEIGHBOUR: 'it returns false'. Refute it at one input. -/
def arenaNewsWrong : ChangeSpec := { name := "arenaNews", fn := fun _ => fun
  | [d1, d2] => { results := [.lit (.bool false)], args := [d1, d2] }
  | _ => none }
def ArenaNewsWrongFalsely : Prop := arenaNewsRow.holds Try.pinned (OpenSpec.ofChange arenaNewsWrong)

/-- 'osierlaw03.ArenaOnce': WHATEVER THE INPUT: true; the input reads as it did. -/
def arenaOnceSpec : ChangeSpec := { name := "arenaOnce", fn := fun _ => fun
  | [d1, d2, d3] => { results := [.lit (.bool true)], args := [d1, d2, d3] }
  | _ => none }
def arenaOnceRow : OpenClaim := { program := "ytppoakomeaamhaa", sum := "87cbf685b7741441904c44105ae660ec1d9ebe1220ff8fad8ae2d22c279d1bcf", func := "osier/osierlaw03.ArenaOnce", spec := "arenaOnce", apart := false }
def ArenaOnceSaid : Prop := arenaOnceRow.holds Try.pinned (OpenSpec.ofChange arenaOnceSpec)

/-- ITS FALSE NEIGHBOUR: 'it returns false'. Refute it at one input. -/
def arenaOnceWrong : ChangeSpec := { name := "arenaOnce", fn := fun _ => fun
  | [d1, d2, d3] => { results := [.lit (.bool false)], args := [d1, d2, d3] }
  | _ => none }
def ArenaOnceWrongFalsely : Prop := arenaOnceRow.holds Try.pinned (OpenSpec.ofChange arenaOnceWrong)

/-- 'osierlaw03.ArenaStops': WHATEVER THE INPUT: true; the input reads as it did. -/
def arenaStopsSpec : ChangeSpec := { name := "arenaStops", fn := fun _ => fun
  | [d1, d2] => { results := [.lit (.bool true)], args := [d1, d2] }
  | _ => none }
def arenaStopsRow : OpenClaim := { program := "ytppoakomeaamhaa", sum := "87cbf685b7741441904c44105ae660ec1d9ebe1220ff8fad8ae2d22c279d1bcf", func := "osier/osierlaw03.ArenaStops", spec := "arenaStops", unfollowed := true, recurses := true, apart := false }
def ArenaStopsSaid : Prop := arenaStopsRow.holds Try.pinned (OpenSpec.ofChange arenaStopsSpec)

/-- ITS FALSE NEIGHBOUR: 'it returns false'. Refute it at one input. -/
def arenaStopsWrong : ChangeSpec := { name := "arenaStops", fn := fun _ => fun
  | [d1, d2] => { results := [.lit (.bool false)], args := [d1, d2] }
  | _ => none }
def ArenaStopsWrongFalsely : Prop := arenaStopsRow.holds Try.pinned (OpenSpec.ofChange arenaStopsWrong)

/-- 'osierlaw03.ArenaFills': WHATEVER THE INPUT: true; the input reads as it did. -/
def arenaFillsSpec : ChangeSpec := { name := "arenaFills", fn := fun _ => fun
  | [d1, d2, d3] => { results := [.lit (.bool true)], args := [d1, d2, d3] }
  | _ => none }
def arenaFillsRow : OpenClaim := { program := "ytppoakomeaamhaa", sum := "87cbf685b7741441904c44105ae660ec1d9ebe1220ff8fad8ae2d22c279d1bcf", func := "osier/osierlaw03.ArenaFills", spec := "arenaFills", unfollowed := true, recurses := true, apart := false }
def ArenaFillsSaid : Prop := arenaFillsRow.holds Try.pinned (OpenSpec.ofChange arenaFillsSpec)

/-- ITS FALSE NEIGHBOUR: 'it returns false'. Refute it at one input. -/
def arenaFillsWrong : ChangeSpec := { name := "arenaFills", fn := fun _ => fun
  | [d1, d2, d3] => { results := [.lit (.bool false)], args := [d1, d2, d3] }
  | _ => none }
def ArenaFillsWrongFalsely : Prop := arenaFillsRow.holds Try.pinned (OpenSpec.ofChange arenaFillsWrong)

/-- 'osierlaw03.ArenaPlays': WHATEVER THE INPUT: true; the input reads as it did. -/
def arenaPlaysSpec : ChangeSpec := { name := "arenaPlays", fn := fun _ => fun
  | [d1, d2, d3] => { results := [.lit (.bool true)], args := [d1, d2, d3] }
  | _ => none }
def arenaPlaysRow : OpenClaim := { program := "ytppoakomeaamhaa", sum := "87cbf685b7741441904c44105ae660ec1d9ebe1220ff8fad8ae2d22c279d1bcf", func := "osier/osierlaw03.ArenaPlays", spec := "arenaPlays", unfollowed := true, recurses := true, apart := false }
def ArenaPlaysSaid : Prop := arenaPlaysRow.holds Try.pinned (OpenSpec.ofChange arenaPlaysSpec)

/-- ITS FALSE NEIGHBOUR: 'it returns false'. Refute it at one input. -/
def arenaPlaysWrong : ChangeSpec := { name := "arenaPlays", fn := fun _ => fun
  | [d1, d2, d3] => { results := [.lit (.bool false)], args := [d1, d2, d3] }
  | _ => none }
def ArenaPlaysWrongFalsely : Prop := arenaPlaysRow.holds Try.pinned (OpenSpec.ofChange arenaPlaysWrong)

/-- 'osierlaw03.ArenaTwo': WHATEVER THE INPUT: true; the input reads as it did. -/
def arenaTwoSpec : ChangeSpec := { name := "arenaTwo", fn := fun _ => fun
  | [d1, d2, d3] => { results := [.lit (.bool true)], args := [d1, d2, d3] }
  | _ => none }
def arenaTwoRow : OpenClaim := { program := "ytppoakomeaamhaa", sum := "87cbf685b7741441904c44105ae660ec1d9ebe1220ff8fad8ae2d22c279d1bcf", func := "osier/osierlaw03.ArenaTwo", spec := "arenaTwo", unfollowed := true, recurses := true, apart := false }
def ArenaTwoSaid : Prop := arenaTwoRow.holds Try.pinned (OpenSpec.ofChange arenaTwoSpec)

/-- ITS FALSE NEIGHBOUR: 'it returns false'. Refute it at one input. -/
def arenaTwoWrong : ChangeSpec := { name := "arenaTwo", fn := fun _ => fun
  | [d1, d2, d3] => { results := [.lit (.bool false)], args := [d1, d2, d3] }
  | _ => none }
def ArenaTwoWrongFalsely : Prop := arenaTwoRow.holds Try.pinned (OpenSpec.ofChange arenaTwoWrong)

/- THE SECOND FORM. 'bulk': how many values and letters a reading holds, each counted each time it is reached (what is shared counts as often as it is met; a slice's spare places count too). A statement '..UptoSaid' is the law's where the arguments, and the package variables that the reading takes, are together of bulk at most 1048576: NARROWER than '..Said'. Prove '..Said' where nothing that the law and all that it calls make is longer than what came in: it says more and counts as full. Else prove '..UptoSaid'. A law counts once. -/
mutual
def uptoBulk {H : Type} : DataW H → Nat
  | .lit (.string bytes) => bytes.length + 1
  | .lit _ => 1
  | .nil => 1
  | .ptr d => uptoBulk d + 1
  | .slice elems spare => uptoBulkAll elems + uptoBulkAll spare + 1
  | .agg parts => uptoBulkAll parts + 1
  | .iface _ d => uptoBulk d + 1
  | .map entries => uptoBulkEntries entries + 1
  | .held _ => 1
def uptoBulkAll {H : Type} : List (DataW H) → Nat
  | [] => 0
  | d :: r => uptoBulk d + uptoBulkAll r
def uptoBulkEntries {H : Type} : List (Lit × DataW H) → Nat
  | [] => 0
  | x :: r => uptoBulkEntry x + uptoBulkEntries r
def uptoBulkEntry {H : Type} : Lit × DataW H → Nat
  | (.string bytes, d) => bytes.length + uptoBulk d + 1
  | (_, d) => uptoBulk d + 1
 end
def uptoSmall : (H : Type) → List (DataW H) → Bool := fun _ ds => decide (uptoBulkAll ds ≤ 1048576)
def OpenSpec.upto (s : _root_.Go.ChangeSpec) : _root_.Go.OpenSpec := { _root_.Go.OpenSpec.ofChange s with cond := some uptoSmall }

/-- 'osierlaw03.ArenaNews', WHERE WHAT IT READS IS OF BULK AT MOST 1048576: true; the input reads as it did. -/
def arenaNewsUptoRow : OpenClaim := { program := "ytppoakomeaamhaa", sum := "87cbf685b7741441904c44105ae660ec1d9ebe1220ff8fad8ae2d22c279d1bcf", func := "osier/osierlaw03.ArenaNews", spec := "arenaNews", apart := false, narrowed := true }
def ArenaNewsUptoSaid : Prop := arenaNewsUptoRow.holds Try.pinned (OpenSpec.upto arenaNewsSpec)

/-- 'osierlaw03.ArenaOnce', WHERE WHAT IT READS IS OF BULK AT MOST 1048576: true; the input reads as it did. -/
def arenaOnceUptoRow : OpenClaim := { program := "ytppoakomeaamhaa", sum := "87cbf685b7741441904c44105ae660ec1d9ebe1220ff8fad8ae2d22c279d1bcf", func := "osier/osierlaw03.ArenaOnce", spec := "arenaOnce", apart := false, narrowed := true }
def ArenaOnceUptoSaid : Prop := arenaOnceUptoRow.holds Try.pinned (OpenSpec.upto arenaOnceSpec)

/-- 'osierlaw03.ArenaStops', WHERE WHAT IT READS IS OF BULK AT MOST 1048576: true; the input reads as it did. -/
def arenaStopsUptoRow : OpenClaim := { program := "ytppoakomeaamhaa", sum := "87cbf685b7741441904c44105ae660ec1d9ebe1220ff8fad8ae2d22c279d1bcf", func := "osier/osierlaw03.ArenaStops", spec := "arenaStops", unfollowed := true, recurses := true, apart := false, narrowed := true }
def ArenaStopsUptoSaid : Prop := arenaStopsUptoRow.holds Try.pinned (OpenSpec.upto arenaStopsSpec)

/-- 'osierlaw03.ArenaFills', WHERE WHAT IT READS IS OF BULK AT MOST 1048576: true; the input reads as it did. -/
def arenaFillsUptoRow : OpenClaim := { program := "ytppoakomeaamhaa", sum := "87cbf685b7741441904c44105ae660ec1d9ebe1220ff8fad8ae2d22c279d1bcf", func := "osier/osierlaw03.ArenaFills", spec := "arenaFills", unfollowed := true, recurses := true, apart := false, narrowed := true }
def ArenaFillsUptoSaid : Prop := arenaFillsUptoRow.holds Try.pinned (OpenSpec.upto arenaFillsSpec)

/-- 'osierlaw03.ArenaPlays', WHERE WHAT IT READS IS OF BULK AT MOST 1048576: true; the input reads as it did. -/
def arenaPlaysUptoRow : OpenClaim := { program := "ytppoakomeaamhaa", sum := "87cbf685b7741441904c44105ae660ec1d9ebe1220ff8fad8ae2d22c279d1bcf", func := "osier/osierlaw03.ArenaPlays", spec := "arenaPlays", unfollowed := true, recurses := true, apart := false, narrowed := true }
def ArenaPlaysUptoSaid : Prop := arenaPlaysUptoRow.holds Try.pinned (OpenSpec.upto arenaPlaysSpec)

/-- 'osierlaw03.ArenaTwo', WHERE WHAT IT READS IS OF BULK AT MOST 1048576: true; the input reads as it did. -/
def arenaTwoUptoRow : OpenClaim := { program := "ytppoakomeaamhaa", sum := "87cbf685b7741441904c44105ae660ec1d9ebe1220ff8fad8ae2d22c279d1bcf", func := "osier/osierlaw03.ArenaTwo", spec := "arenaTwo", unfollowed := true, recurses := true, apart := false, narrowed := true }
def ArenaTwoUptoSaid : Prop := arenaTwoUptoRow.holds Try.pinned (OpenSpec.upto arenaTwoSpec)

end Rows
end Go.Proofs.Ytppoakomeaamhaa
