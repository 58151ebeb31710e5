/- Values and terms compared. What query.Match tells, plainly. query.Match, walked. -/
import Derived.Test.YtgjknekoehfdfaaGreatDoorGb
import Derived.Laws.StructEq
import Derived.OwnWalk
import Derived.Deep.QuietTactic
import Derived.BigQuiet
namespace Go.Proofs.YtgjknekoehfdfaaGreatDoor
open Go.RowKit
set_option linter.unusedVariables false

/-- A value: kind, number, text. -/
structure Vl where
  k : Int
  n : Int
  t : List UInt8
deriving DecidableEq
def Vl.cells (v : Vl) : List Value := [.int .i64 v.k, .int .i64 v.n, .string ⟨v.t.toArray⟩]
def Trm.vl (t : Trm) : Vl := ⟨t.k, t.n, t.t⟩

def f3 (f : Field) : String × TypeId × Nat := (f.name, f.type, f.offset)
end Go.Proofs.YtgjknekoehfdfaaGreatDoor
namespace Go.Proofs.YtgjknekoehfdfaaGreatDoor
open Go.RowKit
set_option linter.unusedVariables false

/-- The rest of the terms and values, given the values that the variables have so far. -/
def matchG (vars : List (List UInt8)) : List (Trm × Vl) → List Vl → Option (List Vl)
  | [], out => some out
  | (t, v) :: r, out =>
    if t.x = [] then (if v = t.vl then matchG vars r out else none)
    else if idxI vars t.x = out.length then matchG vars r (out ++ [v])
    else if out[(idxI vars t.x).toNat]? = some v then matchG vars r out else none
def matchR (ts : List Trm) (vs : List Vl) : Option (List Vl) := if vs.length = ts.length then matchG (atomVars ts) (ts.zip vs) [] else none

end Go.Proofs.YtgjknekoehfdfaaGreatDoor
namespace Go.Proofs.YtgjknekoehfdfaaGreatDoor
open Go.RowKit
set_option linter.unusedVariables false

end Go.Proofs.YtgjknekoehfdfaaGreatDoor
