/- Texts that are cut into tokens and read back: names, marks, literals, lists; plainly. What query.Shape and Show tell, plainly; a right query's text is read back. -/
import Derived.Test.YtgjknekoehfdfaaGreatDoorLc
import Derived.Test.YtgjknekoehfdfaaGreatDoorLf
import Derived.Test.YtgjknekoehfdfaaGreatDoorGa
import Derived.Test.YtgjknekoehfdfaaGreatDoorGb
import Derived.Test.YtgjknekoehfdfaaGreatDoorGmS
import Derived.Test.YtgjknekoehfdfaaGreatDoorGc
import Derived.Lib.Join
import Derived.Lib.ItoaLen
namespace Go.Proofs.YtgjknekoehfdfaaGreatDoor
open Go.RowKit
set_option linter.unusedVariables false

section
variable {α β : Type}
end
end Go.Proofs.YtgjknekoehfdfaaGreatDoor
namespace Go.Proofs.YtgjknekoehfdfaaGreatDoor
open Go.RowKit
set_option linter.unusedVariables false

def badTm (t : Trm) : Bool := if t.x = [] then !validB t.k t.n t.t else decide (t.vl ≠ ⟨0, 0, []⟩)
def badNt (t : Trm) : Bool := decide (t.x ≠ []) && !isNameB t.x
def badNa (a : Atm) : Bool := !isNameB a.rel || a.ts.any badNt
def badNq (q : Qry) : Bool := (!isNameB q.name || q.head.any fun h => !isNameB h) || q.atoms.any badNa
def wideA (a : Atm) : Bool := decide (5 < a.ts.length)
def chkQ (q : Qry) : Int :=
  if badNq q = true then 72 else if (q.atoms.any fun a => a.ts.any badTm) = true then 21 else if q.atoms.length = 0 ∨ 6 < q.atoms.length then 90 else if q.atoms.any wideA = true then 91 else if 0 ≤ dupI q.head then 92 else if 0 ≤ lackI (qVars q.atoms) q.head then 93 else 0
def tmT (t : Trm) : List UInt8 := if t.x = [] then showR t.k t.n t.t else t.x
def atT (a : Atm) : List UInt8 := a.rel ++ 40 :: (Lib.join (a.ts.map tmT) [44, 32] ++ [41])
def qT (q : Qry) : List UInt8 := q.name ++ 40 :: (Lib.join (q.head.map id) [44, 32] ++ 41 :: 32 :: 58 :: 45 :: 32 :: Lib.join (q.atoms.map atT) [44, 32])
def showQ (q : Qry) : List UInt8 := if chkQ q = 0 then qT q else []
def RangeQ (q : Qry) : Prop := ∀ a ∈ q.atoms, ∀ t ∈ a.ts, -9223372036854775808 ≤ t.n ∧ t.n ≤ 9223372036854775807

structure RightQ (q : Qry) : Prop where
  name : isNameB q.name = true
  head : ∀ h ∈ q.head, isNameB h = true
  rel : ∀ a ∈ q.atoms, isNameB a.rel = true
  var : ∀ a ∈ q.atoms, ∀ t ∈ a.ts, t.x ≠ [] → isNameB t.x = true ∧ t.vl = ⟨0, 0, []⟩
  lit : ∀ a ∈ q.atoms, ∀ t ∈ a.ts, t.x = [] → validB t.k t.n t.t = true
  some : q.atoms ≠ []
  few : q.atoms.length ≤ 6
  thin : ∀ a ∈ q.atoms, a.ts.length ≤ 5
  dup : ¬ 0 ≤ dupI q.head
  lack : ¬ 0 ≤ lackI (qVars q.atoms) q.head
end Go.Proofs.YtgjknekoehfdfaaGreatDoor
