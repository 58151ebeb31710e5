/- A query as an argument, opened with the sizes of its texts. A relation as an argument, opened. -/
import Derived.Test.YtamjadghncnbcaaGreatDoorGlO
import Derived.Test.YtamjadghncnbcaaGreatDoorGhO
import Derived.Test.YtamjadghncnbcaaGreatDoorKaO
namespace Go.Proofs.YtamjadghncnbcaaGreatDoor
open Go.ChangeShapes Go.WideShapes Go.ChangeAt Go.RowKit Go.Deep Go.Joins
set_option linter.unusedVariables false
section
variable {H : Type} {enc : TypeId × Value -> H} {w : World} {spare : Nat -> Bool} {held : Bool}
def TrmS (u:Trm):Prop:=(-9223372036854775808<=u.n/\u.n<=9223372036854775807)/\u.x.length<=140737488351232
def AtmS (a:Atm):Prop:=a.rel.length<=140737488351232/\∀ u∈a.ts,TrmS u
end
end Go.Proofs.YtamjadghncnbcaaGreatDoor
namespace Go.Proofs.YtamjadghncnbcaaGreatDoor
open Go.ChangeShapes Go.WideShapes Go.ChangeAt Go.RowKit Go.Deep
set_option linter.unusedVariables false
section
variable {H : Type} {enc : TypeId × Value -> H} {w : World} {spare : Nat -> Bool} {held : Bool}
end
end Go.Proofs.YtamjadghncnbcaaGreatDoor
