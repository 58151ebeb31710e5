/- A command as an argument, opened with the sizes of its texts. -/
import Derived.Test.YtamjadghncnbcaaGreatDoorCzO
import Derived.Test.YtamjadghncnbcaaGreatDoorGlO
import Derived.Test.YtamjadghncnbcaaGreatDoorDxO
namespace Go.Proofs.YtamjadghncnbcaaGreatDoor
open Go.ChangeShapes Go.WideShapes Go.ChangeAt Go.RowKit Go.Deep Go.Joins
set_option linter.unusedVariables false
structure BigC (w:World) (cells:Array Value) (c:Cmd) (N:Nat):Prop where
 at_:CmdAt w cells c
 rname:c.rel.name.length<=140737488351232
 cols:∀ x∈c.rel.cols,x.x.length<=140737488351232
 ncols:c.rel.cols.length<=5864062014634
 qname:c.q.name.length<=140737488351232
 heads:∀ s∈c.q.head,s.length<=140737488351232
 natoms:c.q.atoms.length<=3518437208780
 each:∀ a∈c.q.atoms,AtmS a
 batch:RangeB c.b
 brel:∀ x∈c.b,x.rel.length<=140737488351232
 nb:c.b.length<=2932031007402
 bulk:c.b.length<=N
 name:c.nm.length<=140737488351232
 id : -9223372036854775808<=c.id/\c.id<=9223372036854775807
 n : -9223372036854775808<=c.n/\c.n<=9223372036854775807
 kind : -9223372036854775808<=c.kind/\c.kind<=9223372036854775807
 row:∀ u∈c.row,RangeV u
 nrow:c.row.length<=4398046511104
section
variable {H : Type} {enc : TypeId × Value -> H} {w : World} {spare : Nat -> Bool} {held : Bool}
end
end Go.Proofs.YtamjadghncnbcaaGreatDoor
