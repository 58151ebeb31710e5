/- Is there a k? plainly. slices.IndexFunc, ContainsFunc at osier/api.Value, walked, told by the place (printed by idxn.py). row.Valid and osierref02.Valid, walked. Texts while they are written; strings.Join of any list of texts. -/
import Derived.Test.YtgjknekoehfdfaaGreatDoorGb
import Derived.Test.YtgjknekoehfdfaaGreatDoorCh0ZS
import Derived.Test.YtgjknekoehfdfaaGreatDoorLe
import Derived.Test.YtgjknekoehfdfaaGreatDoorGrS
import Derived.Test.YtgjknekoehfdfaaGreatDoorShelfJ
import Derived.Shelf.Abstract
import Derived.Deep.RegionLaw
import Derived.Deep.RegionHeld3
import Derived.Lib.Join
namespace Go.Proofs.YtgjknekoehfdfaaGreatDoor
set_option linter.unusedVariables false
end Go.Proofs.YtgjknekoehfdfaaGreatDoor
namespace Go.Proofs.YtgjknekoehfdfaaGreatDoor
open Go.RowKit
set_option linter.unusedVariables false

end Go.Proofs.YtgjknekoehfdfaaGreatDoor
namespace Go.Proofs.YtgjknekoehfdfaaGreatDoor
open Go.RowKit
set_option linter.unusedVariables false

end Go.Proofs.YtgjknekoehfdfaaGreatDoor
namespace Go.Proofs.YtgjknekoehfdfaaGreatDoor
open Go.RowKit
set_option linter.unusedVariables false

end Go.Proofs.YtgjknekoehfdfaaGreatDoor
