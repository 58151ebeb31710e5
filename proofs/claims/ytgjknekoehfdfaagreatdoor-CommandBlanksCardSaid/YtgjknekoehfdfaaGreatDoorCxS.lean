/- row.Show and osierref02.Show, walked. change.showOne, Show, walked. -/
import Derived.Test.YtgjknekoehfdfaaGreatDoorRxS
import Derived.Test.YtgjknekoehfdfaaGreatDoorCh0ZS
import Derived.Test.YtgjknekoehfdfaaGreatDoorLe
import Derived.Test.YtgjknekoehfdfaaGreatDoorRwS
import Derived.Test.YtgjknekoehfdfaaGreatDoorLd
import Derived.Deep.RegionLaw
import Derived.Deep.RegionHeld3
namespace Go.Proofs.YtgjknekoehfdfaaGreatDoor
open Go.RowKit
set_option linter.unusedVariables false

end Go.Proofs.YtgjknekoehfdfaaGreatDoor
namespace Go.Proofs.YtgjknekoehfdfaaGreatDoor
open Go.RowKit
set_option linter.unusedVariables false

end Go.Proofs.YtgjknekoehfdfaaGreatDoor
