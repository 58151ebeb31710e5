/- osierref01.Scan at a number with a minus, walked (printed by num.py). -/
import Derived.Test.YtbehonaegfpmoaaGreatDoorLb
import Derived.Test.YtbehonaegfpmoaaGreatDoorLe
namespace Go.Proofs.YtbehonaegfpmoaaGreatDoor
open Go.RowKit
set_option linter.unusedVariables false
end Go.Proofs.YtbehonaegfpmoaaGreatDoor
