/- osierref01.Scan, Read, walked but for numbers; the laws ValueScans, ValueReads, given numbers. -/
import Derived.Test.YtbehonaegfpmoaaGreatDoorLe
namespace Go.Proofs.YtbehonaegfpmoaaGreatDoor
open Go.RowKit
set_option linter.unusedVariables false
end Go.Proofs.YtbehonaegfpmoaaGreatDoor
