/- osierref01.Scan at a number without a minus, walked (printed by num.py). -/
import Derived.Test.YtgilflkgibfjgaaDoorLb
import Derived.Test.YtgilflkgibfjgaaDoorLe
namespace Go.Proofs.YtgilflkgibfjgaaDoor
open Go.RowKit
set_option linter.unusedVariables false
end Go.Proofs.YtgilflkgibfjgaaDoor
