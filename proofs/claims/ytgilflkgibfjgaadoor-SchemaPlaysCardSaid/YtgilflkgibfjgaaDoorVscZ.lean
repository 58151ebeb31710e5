/- osierref01.Scan, Read, walked but for numbers; the laws ValueScans, ValueReads, given numbers. -/
import Derived.Test.YtgilflkgibfjgaaDoorLe
namespace Go.Proofs.YtgilflkgibfjgaaDoor
open Go.RowKit
set_option linter.unusedVariables false
end Go.Proofs.YtgilflkgibfjgaaDoor
