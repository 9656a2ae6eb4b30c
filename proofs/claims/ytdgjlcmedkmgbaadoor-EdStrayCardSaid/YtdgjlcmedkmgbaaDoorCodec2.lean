/- Numbers out of bytes, run. -/
import Derived.Test.YtdgjlcmedkmgbaaDoorCodec1
set_option linter.unusedVariables false
set_option linter.unusedSimpArgs false
namespace Go.Proofs.YtdgjlcmedkmgbaaDoor
open Go.RowKit Go.Num Go.Sx
end Go.Proofs.YtdgjlcmedkmgbaaDoor
