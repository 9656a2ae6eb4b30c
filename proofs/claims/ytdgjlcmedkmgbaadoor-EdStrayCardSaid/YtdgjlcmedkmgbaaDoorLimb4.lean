/- The walks of the reference's Add, Sub and Cmp. -/
import Derived.Test.YtdgjlcmedkmgbaaDoorLimb2
import Derived.Test.YtdgjlcmedkmgbaaDoorLm2
set_option linter.unusedVariables false
set_option linter.unusedSimpArgs false
namespace Go.Proofs.YtdgjlcmedkmgbaaDoor
open Go.RowKit Go.Num
end Go.Proofs.YtdgjlcmedkmgbaaDoor
