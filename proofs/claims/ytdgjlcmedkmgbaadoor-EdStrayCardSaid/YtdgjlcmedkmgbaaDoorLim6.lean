/- The reference's products: doubling and adding, bit by bit. -/
import Derived.Test.YtdgjlcmedkmgbaaDoorLim5
import Derived.Test.YtdgjlcmedkmgbaaDoorSyM3
set_option linter.unusedVariables false
set_option linter.unusedSimpArgs false
namespace Go.Proofs.YtdgjlcmedkmgbaaDoor
open Go.RowKit Go.Num Go.Sx
end Go.Proofs.YtdgjlcmedkmgbaaDoor
