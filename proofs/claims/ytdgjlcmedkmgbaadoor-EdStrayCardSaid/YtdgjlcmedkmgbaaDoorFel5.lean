/- A wide number, reduced. -/
import Derived.Test.YtdgjlcmedkmgbaaDoorFel4
import Derived.Test.YtdgjlcmedkmgbaaDoorFmat
set_option linter.unusedVariables false
set_option linter.unusedSimpArgs false
namespace Go.Proofs.YtdgjlcmedkmgbaaDoor
open Go.RowKit Go.Num Go.Sx
end Go.Proofs.YtdgjlcmedkmgbaaDoor
