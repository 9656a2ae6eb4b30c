/- The reference of chapter 2, run. -/
import Derived.Test.YtdgjlcmedkmgbaaDoorFel5
import Derived.Test.YtdgjlcmedkmgbaaDoorLim6
set_option linter.unusedVariables false
set_option linter.unusedSimpArgs false
namespace Go.Proofs.YtdgjlcmedkmgbaaDoor
open Go.RowKit Go.Num Go.Sx
end Go.Proofs.YtdgjlcmedkmgbaaDoor
