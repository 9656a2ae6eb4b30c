/- slices.Reverse at []byte, walked. -/
import Derived.Test.YtdgjlcmedkmgbaaDoorSyM3
import Derived.Sort.WalkB12
import Derived.Lib.SlicesMore
import Derived.Test.YtdgjlcmedkmgbaaDoorChecked
set_option linter.unusedVariables false
set_option linter.unusedSimpArgs false
namespace Go.Proofs.YtdgjlcmedkmgbaaDoor
open Go.RowKit Go.Sort Go.Sx
end Go.Proofs.YtdgjlcmedkmgbaaDoor
