/- The reference of chapter 2, run: taking away. -/
import Derived.Test.YtdgjlcmedkmgbaaDoorRel02a
import Derived.Test.YtdgjlcmedkmgbaaDoorFmat
set_option linter.unusedVariables false
set_option linter.unusedSimpArgs false
namespace Go.Proofs.YtdgjlcmedkmgbaaDoor
open Go.RowKit Go.Num Go.Sx
end Go.Proofs.YtdgjlcmedkmgbaaDoor
