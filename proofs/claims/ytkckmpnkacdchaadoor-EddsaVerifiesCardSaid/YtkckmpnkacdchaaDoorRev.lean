/- slices.Reverse at []byte, walked. -/
import Derived.Test.YtkckmpnkacdchaaDoorSyM3
import Derived.Sort.WalkB12
import Derived.Lib.SlicesMore
import Derived.Test.YtkckmpnkacdchaaDoorChecked
set_option linter.unusedVariables false
set_option linter.unusedSimpArgs false
namespace Go.Proofs.YtkckmpnkacdchaaDoor
open Go.RowKit Go.Sort Go.Sx
end Go.Proofs.YtkckmpnkacdchaaDoor
