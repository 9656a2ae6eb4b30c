/- The walks of the reference's Add, Sub and Cmp. -/
import Derived.Test.YtkckmpnkacdchaaDoorLimb2
import Derived.Test.YtkckmpnkacdchaaDoorLm2
set_option linter.unusedVariables false
set_option linter.unusedSimpArgs false
namespace Go.Proofs.YtkckmpnkacdchaaDoor
open Go.RowKit Go.Num
end Go.Proofs.YtkckmpnkacdchaaDoor
