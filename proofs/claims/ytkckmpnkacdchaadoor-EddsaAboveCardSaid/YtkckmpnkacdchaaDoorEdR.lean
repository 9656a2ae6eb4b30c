/- The reference's multiples of points. -/
import Derived.Test.YtkckmpnkacdchaaDoorEdM
set_option linter.unusedVariables false
set_option linter.unusedSimpArgs false
namespace Go.Proofs.YtkckmpnkacdchaaDoor
open Go.RowKit Go.Num Go.Sx
end Go.Proofs.YtkckmpnkacdchaaDoor
