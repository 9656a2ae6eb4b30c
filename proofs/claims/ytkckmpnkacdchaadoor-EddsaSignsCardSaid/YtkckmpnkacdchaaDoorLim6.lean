/- The reference's products: doubling and adding, bit by bit. -/
import Derived.Test.YtkckmpnkacdchaaDoorLim5
import Derived.Test.YtkckmpnkacdchaaDoorSyM3
set_option linter.unusedVariables false
set_option linter.unusedSimpArgs false
namespace Go.Proofs.YtkckmpnkacdchaaDoor
open Go.RowKit Go.Num Go.Sx
end Go.Proofs.YtkckmpnkacdchaaDoor
