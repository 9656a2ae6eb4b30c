/- The reference of chapter 2, run: taking away. -/
import Derived.Test.YtkckmpnkacdchaaDoorRel02a
import Derived.Test.YtkckmpnkacdchaaDoorFelM
set_option linter.unusedVariables false
set_option linter.unusedSimpArgs false
namespace Go.Proofs.YtkckmpnkacdchaaDoor
open Go.RowKit Go.Num Go.Sx
end Go.Proofs.YtkckmpnkacdchaaDoor
