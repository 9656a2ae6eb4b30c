/- Merged: ShaP, ShaU, ShaW, ShaQ, ShaX. -/
import Derived.Test.YtkckmpnkacdchaaDoorShaM1
set_option linter.unusedVariables false
set_option linter.unusedSimpArgs false
/- The reference's padding. -/
namespace Go.Proofs.YtkckmpnkacdchaaDoor
open Go.RowKit Go.Num Go.Sx
end Go.Proofs.YtkckmpnkacdchaaDoor
/- The reference's words. -/
namespace Go.Proofs.YtkckmpnkacdchaaDoor
open Go.RowKit Go.Num Go.Sx
end Go.Proofs.YtkckmpnkacdchaaDoor
/- The reference takes a block in. -/
namespace Go.Proofs.YtkckmpnkacdchaaDoor
open Go.RowKit Go.Num Go.Sx
end Go.Proofs.YtkckmpnkacdchaaDoor
/- The reference's hash. -/
namespace Go.Proofs.YtkckmpnkacdchaaDoor
open Go.RowKit Go.Num Go.Sx
end Go.Proofs.YtkckmpnkacdchaaDoor
/- Sha512Sums, run. -/
namespace Go.Proofs.YtkckmpnkacdchaaDoor
open Go.RowKit Go.Num Go.Sx
end Go.Proofs.YtkckmpnkacdchaaDoor
