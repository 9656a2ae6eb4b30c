/- More arguments, opened: three numbers in a row, two small numbers, a wide number in two halves. -/
import Derived.Test.YtkckmpnkacdchaaDoorOpen
import Derived.Test.YtkckmpnkacdchaaDoorProg
set_option linter.unusedVariables false
set_option linter.unusedSimpArgs false
namespace Go.Proofs.YtkckmpnkacdchaaDoor
open Go.RowKit Go.Num
section
variable {H : Type} {enc : TypeId × Value → H} {w : World} {base : Nat} {spare : Nat → Bool} {held : Bool}
end
end Go.Proofs.YtkckmpnkacdchaaDoor
