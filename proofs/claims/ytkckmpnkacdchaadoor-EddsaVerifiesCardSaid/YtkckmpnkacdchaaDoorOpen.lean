/- Arguments that are arrays of limbs, opened: the value is that of a number. -/
import Derived.Test.YtkckmpnkacdchaaDoorCalls
import Derived.ProofKit
import Derived.OpenShut
set_option linter.unusedVariables false
set_option linter.unusedSimpArgs false
namespace Go.Num
open Go.RowKit
section
variable {H : Type} {enc : TypeId × Value → H} {P : Program} {w : World} {base : Nat} {spare : Nat → Bool} {held : Bool}
end
end Go.Num
