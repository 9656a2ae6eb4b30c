/- Limb by limb: sums and differences as the references reckon them. Pure arithmetic. -/
import Derived.Test.YtkckmpnkacdchaaDoorLm
set_option linter.unusedVariables false
set_option linter.unusedSimpArgs false
namespace Go.Num
/-- the difference modulo N, and that y added to it is x again -/
def dif (x y : Nat) : Nat := (x + N - y) % N
end Go.Num
