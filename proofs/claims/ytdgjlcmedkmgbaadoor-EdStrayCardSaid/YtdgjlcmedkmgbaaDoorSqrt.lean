/- Square roots modulo 2^255 - 19: the points of the curve with a given y. -/
import Derived.Test.YtdgjlcmedkmgbaaDoorPure
set_option linter.unusedVariables false
set_option linter.unusedSimpArgs false
namespace Go.Ed
open Go.Num
theorem zz : (0 : F) * 0 = 0 := by decide +kernel
end Go.Ed
