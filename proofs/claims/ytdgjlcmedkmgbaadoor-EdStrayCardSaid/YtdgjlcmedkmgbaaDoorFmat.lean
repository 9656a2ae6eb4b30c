/- The arithmetic of remainders that the laws of chapter 2 want. -/
import Derived.Test.YtdgjlcmedkmgbaaDoorLimE
set_option linter.unusedVariables false
set_option linter.unusedSimpArgs false
namespace Go.Num
def sb (m x y : Nat) : Nat := (x % m + m - y % m) % m
end Go.Num
