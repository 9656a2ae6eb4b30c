/- Is the program awake? -/
import Derived.Test.YtkckmpnkacdchaaDoorEdF
set_option linter.unusedVariables false
set_option linter.unusedSimpArgs false
namespace Go.Proofs.YtkckmpnkacdchaaDoor
open Go.RowKit Go.Num Go.Sx
theorem base_val : Ed.base.x.val = Ed.bx ∧ Ed.base.y.val = Ed.bY := by
 constructor
 ·show (Ed.phi Ed.bx).val = Ed.bx
  rw [Ed.phi_val]
  exact Nat.mod_eq_of_lt (by decide +kernel)
 ·show (Ed.phi Ed.bY).val = Ed.bY
  rw [Ed.phi_val]
  exact Nat.mod_eq_of_lt (by decide +kernel)
end Go.Proofs.YtkckmpnkacdchaaDoor
