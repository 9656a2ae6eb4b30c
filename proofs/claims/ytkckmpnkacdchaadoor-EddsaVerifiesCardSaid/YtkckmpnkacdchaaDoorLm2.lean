/- Limb by limb: sums and differences as the references reckon them. Pure arithmetic. -/
import Derived.Test.YtkckmpnkacdchaaDoorLm
set_option linter.unusedVariables false
set_option linter.unusedSimpArgs false
namespace Go.Num
def dif (x y : Nat) : Nat := (x + N - y) % N
theorem add_no {x y k : Nat} (h : cyb x y k = false) : lm (x + y) k = (lm x k + lm y k) % B ∧ cyb x y (k + 1) = decide ((lm x k + lm y k) % B < lm x k) := by
 obtain ⟨h1, h2⟩ := limb_no x y k (cyb_false h)
 exact ⟨h1, cyb_iff (by rw [h2, decide_eq_true_iff])⟩
theorem add_yes {x y k : Nat} (h : cyb x y k = true) : lm (x + y) k = ((lm x k + lm y k) % B + 1) % B ∧ cyb x y (k + 1) = decide ((lm x k + lm y k) % B < lm x k ∨ lm (x + y) k = 0) := by
 obtain ⟨h1, h2⟩ := limb_yes x y k (cyb_true h)
 exact ⟨h1, cyb_iff (by rw [h2, decide_eq_true_iff])⟩
theorem cyb_zero (x y : Nat) : cyb x y 0 = false := by unfold cyb; rw [car_zero]; rfl
theorem cyb_four {x y : Nat} (hx : x < N) (hy : y < N) : cyb x y 4 = decide (N ≤ x + y) := by
 apply cyb_iff
 rw [car_four hx hy, decide_eq_true_iff]
 split <;> simp_all
end Go.Num
