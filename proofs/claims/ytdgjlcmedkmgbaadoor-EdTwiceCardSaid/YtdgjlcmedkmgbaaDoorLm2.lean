/- Limb by limb: sums and differences as the references reckon them. Pure arithmetic. -/
import Derived.Test.YtdgjlcmedkmgbaaDoorLm
set_option linter.unusedVariables false
set_option linter.unusedSimpArgs false
namespace Go.Num

/-- the difference modulo N, and that y added to it is x again -/
def dif (x y : Nat) : Nat := (x + N - y) % N

theorem dif_add {x y : Nat} (hx : x < N) (hy : y < N) : (dif x y + y) % N = x := by
  unfold dif N at *
  omega

theorem dif_eq (x y : Nat) : (x + N - y) % N = dif x y := rfl

theorem dif_lt (x y : Nat) : dif x y < N := Nat.mod_lt _ (by decide)

theorem lm_dif {x y k : Nat} (hx : x < N) (hy : y < N) (hk : k < 4) : lm (dif x y + y) k = lm x k := by
  rw [← lm_modN _ _ hk, dif_add hx hy]

/-- the borrow out of limb k of x - y -/
theorem bor_four {x y : Nat} (hx : x < N) (hy : y < N) : cyb (dif x y) y 4 = decide (x < y) := by
  apply cyb_iff
  rw [car_four (dif_lt x y) hy, decide_eq_true_iff]
  unfold dif N at *
  split <;> omega

theorem sub_no {x y k : Nat} (hx : x < N) (hy : y < N) (hk : k < 4) (h : cyb (dif x y) y k = false) :
    lm (dif x y) k = (lm x k + B - lm y k) % B ∧ cyb (dif x y) y (k + 1) = decide (lm x k < lm y k) := by
  have h0 := cyb_false h
  have h1 := lm_add (dif x y) y k
  have h2 := car_succ (dif x y) y k
  rw [lm_dif hx hy hk, h0] at h1
  rw [h0] at h2
  have a := lm_lt x k
  have b := lm_lt y k
  have c := lm_lt (dif x y) k
  constructor
  · rw [h1]
    generalize lm (dif x y) k = z at *
    generalize lm y k = u at *
    unfold B at *
    omega
  · apply cyb_iff
    rw [h2, h1, decide_eq_true_iff]
    generalize lm (dif x y) k = z at *
    generalize lm y k = u at *
    unfold B at *
    omega

theorem sub_yes {x y k : Nat} (hx : x < N) (hy : y < N) (hk : k < 4) (h : cyb (dif x y) y k = true) :
    lm (dif x y) k = ((lm x k + B - lm y k) % B + B - 1) % B ∧ cyb (dif x y) y (k + 1) = decide (lm x k < lm y k ∨ (lm x k + B - lm y k) % B = 0) := by
  have h0 := cyb_true h
  have h1 := lm_add (dif x y) y k
  have h2 := car_succ (dif x y) y k
  rw [lm_dif hx hy hk, h0] at h1
  rw [h0] at h2
  have a := lm_lt x k
  have b := lm_lt y k
  have c := lm_lt (dif x y) k
  constructor
  · rw [h1]
    generalize lm (dif x y) k = z at *
    generalize lm y k = u at *
    unfold B at *
    omega
  · apply cyb_iff
    rw [h2, h1, decide_eq_true_iff]
    generalize lm (dif x y) k = z at *
    generalize lm y k = u at *
    unfold B at *
    omega

theorem add_no {x y k : Nat} (h : cyb x y k = false) : lm (x + y) k = (lm x k + lm y k) % B ∧ cyb x y (k + 1) = decide ((lm x k + lm y k) % B < lm x k) := by
  obtain ⟨h1, h2⟩ := limb_no x y k (cyb_false h)
  exact ⟨h1, cyb_iff (by rw [h2, decide_eq_true_iff])⟩

theorem add_yes {x y k : Nat} (h : cyb x y k = true) : lm (x + y) k = ((lm x k + lm y k) % B + 1) % B ∧ cyb x y (k + 1) = decide ((lm x k + lm y k) % B < lm x k ∨ lm (x + y) k = 0) := by
  obtain ⟨h1, h2⟩ := limb_yes x y k (cyb_true h)
  exact ⟨h1, cyb_iff (by rw [h2, decide_eq_true_iff])⟩

theorem cyb_zero (x y : Nat) : cyb x y 0 = false := by unfold cyb; rw [car_zero]; rfl

theorem cyb_four {x y : Nat} (hx : x < N) (hy : y < N) : cyb x y 4 = decide (N ≤ x + y) := by
  apply cyb_iff
  rw [car_four hx hy, decide_eq_true_iff]
  split <;> simp_all

theorem wrap_dec {t : Nat} (ht : t < B) : ((t : Int) - 1) % 18446744073709551616 = (((t + B - 1) % B : Nat) : Int) := by
  unfold B at *
  omega

theorem wrap_dif {a b : Nat} (ha : a < B) (hb : b < B) : ((a : Int) - (b : Int)) % 18446744073709551616 = (((a + B - b) % B : Nat) : Int) := by
  unfold B at *
  omega

end Go.Num
