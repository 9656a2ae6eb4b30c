/- The arithmetic of remainders that the laws of chapter 2 want. -/
import Derived.Test.YtdgjlcmedkmgbaaDoorLimE
set_option linter.unusedVariables false
set_option linter.unusedSimpArgs false
namespace Go.Num
def sb (m x y : Nat) : Nat := (x % m + m - y % m) % m
theorem sb_lt {m : Nat} (h : 1 < m) (x y : Nat) : sb m x y < m := Nat.mod_lt _ (by omega)
theorem sb_add {m : Nat} (h : 1 < m) (x y : Nat) : (sb m x y + y) % m = x % m := by
  unfold sb
  have hy : y % m < m := Nat.mod_lt _ (by omega)
  rw [Nat.mod_add_mod, ← Nat.add_mod_mod (x % m + m - y % m) y m, show x % m + m - y % m + y % m = x % m + m by omega, Nat.add_mod_right, Nat.mod_mod]
theorem mod_cancel {m r s y : Nat} (hr : r < m) (hs : s < m) (h : (r + y) % m = (s + y) % m) : r = s := by
  have a := Nat.div_add_mod (r + y) m
  have b := Nat.div_add_mod (s + y) m
  rw [h] at a
  rcases Nat.lt_trichotomy ((r + y) / m) ((s + y) / m) with c | c | c
  · have := Nat.mul_le_mul_left m (show (r + y) / m + 1 ≤ (s + y) / m from c)
    rw [Nat.mul_add, Nat.mul_one] at this
    omega
  · rw [c] at a
    omega
  · have := Nat.mul_le_mul_left m (show (s + y) / m + 1 ≤ (r + y) / m from c)
    rw [Nat.mul_add, Nat.mul_one] at this
    omega
theorem minus1 {m : Nat} (h : 1 < m) (a : Nat) : (a + sb m 0 a) % m = 0 := by
  rw [Nat.add_comm, sb_add h, Nat.zero_mod]
theorem minus2 {m : Nat} (h : 1 < m) (a : Nat) : sb m 0 (sb m 0 a) = a % m := by
  refine mod_cancel (y := sb m 0 a) (sb_lt h _ _) (Nat.mod_lt _ (by omega)) ?_
  rw [sb_add h, Nat.mod_add_mod, minus1 h, Nat.zero_mod]
theorem minus3 {m : Nat} (h : 1 < m) (a b : Nat) : sb m 0 a * b % m = sb m 0 (a * b % m) := by
  refine mod_cancel (y := a * b % m) (Nat.mod_lt _ (by omega)) (sb_lt h _ _) ?_
  rw [sb_add h, ← Nat.add_mod, ← Nat.add_mul, Nat.mul_mod, sb_add h]
  simp
theorem minus4 {m : Nat} (h : 1 < m) (a b : Nat) : sb m a b = (a + sb m 0 b) % m := by
  refine mod_cancel (y := b) (sb_lt h _ _) (Nat.mod_lt _ (by omega)) ?_
  rw [sb_add h, Nat.mod_add_mod, Nat.add_assoc, Nat.add_mod a, sb_add h]
  simp
theorem ring1 (m a b c : Nat) : a * ((b + c) % m) % m = (a * b % m + a * c % m) % m := by
  rw [← Nat.add_mod, ← Nat.mul_add, Nat.mul_mod, Nat.mod_mod, ← Nat.mul_mod]
theorem ring2 (m a b c : Nat) : a * (b * c % m) % m = a * b % m * c % m := by
  rw [Nat.mul_mod, Nat.mod_mod, ← Nat.mul_mod, ← Nat.mul_assoc, Nat.mul_mod (a * b % m) c, Nat.mod_mod, ← Nat.mul_mod]
theorem ring3 {m : Nat} (h : 1 < m) (a b : Nat) : sb m ((a + b) % m) b = a % m := by
  refine mod_cancel (y := b) (sb_lt h _ _) (Nat.mod_lt _ (by omega)) ?_
  rw [sb_add h, Nat.mod_mod, Nat.mod_add_mod]
theorem lm_z (i : Nat) : lm 0 i = 0 := by simp [lm]
theorem lm_10 : lm 1 0 = 1 := by decide
theorem lm_11 : lm 1 1 = 0 := by decide
theorem lm_12 : lm 1 2 = 0 := by decide
theorem lm_13 : lm 1 3 = 0 := by decide
/-- the laws' number of a modulus -/
theorem kk_lo (k : Nat) (hk : k < 256) : 0 ≤ IntKind.i64.wrap (Int.tmod ((k : Nat) : Int) (4 : Int)) := by
  rw [IntKind.wrap_i64, Int.tmod_eq_emod_of_nonneg (by omega)]
  omega
theorem kk_hi (k : Nat) (hk : k < 256) : IntKind.i64.wrap (Int.tmod ((k : Nat) : Int) (4 : Int)) ≤ 3 := by
  rw [IntKind.wrap_i64, Int.tmod_eq_emod_of_nonneg (by omega)]
  omega
theorem lm_zero_all {r : Nat} (hr : r < N) (h0 : lm r 0 = 0) (h1 : lm r 1 = 0) (h2 : lm r 2 = 0) (h3 : lm r 3 = 0) : r = 0 := by
  have h := num_lm hr
  rw [h0, h1, h2, h3] at h
  rw [← h]
  rfl
end Go.Num
