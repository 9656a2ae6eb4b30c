/- Products, doubling and sums of eight limbs, limb by limb. Pure arithmetic. -/
import Derived.Test.YtkckmpnkacdchaaDoorLm2
import Derived.Laws.Entries
import Derived.Laws.Bits64
import Derived.IntWalk
set_option linter.unusedVariables false
set_option linter.unusedSimpArgs false
open Go
namespace Go.Num
theorem mac {a b o c h l s1 k1 s2 k2 : Nat} (ha : a < B) (hb : b < B) (ho : o < B) (hc : c < B) (hh : h = a * b / B) (hl : l = a * b % B) (hs1 : s1 = (l + o + 0) % B) (hk1 : k1 = (l + o + 0) / B) (hs2 : s2 = (s1 + c + 0) % B) (hk2 : k2 = (s1 + c + 0) / B) :
  h + k1 + k2 < B ∧ s2 < B ∧ s2 + B * (h + k1 + k2) = o + a * b + c := by
 have hab : a * b ≤ (B - 1) * (B - 1) := Nat.mul_le_mul (by omega) (by omega)
 have e := Nat.div_add_mod (a * b) B
 have m := Nat.mod_lt (a * b) B_pos
 rw [← hh, ← hl] at e
 rw [← hl] at m
 generalize a * b = p at *
 unfold B at *
 omega
theorem wrap3 {h k1 k2 : Nat} (hr : h + k1 + k2 < B) : IntKind.u64.wrap (IntKind.u64.wrap ((h : Int) + (k1 : Int)) + (k2 : Int)) = ((h + k1 + k2 : Nat) : Int) := by
 rw [IntKind.wrap_u64, IntKind.wrap_u64]
 unfold B at hr
 omega
theorem mul64 {x y x0 x1 y0 y1 w0 t w1 hi : Nat} (hx : x < B) (hy : y < B) (ex0 : x0 = x % 4294967296) (ex1 : x1 = x / 4294967296) (ey0 : y0 = y % 4294967296) (ey1 : y1 = y / 4294967296)
  (ew0 : w0 = x0 * y0) (et : t = x1 * y0 + w0 / 4294967296) (ew1 : w1 = t % 4294967296 + x0 * y1) (eh : hi = x1 * y1 + t / 4294967296 + w1 / 4294967296) :
  w0 < B ∧ x1 * y0 < B ∧ t < B ∧ x0 * y1 < B ∧ w1 < B ∧ x1 * y1 < B ∧ x1 * y1 + t / 4294967296 < B ∧ hi < B ∧ hi = x * y / B := by
 have bx0 : x0 ≤ 4294967295 := by omega
 have bx1 : x1 ≤ 4294967295 := by unfold B at hx; omega
 have by0 : y0 ≤ 4294967295 := by omega
 have by1 : y1 ≤ 4294967295 := by unfold B at hy; omega
 have m00 : x0 * y0 ≤ 4294967295 * 4294967295 := Nat.mul_le_mul bx0 by0
 have m10 : x1 * y0 ≤ 4294967295 * 4294967295 := Nat.mul_le_mul bx1 by0
 have m01 : x0 * y1 ≤ 4294967295 * 4294967295 := Nat.mul_le_mul bx0 by1
 have m11 : x1 * y1 ≤ 4294967295 * 4294967295 := Nat.mul_le_mul bx1 by1
 have ex : x = 4294967296 * x1 + x0 := by omega
 have ey : y = 4294967296 * y1 + y0 := by omega
 have e : x * y = 18446744073709551616 * (x1 * y1) + 4294967296 * (x1 * y0) + 4294967296 * (x0 * y1) + x0 * y0 := by
  rw [ex, ey]
  simp only [Nat.add_mul, Nat.mul_add, Nat.mul_assoc, Nat.mul_left_comm _ 4294967296]
  omega
 clear ex0 ex1 ey0 ey1 ex ey
 rw [e]
 subst ew0
 generalize x0 * y0 = p00 at *
 generalize x1 * y0 = p10 at *
 generalize x0 * y1 = p01 at *
 generalize x1 * y1 = p11 at *
 unfold B at *
 omega
end Go.Num
