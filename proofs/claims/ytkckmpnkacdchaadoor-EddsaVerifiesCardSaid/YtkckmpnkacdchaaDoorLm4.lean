/- Montgomery's half product, by limbs. Pure arithmetic. -/
import Derived.Test.YtkckmpnkacdchaaDoorLm3
set_option linter.unusedVariables false
set_option linter.unusedSimpArgs false
open Go
namespace Go.Num
theorem half_round {t0 t1 t2 t3 t4 a b0 b1 b2 b3 m0 m1 m2 m3 q iv l0 h0 l1 h1 l2 h2 l3 h3 u k z0 g0 y0 g1 y1 g2 y2 g3 x j T : Nat}
  (bt0 : t0 < B) (bt1 : t1 < B) (bt2 : t2 < B) (bt3 : t3 < B) (ha : a < B)
  (e0 : l0 + B * h0 = t0 + a * b0 + 0) (e1 : l1 + B * h1 = t1 + a * b1 + h0) (e2 : l2 + B * h2 = t2 + a * b2 + h1) (e3 : l3 + B * h3 = t3 + a * b3 + h2) (e4 : u + B * k = t4 + h3 + 0)
  (bl0 : l0 < B) (hq : q = l0 * iv % B) (hi : (iv * m0 + 1) % B = 0)
  (f0 : z0 + B * g0 = l0 + q * m0 + 0) (f1 : y0 + B * g1 = l1 + q * m1 + g0) (f2 : y1 + B * g2 = l2 + q * m2 + g1) (f3 : y2 + B * g3 = l3 + q * m3 + g2) (f4 : x + B * j = u + g3 + 0)
  (bz0 : z0 < B) (hT : T = num t0 t1 t2 t3 + N * t4) (hb : T < num b0 b1 b2 b3 + num m0 m1 m2 m3) :
  B * (num y0 y1 y2 x + N * (k + j)) = T + a * num b0 b1 b2 b3 + q * num m0 m1 m2 m3 ∧ num y0 y1 y2 x + N * (k + j) < num b0 b1 b2 b3 + num m0 m1 m2 m3 := by
 have hqB : q < B := by rw [hq]; exact Nat.mod_lt _ B_pos
 have hz : z0 = 0 := by
  have e : (l0 + q * m0) % B = 0 := by
   rw [hq, Nat.add_mod, Nat.mul_mod, Nat.mod_mod, ← Nat.mul_mod, ← Nat.add_mod]
   rw [show l0 + l0 * iv * m0 = l0 * (iv * m0 + 1) by rw [Nat.mul_add, Nat.mul_one, Nat.mul_assoc]; omega]
   rw [Nat.mul_mod, hi, Nat.mul_zero, Nat.zero_mod]
  have : (z0 + B * g0) % B = 0 := by rw [f0, Nat.add_zero]; exact e
  rw [Nat.add_mul_mod_self_left, Nat.mod_eq_of_lt bz0] at this
  exact this
 have ea : a * num b0 b1 b2 b3 = a * b0 + B * (a * b1) + B * B * (a * b2) + B * B * B * (a * b3) := by
  unfold num
  simp only [Nat.mul_add, Nat.mul_left_comm a]
 have eq : q * num m0 m1 m2 m3 = q * m0 + B * (q * m1) + B * B * (q * m2) + B * B * B * (q * m3) := by
  unfold num
  simp only [Nat.mul_add, Nat.mul_left_comm q]
 have main : B * (num y0 y1 y2 x + N * (k + j)) = T + a * num b0 b1 b2 b3 + q * num m0 m1 m2 m3 := by
  rw [ea, eq, hT]
  clear ea eq hb hq hi
  generalize a * b0 = p0 at *
  generalize a * b1 = p1 at *
  generalize a * b2 = p2 at *
  generalize a * b3 = p3 at *
  generalize q * m0 = r0 at *
  generalize q * m1 = r1 at *
  generalize q * m2 = r2 at *
  generalize q * m3 = r3 at *
  subst hz
  unfold num N B at *
  omega
 refine ⟨main, ?_⟩
 have h1 : a * num b0 b1 b2 b3 ≤ (B - 1) * num b0 b1 b2 b3 := Nat.mul_le_mul_right _ (by omega)
 have h2 : q * num m0 m1 m2 m3 ≤ (B - 1) * num m0 m1 m2 m3 := Nat.mul_le_mul_right _ (by omega)
 generalize num b0 b1 b2 b3 = b at *
 generalize num m0 m1 m2 m3 = m at *
 generalize num y0 y1 y2 x + N * (k + j) = T' at *
 have : B * T' < B * (b + m) := by
  rw [main, Nat.mul_add]
  have e1 : (B - 1) * b = B * b - b := by rw [Nat.sub_mul, Nat.one_mul]
  have e2 : (B - 1) * m = B * m - m := by rw [Nat.sub_mul, Nat.one_mul]
  have g1 : b ≤ B * b := Nat.le_mul_of_pos_left _ B_pos
  have g2 : m ≤ B * m := Nat.le_mul_of_pos_left _ B_pos
  omega
 exact Nat.lt_of_mul_lt_mul_left this
theorem half_four {a0 a1 a2 a3 b m q0 q1 q2 q3 T1 T2 T3 T4 : Nat} (h0 : B * T1 = 0 + a0 * b + q0 * m) (h1 : B * T2 = T1 + a1 * b + q1 * m) (h2 : B * T3 = T2 + a2 * b + q2 * m) (h3 : B * T4 = T3 + a3 * b + q3 * m) :
  N * T4 = num a0 a1 a2 a3 * b + num q0 q1 q2 q3 * m := by
 have ea : num a0 a1 a2 a3 * b = a0 * b + B * (a1 * b) + B * B * (a2 * b) + B * B * B * (a3 * b) := by
  unfold num
  simp only [Nat.add_mul, Nat.mul_assoc]
 have eq : num q0 q1 q2 q3 * m = q0 * m + B * (q1 * m) + B * B * (q2 * m) + B * B * B * (q3 * m) := by
  unfold num
  simp only [Nat.add_mul, Nat.mul_assoc]
 rw [ea, eq]
 generalize a0 * b = p0 at *
 generalize a1 * b = p1 at *
 generalize a2 * b = p2 at *
 generalize a3 * b = p3 at *
 generalize q0 * m = r0 at *
 generalize q1 * m = r1 at *
 generalize q2 * m = r2 at *
 generalize q3 * m = r3 at *
 unfold N B at *
 omega
def hp (m ni a b : Nat) : Nat := a * b * ni % m
theorem half_end {a b m ni Q s t4 T : Nat} (hm0 : 0 < m) (hm : m < N) (hni : N * ni % m = 1 % m) (hT : T = s + N * t4) (hs : s < N) (hb : b < m) (hlt : T < b + m) (he : N * T = a * b + Q * m) :
  (if (if ((t4 : Nat) : Int) != 0 then true else !(decide (s < m))) = true then (s + N - m) % N else s) = hp m ni a b := by
 have hr : (if m ≤ T then T - m else T) = hp m ni a b := by
  have hmod : T % m = hp m ni a b := by
   unfold hp
   have h1 : N * T % m = a * b % m := by rw [he, Nat.add_mul_mod_self_right]
   have h2 : T % m = (N * ni % m) * T % m := by rw [hni, Nat.mul_mod, Nat.mod_mod, ← Nat.mul_mod, Nat.one_mul]
   rw [h2, Nat.mul_mod, Nat.mod_mod, ← Nat.mul_mod, show N * ni * T = N * T * ni by rw [Nat.mul_right_comm], Nat.mul_mod, h1, ← Nat.mul_mod]
  rw [← hmod]
  split
  ·rename_i h
   rw [Nat.mod_eq_sub_mod h, Nat.mod_eq_of_lt (by omega)]
  ·rename_i h
   rw [Nat.mod_eq_of_lt (by omega)]
 rw [← hr]
 have ht : t4 ≤ 1 := by
  unfold N at *
  omega
 obtain rfl | rfl : t4 = 0 ∨ t4 = 1 := by omega
 ·by_cases h : s < m
  ·rw [if_neg (by simp [h]), if_neg (by omega)]; omega
  ·rw [if_pos (by simp [h]), if_pos (by omega)]
   unfold N at *
   omega
 ·rw [if_pos (by simp), if_pos (by unfold N at *; omega)]
  unfold N at *
  omega
end Go.Num
