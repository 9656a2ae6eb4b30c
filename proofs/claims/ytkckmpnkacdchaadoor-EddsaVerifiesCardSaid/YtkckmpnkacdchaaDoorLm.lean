set_option linter.unusedVariables false
set_option linter.unusedSimpArgs false
namespace Go.Num
def B : Nat := 18446744073709551616
def N : Nat := 115792089237316195423570985008687907853269984665640564039457584007913129639936
def lm (x i : Nat) : Nat := x / B ^ i % B
theorem lm_lt (x i : Nat) : lm x i < B := Nat.mod_lt _ (by decide)
def num (a b c d : Nat) : Nat := a + B * b + B * B * c + B * B * B * d
theorem num_lt {a b c d : Nat} (ha : a < B) (hb : b < B) (hc : c < B) (hd : d < B) : num a b c d < N := by
 unfold num N B at *
 omega
theorem lm0 {a b c d : Nat} (ha : a < B) : lm (num a b c d) 0 = a := by
 unfold lm num B at *
 simp only [Nat.pow_zero, Nat.div_one]
 omega
theorem lm1 {a b c d : Nat} (ha : a < B) (hb : b < B) : lm (num a b c d) 1 = b := by
 unfold lm num B at *
 simp only [Nat.pow_one]
 omega
theorem lm2 {a b c d : Nat} (ha : a < B) (hb : b < B) (hc : c < B) : lm (num a b c d) 2 = c := by
 unfold lm num B at *
 simp only [Nat.reducePow]
 omega
theorem lm3 {a b c d : Nat} (ha : a < B) (hb : b < B) (hc : c < B) (hd : d < B) : lm (num a b c d) 3 = d := by
 unfold lm num B at *
 simp only [Nat.reducePow]
 omega
theorem num_lm {x : Nat} (h : x < N) : num (lm x 0) (lm x 1) (lm x 2) (lm x 3) = x := by
 unfold lm num N B at *
 simp only [Nat.reducePow]
 omega
theorem eq_of_lm {x y : Nat} (hx : x < N) (hy : y < N) (h0 : lm x 0 = lm y 0) (h1 : lm x 1 = lm y 1) (h2 : lm x 2 = lm y 2) (h3 : lm x 3 = lm y 3) : x = y := by
 rw [← num_lm hx, ← num_lm hy, h0, h1, h2, h3]
theorem lm_0 (x : Nat) : lm x 0 = x % 18446744073709551616 := by unfold lm B; simp
theorem lm_1 (x : Nat) : lm x 1 = x / 18446744073709551616 % 18446744073709551616 := by unfold lm B; simp
theorem lm_2 (x : Nat) : lm x 2 = x / 340282366920938463463374607431768211456 % 18446744073709551616 := by unfold lm B; simp
theorem lm_3 (x : Nat) : lm x 3 = x / 6277101735386680763835789423207666416102355444464034512896 % 18446744073709551616 := by unfold lm B; simp
theorem step_add (a b k : Nat) (ha : a < B) (hb : b < B) (hk : k ≤ 1) : (a + b + k) % B < B ∧ (a + b + k) / B ≤ 1 ∧ (a + b + k) % B + B * ((a + b + k) / B) = a + b + k := by
 unfold B at *
 omega
theorem step_sub (a b k : Nat) (ha : a < B) (hb : b < B) (hk : k ≤ 1) :
  (a + B - b - k) % B < B ∧ (if a < b + k then 1 else 0) ≤ 1 ∧ (a + B - b - k) % B + b + k = a + B * (if a < b + k then 1 else 0) := by
 unfold B at *
 split <;> omega
theorem num_add {a0 a1 a2 a3 b0 b1 b2 b3 s0 s1 s2 s3 k0 k1 k2 k3 : Nat} (h0 : s0 + B * k0 = a0 + b0 + 0) (h1 : s1 + B * k1 = a1 + b1 + k0) (h2 : s2 + B * k2 = a2 + b2 + k1) (h3 : s3 + B * k3 = a3 + b3 + k2) :
  num s0 s1 s2 s3 + N * k3 = num a0 a1 a2 a3 + num b0 b1 b2 b3 := by
 unfold num N B at *
 omega
theorem num_sub {a0 a1 a2 a3 b0 b1 b2 b3 s0 s1 s2 s3 k0 k1 k2 k3 : Nat} (h0 : s0 + b0 + 0 = a0 + B * k0) (h1 : s1 + b1 + k0 = a1 + B * k1) (h2 : s2 + b2 + k1 = a2 + B * k2) (h3 : s3 + b3 + k2 = a3 + B * k3) :
  num s0 s1 s2 s3 + num b0 b1 b2 b3 = num a0 a1 a2 a3 + N * k3 := by
 unfold num N B at *
 omega
theorem of_add {s k t : Nat} (hs : s < N) (hk : k ≤ 1) (h : s + N * k = t) : t % N = s ∧ k = (if N ≤ t then 1 else 0) := by
 unfold N at *
 split <;> omega
theorem of_sub {s k x y : Nat} (hs : s < N) (hx : x < N) (hy : y < N) (hk : k ≤ 1) (h : s + y = x + N * k) : (x + N - y) % N = s ∧ k = (if x < y then 1 else 0) := by
 unfold N at *
 split <;> omega
theorem add_chain {x y : Nat} (hx : x < N) (hy : y < N) : ∃ k0 k1 k2 k3 : Nat, k0 ≤ 1 ∧ k1 ≤ 1 ∧ k2 ≤ 1 ∧
  lm ((x + y) % N) 0 = (lm x 0 + lm y 0 + 0) % B ∧ k0 = (lm x 0 + lm y 0 + 0) / B ∧
  lm ((x + y) % N) 1 = (lm x 1 + lm y 1 + k0) % B ∧ k1 = (lm x 1 + lm y 1 + k0) / B ∧
  lm ((x + y) % N) 2 = (lm x 2 + lm y 2 + k1) % B ∧ k2 = (lm x 2 + lm y 2 + k1) / B ∧
  lm ((x + y) % N) 3 = (lm x 3 + lm y 3 + k2) % B ∧ k3 = (lm x 3 + lm y 3 + k2) / B ∧
  k3 = (if N ≤ x + y then 1 else 0) := by
 have s0 := step_add (lm x 0) (lm y 0) 0 (lm_lt _ _) (lm_lt _ _) (Nat.zero_le _)
 generalize e0 : (lm x 0 + lm y 0 + 0) / B = k0 at *
 have s1 := step_add (lm x 1) (lm y 1) k0 (lm_lt _ _) (lm_lt _ _) s0.2.1
 generalize e1 : (lm x 1 + lm y 1 + k0) / B = k1 at *
 have s2 := step_add (lm x 2) (lm y 2) k1 (lm_lt _ _) (lm_lt _ _) s1.2.1
 generalize e2 : (lm x 2 + lm y 2 + k1) / B = k2 at *
 have s3 := step_add (lm x 3) (lm y 3) k2 (lm_lt _ _) (lm_lt _ _) s2.2.1
 generalize e3 : (lm x 3 + lm y 3 + k2) / B = k3 at *
 have h := num_add s0.2.2 s1.2.2 s2.2.2 s3.2.2
 rw [num_lm hx, num_lm hy] at h
 obtain ⟨h1, h2⟩ := of_add (num_lt s0.1 s1.1 s2.1 s3.1) s3.2.1 h
 rw [h1, lm0 s0.1, lm1 s0.1 s1.1, lm2 s0.1 s1.1 s2.1, lm3 s0.1 s1.1 s2.1 s3.1]
 exact ⟨k0, k1, k2, k3, s0.2.1, s1.2.1, s2.2.1, rfl, rfl, rfl, e1.symm, rfl, e2.symm, rfl, e3.symm, h2⟩
theorem sub_chain {x y : Nat} (hx : x < N) (hy : y < N) : ∃ k0 k1 k2 k3 : Nat, k0 ≤ 1 ∧ k1 ≤ 1 ∧ k2 ≤ 1 ∧
  lm ((x + N - y) % N) 0 = (lm x 0 + B - lm y 0 - 0) % B ∧ k0 = (if lm x 0 < lm y 0 + 0 then 1 else 0) ∧
  lm ((x + N - y) % N) 1 = (lm x 1 + B - lm y 1 - k0) % B ∧ k1 = (if lm x 1 < lm y 1 + k0 then 1 else 0) ∧
  lm ((x + N - y) % N) 2 = (lm x 2 + B - lm y 2 - k1) % B ∧ k2 = (if lm x 2 < lm y 2 + k1 then 1 else 0) ∧
  lm ((x + N - y) % N) 3 = (lm x 3 + B - lm y 3 - k2) % B ∧ k3 = (if lm x 3 < lm y 3 + k2 then 1 else 0) ∧
  k3 = (if x < y then 1 else 0) := by
 have s0 := step_sub (lm x 0) (lm y 0) 0 (lm_lt _ _) (lm_lt _ _) (Nat.zero_le _)
 generalize e0 : (if lm x 0 < lm y 0 + 0 then 1 else 0) = k0 at *
 have s1 := step_sub (lm x 1) (lm y 1) k0 (lm_lt _ _) (lm_lt _ _) s0.2.1
 generalize e1 : (if lm x 1 < lm y 1 + k0 then 1 else 0) = k1 at *
 have s2 := step_sub (lm x 2) (lm y 2) k1 (lm_lt _ _) (lm_lt _ _) s1.2.1
 generalize e2 : (if lm x 2 < lm y 2 + k1 then 1 else 0) = k2 at *
 have s3 := step_sub (lm x 3) (lm y 3) k2 (lm_lt _ _) (lm_lt _ _) s2.2.1
 generalize e3 : (if lm x 3 < lm y 3 + k2 then 1 else 0) = k3 at *
 have h := num_sub s0.2.2 s1.2.2 s2.2.2 s3.2.2
 rw [num_lm hx, num_lm hy] at h
 obtain ⟨h1, h2⟩ := of_sub (num_lt s0.1 s1.1 s2.1 s3.1) hx hy s3.2.1 h
 rw [h1, lm0 s0.1, lm1 s0.1 s1.1, lm2 s0.1 s1.1 s2.1, lm3 s0.1 s1.1 s2.1 s3.1]
 exact ⟨k0, k1, k2, k3, s0.2.1, s1.2.1, s2.2.1, rfl, rfl, rfl, e1.symm, rfl, e2.symm, rfl, e3.symm, h2⟩
def cmpN (a b : Nat) : Int := if a < b then -1 else if b < a then 1 else 0
theorem cmpN_lt {a b : Nat} (h : a < b) : cmpN a b = -1 := if_pos h
theorem cmpN_gt {a b : Nat} (h : b < a) : cmpN a b = 1 := by unfold cmpN; rw [if_neg (by omega), if_pos h]
theorem cmpN_eq {a b : Nat} (h : a = b) : cmpN a b = 0 := by unfold cmpN; rw [if_neg (by omega), if_neg (by omega)]
theorem cmp_of {a0 a1 a2 a3 b0 b1 b2 b3 : Nat} (ha0 : a0 < B) (ha1 : a1 < B) (ha2 : a2 < B) (hb0 : b0 < B) (hb1 : b1 < B) (hb2 : b2 < B) :
  (num a0 a1 a2 a3 < num b0 b1 b2 b3 ↔ a3 < b3 ∨ a3 = b3 ∧ (a2 < b2 ∨ a2 = b2 ∧ (a1 < b1 ∨ a1 = b1 ∧ a0 < b0))) := by
 unfold num B at *
 omega
theorem lt_lm {x y : Nat} (hx : x < N) (hy : y < N) :
  (x < y ↔ lm x 3 < lm y 3 ∨ lm x 3 = lm y 3 ∧ (lm x 2 < lm y 2 ∨ lm x 2 = lm y 2 ∧ (lm x 1 < lm y 1 ∨ lm x 1 = lm y 1 ∧ lm x 0 < lm y 0))) := by
 rw [← cmp_of (lm_lt x 0) (lm_lt x 1) (lm_lt x 2) (lm_lt y 0) (lm_lt y 1) (lm_lt y 2), num_lm hx, num_lm hy]
theorem cmpN_congr {a b x y : Nat} (h1 : x < y ↔ a < b) (h2 : y < x ↔ b < a) : cmpN x y = cmpN a b := by
 unfold cmpN
 simp only [h1, h2]
theorem cmp_at3 {x y : Nat} (hx : x < N) (hy : y < N) (h3 : lm x 3 ≠ lm y 3) : cmpN x y = cmpN (lm x 3) (lm y 3) :=
 cmpN_congr (by rw [lt_lm hx hy]; omega) (by rw [lt_lm hy hx]; omega)
theorem cmp_at2 {x y : Nat} (hx : x < N) (hy : y < N) (h3 : lm x 3 = lm y 3) (h2 : lm x 2 ≠ lm y 2) : cmpN x y = cmpN (lm x 2) (lm y 2) :=
 cmpN_congr (by rw [lt_lm hx hy]; omega) (by rw [lt_lm hy hx]; omega)
theorem cmp_at1 {x y : Nat} (hx : x < N) (hy : y < N) (h3 : lm x 3 = lm y 3) (h2 : lm x 2 = lm y 2) (h1 : lm x 1 ≠ lm y 1) : cmpN x y = cmpN (lm x 1) (lm y 1) :=
 cmpN_congr (by rw [lt_lm hx hy]; omega) (by rw [lt_lm hy hx]; omega)
theorem cmp_at0 {x y : Nat} (hx : x < N) (hy : y < N) (h3 : lm x 3 = lm y 3) (h2 : lm x 2 = lm y 2) (h1 : lm x 1 = lm y 1) : cmpN x y = cmpN (lm x 0) (lm y 0) :=
 cmpN_congr (by rw [lt_lm hx hy]; omega) (by rw [lt_lm hy hx]; omega)
theorem lt_at3 {x y : Nat} (hx : x < N) (hy : y < N) (h3 : lm x 3 ≠ lm y 3) : decide (x < y) = decide (lm x 3 < lm y 3) := by
 rw [decide_eq_decide, lt_lm hx hy]; omega
theorem lt_at2 {x y : Nat} (hx : x < N) (hy : y < N) (h3 : lm x 3 = lm y 3) (h2 : lm x 2 ≠ lm y 2) : decide (x < y) = decide (lm x 2 < lm y 2) := by
 rw [decide_eq_decide, lt_lm hx hy]; omega
theorem lt_at1 {x y : Nat} (hx : x < N) (hy : y < N) (h3 : lm x 3 = lm y 3) (h2 : lm x 2 = lm y 2) (h1 : lm x 1 ≠ lm y 1) : decide (x < y) = decide (lm x 1 < lm y 1) := by
 rw [decide_eq_decide, lt_lm hx hy]; omega
theorem lt_at0 {x y : Nat} (hx : x < N) (hy : y < N) (h3 : lm x 3 = lm y 3) (h2 : lm x 2 = lm y 2) (h1 : lm x 1 = lm y 1) : decide (x < y) = decide (lm x 0 < lm y 0) := by
 rw [decide_eq_decide, lt_lm hx hy]; omega
theorem half_num (a b c d : Nat) : num a b c d / 2 = num (a / 2 + 9223372036854775808 * (b % 2)) (b / 2 + 9223372036854775808 * (c % 2)) (c / 2 + 9223372036854775808 * (d % 2)) (d / 2) := by
 unfold num B
 omega
theorem half_lm {x : Nat} (hx : x < N) : lm (x / 2) 0 = lm x 0 / 2 + 9223372036854775808 * (lm x 1 % 2) ∧ lm (x / 2) 1 = lm x 1 / 2 + 9223372036854775808 * (lm x 2 % 2) ∧
  lm (x / 2) 2 = lm x 2 / 2 + 9223372036854775808 * (lm x 3 % 2) ∧ lm (x / 2) 3 = lm x 3 / 2 := by
 have h := half_num (lm x 0) (lm x 1) (lm x 2) (lm x 3)
 rw [num_lm hx] at h
 have b0 := lm_lt x 0
 have b1 := lm_lt x 1
 have b2 := lm_lt x 2
 have b3 := lm_lt x 3
 generalize lm x 0 = a at *
 generalize lm x 1 = b at *
 generalize lm x 2 = c at *
 generalize lm x 3 = d at *
 have c0 : a / 2 + 9223372036854775808 * (b % 2) < B := by unfold B at *; omega
 have c1 : b / 2 + 9223372036854775808 * (c % 2) < B := by unfold B at *; omega
 have c2 : c / 2 + 9223372036854775808 * (d % 2) < B := by unfold B at *; omega
 have c3 : d / 2 < B := by unfold B at *; omega
 rw [h]
 exact ⟨lm0 c0, lm1 c0 c1, lm2 c0 c1 c2, lm3 c0 c1 c2 c3⟩
def bit (x i : Nat) : Nat := x / 2 ^ i % 2
theorem bit_lt (x i : Nat) : bit x i < 2 := Nat.mod_lt _ (by decide)
theorem B_pow (q : Nat) : B ^ q = 2 ^ (64 * q) := by
 rw [show B = 2 ^ 64 from by decide, ← Nat.pow_mul]
theorem bit_lm (x q r : Nat) (hr : r < 64) : bit x (64 * q + r) = lm x q / 2 ^ r % 2 := by
 unfold bit lm
 rw [B_pow, Nat.pow_add, ← Nat.div_div_eq_div_mul]
 generalize x / 2 ^ (64 * q) = z
 rw [show B = 2 ^ r * (2 * 2 ^ (63 - r)) from by rw [show B = 2 ^ (r + (1 + (63 - r))) from by rw [show r + (1 + (63 - r)) = 64 from by omega]; decide, Nat.pow_add, Nat.pow_add]]
 rw [Nat.mod_mul_right_div_self, Nat.mod_mul_right_mod]
theorem B_pos : 0 < B := by decide
theorem Bp_pos (k : Nat) : 0 < B ^ k := Nat.pow_pos B_pos
def car (x y k : Nat) : Nat := (x % B ^ k + y % B ^ k) / B ^ k
theorem car_zero (x y : Nat) : car x y 0 = 0 := by unfold car; simp [Nat.mod_one]
theorem car_le (x y k : Nat) : car x y k ≤ 1 := by
 unfold car
 have h1 := Nat.mod_lt x (Bp_pos k)
 have h2 := Nat.mod_lt y (Bp_pos k)
 have : (x % B ^ k + y % B ^ k) / B ^ k < 2 := (Nat.div_lt_iff_lt_mul (Bp_pos k)).2 (by omega)
 omega
theorem lm_add (x y k : Nat) : lm (x + y) k = (lm x k + lm y k + car x y k) % B := by
 unfold lm car
 have h1 := Nat.div_add_mod x (B ^ k)
 have h2 := Nat.div_add_mod y (B ^ k)
 have h3 : (x + y) / B ^ k = x / B ^ k + y / B ^ k + (x % B ^ k + y % B ^ k) / B ^ k := by
  have e : x + y = (x % B ^ k + y % B ^ k) + B ^ k * (x / B ^ k + y / B ^ k) := by rw [Nat.mul_add]; omega
  rw [e, Nat.add_mul_div_left _ _ (Bp_pos k)]
  omega
 rw [h3]
 generalize x / B ^ k = a
 generalize y / B ^ k = b
 rw [Nat.add_mod (a + b), Nat.add_mod a b, Nat.add_mod (a % B + b % B)]
theorem mod_succ (x k : Nat) : x % B ^ (k + 1) = x % B ^ k + B ^ k * lm x k := by
 unfold lm
 rw [Nat.pow_succ, Nat.mod_mul]
theorem car_succ (x y k : Nat) : car x y (k + 1) = (lm x k + lm y k + car x y k) / B := by
 unfold car
 rw [mod_succ, mod_succ, Nat.pow_succ, ← Nat.div_div_eq_div_mul]
 have e : x % B ^ k + B ^ k * lm x k + (y % B ^ k + B ^ k * lm y k) = (x % B ^ k + y % B ^ k) + B ^ k * (lm x k + lm y k) := by rw [Nat.mul_add]; omega
 rw [e, Nat.add_mul_div_left _ _ (Bp_pos k)]
 congr 1
 omega
theorem lm_mod (x n k : Nat) (h : k < n) : lm (x % B ^ n) k = lm x k := by
 unfold lm
 obtain ⟨m, rfl⟩ : ∃ m, n = k + 1 + m := ⟨n - k - 1, by omega⟩
 rw [Nat.pow_add, Nat.pow_succ, Nat.mul_assoc, Nat.mod_mul_right_div_self]
 rw [Nat.mod_mul_right_mod]
theorem N_eq : N = B ^ 4 := by decide
theorem lm_modN (x k : Nat) (h : k < 4) : lm (x % N) k = lm x k := by rw [N_eq]; exact lm_mod x 4 k h
theorem car_four {x y : Nat} (hx : x < N) (hy : y < N) : car x y 4 = (if N ≤ x + y then 1 else 0) := by
 unfold car
 rw [← N_eq, Nat.mod_eq_of_lt hx, Nat.mod_eq_of_lt hy]
 unfold N at *
 split <;> omega
theorem limb_no (x y k : Nat) (h : car x y k = 0) : lm (x + y) k = (lm x k + lm y k) % B ∧ (car x y (k + 1) = 1 ↔ (lm x k + lm y k) % B < lm x k) := by
 have h1 := lm_add x y k
 have h2 := car_succ x y k
 have h3 := lm_lt x k
 have h4 := lm_lt y k
 rw [h] at h1 h2
 rw [h1, h2]
 generalize lm x k = a at *
 generalize lm y k = b at *
 unfold B at *
 omega
theorem limb_yes (x y k : Nat) (h : car x y k = 1) : lm (x + y) k = ((lm x k + lm y k) % B + 1) % B ∧ (car x y (k + 1) = 1 ↔ ((lm x k + lm y k) % B < lm x k ∨ lm (x + y) k = 0)) := by
 have h1 := lm_add x y k
 have h2 := car_succ x y k
 have h3 := lm_lt x k
 have h4 := lm_lt y k
 rw [h] at h1 h2
 rw [h1, h2]
 generalize lm x k = a at *
 generalize lm y k = b at *
 unfold B at *
 omega
def cyb (x y k : Nat) : Bool := car x y k == 1
theorem cyb_false {x y k : Nat} (h : cyb x y k = false) : car x y k = 0 := by
 have h1 := car_le x y k
 unfold cyb at h
 have : car x y k ≠ 1 := by simpa using h
 omega
theorem cyb_true {x y k : Nat} (h : cyb x y k = true) : car x y k = 1 := by unfold cyb at h; simpa using h
theorem cyb_iff {x y k : Nat} {p : Bool} (h : car x y k = 1 ↔ p = true) : cyb x y k = p := by
 unfold cyb
 rw [Bool.eq_iff_iff, ← h]
 simp
def W : Nat := 13407807929942597099574024998205846127479365820592393377723561443721764030073546976801874298166903427690031858186486050853753882811946569946433649006084096
end Go.Num
