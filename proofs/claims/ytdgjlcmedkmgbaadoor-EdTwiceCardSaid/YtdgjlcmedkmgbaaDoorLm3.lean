/- Products, doubling and sums of eight limbs, limb by limb. Pure arithmetic. -/
import Derived.Test.YtdgjlcmedkmgbaaDoorLm2
import Derived.Laws.Entries
import Derived.Laws.Bits64
import Derived.IntWalk
set_option linter.unusedVariables false
set_option linter.unusedSimpArgs false
open Go
namespace Go.Num

theorem lm_zero (k : Nat) : lm 0 k = 0 := by
  unfold lm
  rw [Nat.zero_div]
  exact Nat.zero_mod _

theorem lm_hi {x k : Nat} (hx : x < N) (hk : 4 ≤ k) : lm x k = 0 := by
  unfold lm
  have : B ^ 4 ≤ B ^ k := Nat.pow_le_pow_right (by decide) hk
  rw [Nat.div_eq_of_lt (Nat.lt_of_lt_of_le (by rw [← N_eq]; exact hx) this)]
  exact Nat.zero_mod _

theorem lm_modW (x k : Nat) (h : k < 8) : lm (x % W) k = lm x k := by rw [W_eq]; exact lm_mod x 8 k h

/-- one limb of a sum, as program texts reckon it: carry as a bool -/
theorem wrap_add2 (a b : Nat) (ha : a < B) (hb : b < B) : IntKind.u64.wrap ((a : Int) + (b : Int)) = (((a + b) % B : Nat) : Int) := by
  rw [IntKind.wrap_u64]; unfold B; omega
theorem wrap_inc (a : Nat) (ha : a < B) : IntKind.u64.wrap ((a : Int) + 1) = (((a + 1) % B : Nat) : Int) := by
  rw [IntKind.wrap_u64]; unfold B; omega
theorem wrap_dbl (a : Nat) (ha : a < B) : IntKind.u64.wrap (2 * (a : Int)) = (((2 * a) % B : Nat) : Int) := by
  rw [IntKind.wrap_u64]; unfold B; omega

/-- limb k of x + y, and the carry out, by the carry in (the test is 'less than what was added') -/
theorem plus_sel (x y k : Nat) : ((lm (x + y) k : Nat) : Int) = if cyb x y k = true then IntKind.u64.wrap (IntKind.u64.wrap ((lm x k : Int) + (lm y k : Int)) + 1) else IntKind.u64.wrap ((lm x k : Int) + (lm y k : Int)) := by
  have a := lm_lt x k
  have b := lm_lt y k
  rw [wrap_add2 _ _ a b]
  cases h : cyb x y k with
  | false => obtain ⟨h1, _⟩ := add_no h; rw [if_neg (by simp), h1]
  | true => obtain ⟨h1, _⟩ := add_yes h; rw [if_pos rfl, wrap_inc _ (Nat.mod_lt _ B_pos), h1]

theorem lt_sym {a b : Nat} (ha : a < B) (hb : b < B) : ((a + b) % B < a ↔ (a + b) % B < b) := by unfold B at *; omega

theorem plus_selB (x y k : Nat) : cyb x y (k + 1) = if cyb x y k = true then (if decide (IntKind.u64.wrap ((lm x k : Int) + (lm y k : Int)) < (lm y k : Int)) = true then true else (IntKind.u64.wrap (IntKind.u64.wrap ((lm x k : Int) + (lm y k : Int)) + 1) == 0))
    else decide (IntKind.u64.wrap ((lm x k : Int) + (lm y k : Int)) < (lm y k : Int)) := by
  have a := lm_lt x k
  have b := lm_lt y k
  have hs := lt_sym a b
  rw [wrap_add2 _ _ a b]
  cases h : cyb x y k with
  | false =>
    obtain ⟨_, h2⟩ := add_no h
    rw [if_neg (by simp), h2, decide_eq_decide, hs]
    omega
  | true =>
    obtain ⟨h1, h2⟩ := add_yes h
    rw [if_pos rfl, wrap_inc _ (Nat.mod_lt _ B_pos), h2, h1]
    rw [Bool.eq_iff_iff, decide_eq_true_iff, hs]
    by_cases hc : (lm x k + lm y k) % B < lm y k
    · rw [if_pos (decide_eq_true (by exact Int.ofNat_lt.2 hc))]; simp [hc]
    · rw [if_neg (by rw [decide_eq_true_iff]; exact fun h => hc (Int.ofNat_lt.1 h)), beq_iff_eq]
      constructor
      · rintro (h | h)
        · exact absurd h hc
        · exact_mod_cast h
      · intro h; exact .inr (by exact_mod_cast h)

/-- limb k of 2 x -/
theorem lm_dbl0 (x : Nat) : lm (2 * x) 0 = (2 * lm x 0) % B := by
  unfold lm
  rw [Nat.pow_zero, Nat.div_one, Nat.div_one]
  unfold B; omega

theorem dbl_at {z u c : Nat} (hz : z < B) (hc : c = (u + u) / B) : (z + z + c) % B = ((2 * z) % B + c) % B := by unfold B at *; omega

theorem car_self (x k : Nat) : car x x (k + 1) = (lm x k + lm x k) / B := by
  rw [car_succ]
  have h := car_le x x k
  have a := lm_lt x k
  generalize lm x k = z at *
  generalize car x x k = c at *
  unfold B at *
  omega

theorem dbl_sel (x k : Nat) : ((lm (2 * x) (k + 1) : Nat) : Int) = if decide ((lm x k : Int) ≥ 9223372036854775808) = true then IntKind.u64.wrap (IntKind.u64.wrap (2 * (lm x (k + 1) : Int)) + 1) else IntKind.u64.wrap (2 * (lm x (k + 1) : Int)) := by
  have a := lm_lt x (k + 1)
  have b := lm_lt x k
  have e : lm (2 * x) (k + 1) = ((2 * lm x (k + 1)) % B + (lm x k + lm x k) / B) % B := by
    rw [show 2 * x = x + x by omega, lm_add, car_self]
    exact dbl_at a rfl
  rw [wrap_dbl _ a, wrap_inc _ (Nat.mod_lt _ B_pos), e]
  have hm := Nat.mod_lt (2 * lm x (k + 1)) B_pos
  generalize (2 * lm x (k + 1)) % B = z at *
  generalize lm x k = u at *
  by_cases hu : (u : Int) ≥ 9223372036854775808
  · have h1 : (u + u) / B = 1 := by unfold B at *; omega
    rw [if_pos (decide_eq_true hu), h1]
  · have h1 : (u + u) / B = 0 := by unfold B at *; omega
    rw [if_neg (by rw [decide_eq_true_iff]; exact hu), h1, Nat.add_zero, Nat.mod_eq_of_lt hm]

/-- a sum as the law's 'sum' reckons it: the carry as a number -/
theorem sum_sel (x y k : Nat) : ((car x y (k + 1) : Nat) : Int) = if (if decide (IntKind.u64.wrap ((lm x k : Int) + (lm y k : Int)) < (lm x k : Int)) = true then true else decide (IntKind.u64.wrap (IntKind.u64.wrap ((lm x k : Int) + (lm y k : Int)) + (car x y k : Int)) < (car x y k : Int))) = true then 1 else 0 := by
  have a := lm_lt x k
  have b := lm_lt y k
  have c := car_le x y k
  rw [wrap_add2 _ _ a b, wrap_add2 _ _ (Nat.mod_lt _ B_pos) (by unfold B; omega), car_succ]
  generalize lm x k = u at *
  generalize lm y k = z at *
  generalize car x y k = d at *
  unfold B at *
  by_cases h1 : (u + z) % 18446744073709551616 < u
  · rw [if_pos (show decide ((((u + z) % 18446744073709551616 : Nat) : Int) < (u : Int)) = true from decide_eq_true (by exact Int.ofNat_lt.2 h1)), if_pos rfl]; omega
  · rw [if_neg (show ¬ (decide ((((u + z) % 18446744073709551616 : Nat) : Int) < (u : Int)) = true) by rw [decide_eq_true_iff]; exact fun h => h1 (Int.ofNat_lt.1 h))]
    by_cases h2 : ((u + z) % 18446744073709551616 + d) % 18446744073709551616 < d
    · rw [if_pos (decide_eq_true (by exact Int.ofNat_lt.2 h2))]; omega
    · rw [if_neg (by rw [decide_eq_true_iff]; exact fun h => h2 (Int.ofNat_lt.1 h))]; omega

theorem sum_res (x y k : Nat) : IntKind.u64.wrap (IntKind.u64.wrap ((lm x k : Int) + (lm y k : Int)) + (car x y k : Int)) = ((lm (x + y) k : Nat) : Int) := by
  have c := car_le x y k
  rw [wrap_add2 _ _ (lm_lt x k) (lm_lt y k), wrap_add2 _ _ (Nat.mod_lt _ B_pos) (by unfold B; omega), lm_add]
  generalize lm x k = u
  generalize lm y k = z
  generalize car x y k = d at *
  unfold B
  omega

/-! ### products -/
/-- one step of a product: o + a b + c, low and high -/
theorem mac {a b o c h l s1 k1 s2 k2 : Nat} (ha : a < B) (hb : b < B) (ho : o < B) (hc : c < B) (hh : h = a * b / B) (hl : l = a * b % B) (hs1 : s1 = (l + o + 0) % B) (hk1 : k1 = (l + o + 0) / B) (hs2 : s2 = (s1 + c + 0) % B) (hk2 : k2 = (s1 + c + 0) / B) :
    h + k1 + k2 < B ∧ s2 < B ∧ s2 + B * (h + k1 + k2) = o + a * b + c := by
  have hab : a * b ≤ (B - 1) * (B - 1) := Nat.mul_le_mul (by omega) (by omega)
  have e := Nat.div_add_mod (a * b) B
  have m := Nat.mod_lt (a * b) B_pos
  rw [← hh, ← hl] at e
  rw [← hl] at m
  generalize a * b = p at *
  unfold B at *
  omega

theorem wrap3 {h k1 k2 : Nat} (hr : h + k1 + k2 < B) : IntKind.u64.wrap (IntKind.u64.wrap ((h : Int) + (k1 : Int)) + (k2 : Int)) = ((h + k1 + k2 : Nat) : Int) := by
  rw [IntKind.wrap_u64, IntKind.wrap_u64]
  unfold B at hr
  omega

/-- the number of eight limbs -/
def num8 (a b c d e f g h : Nat) : Nat := num a b c d + N * num e f g h

theorem lm_num8 {a b c d e f g h : Nat} (ha : a < B) (hb : b < B) (hc : c < B) (hd : d < B) (he : e < B) (hf : f < B) (hg : g < B) (hh : h < B) :
    lm (num8 a b c d e f g h) 0 = a ∧ lm (num8 a b c d e f g h) 1 = b ∧ lm (num8 a b c d e f g h) 2 = c ∧ lm (num8 a b c d e f g h) 3 = d ∧
    lm (num8 a b c d e f g h) 4 = e ∧ lm (num8 a b c d e f g h) 5 = f ∧ lm (num8 a b c d e f g h) 6 = g ∧ lm (num8 a b c d e f g h) 7 = h := by
  have lo : ∀ k, k < 4 → lm (num8 a b c d e f g h) k = lm (num a b c d) k := by
    intro k hk
    rw [← lm_modN _ k hk]
    unfold num8
    rw [Nat.add_mul_mod_self_left, Nat.mod_eq_of_lt (num_lt ha hb hc hd)]
  have hi : ∀ k, lm (num8 a b c d e f g h) (k + 4) = lm (num e f g h) k := by
    intro k
    unfold lm
    rw [Nat.pow_add, Nat.mul_comm, ← Nat.div_div_eq_div_mul, ← N_eq]
    unfold num8
    rw [Nat.add_mul_div_left _ _ (by decide), Nat.div_eq_of_lt (num_lt ha hb hc hd), Nat.zero_add]
  refine ⟨?_, ?_, ?_, ?_, ?_, ?_, ?_, ?_⟩
  · rw [lo 0 (by decide), lm0 ha]
  · rw [lo 1 (by decide), lm1 ha hb]
  · rw [lo 2 (by decide), lm2 ha hb hc]
  · rw [lo 3 (by decide), lm3 ha hb hc hd]
  · rw [hi 0, lm0 he]
  · rw [hi 1, lm1 he hf]
  · rw [hi 2, lm2 he hf hg]
  · rw [hi 3, lm3 he hf hg hh]

/-- a product's row: a (b0 .. b3) added to o0 .. o3 -/
theorem row4 {a b0 b1 b2 b3 o0 o1 o2 o3 s0 s1 s2 s3 r0 r1 r2 r3 : Nat} (h0 : s0 + B * r0 = o0 + a * b0 + 0) (h1 : s1 + B * r1 = o1 + a * b1 + r0) (h2 : s2 + B * r2 = o2 + a * b2 + r1) (h3 : s3 + B * r3 = o3 + a * b3 + r2) :
    num s0 s1 s2 s3 + N * r3 = num o0 o1 o2 o3 + a * num b0 b1 b2 b3 := by
  have e : a * num b0 b1 b2 b3 = a * b0 + B * (a * b1) + B * B * (a * b2) + B * B * B * (a * b3) := by
    unfold num
    simp only [Nat.mul_add, Nat.mul_left_comm a]
  rw [e]
  generalize a * b0 = p0 at *
  generalize a * b1 = p1 at *
  generalize a * b2 = p2 at *
  generalize a * b3 = p3 at *
  unfold num N B at *
  omega

theorem rows4 {a0 a1 a2 a3 y s00 s01 s02 s03 r0 s10 s11 s12 s13 r1 s20 s21 s22 s23 r2 s30 s31 s32 s33 r3 : Nat}
    (h0 : num s00 s01 s02 s03 + N * r0 = num 0 0 0 0 + a0 * y) (h1 : num s10 s11 s12 s13 + N * r1 = num s01 s02 s03 r0 + a1 * y)
    (h2 : num s20 s21 s22 s23 + N * r2 = num s11 s12 s13 r1 + a2 * y) (h3 : num s30 s31 s32 s33 + N * r3 = num s21 s22 s23 r2 + a3 * y) :
    num8 s00 s10 s20 s30 s31 s32 s33 r3 = num a0 a1 a2 a3 * y := by
  have e : num a0 a1 a2 a3 * y = a0 * y + B * (a1 * y) + B * B * (a2 * y) + B * B * B * (a3 * y) := by
    unfold num
    simp only [Nat.add_mul, Nat.mul_assoc]
  rw [e]
  generalize a0 * y = p0 at *
  generalize a1 * y = p1 at *
  generalize a2 * y = p2 at *
  generalize a3 * y = p3 at *
  unfold num8 num N B at *
  omega

/-- high and low limb of a product, by halves of limbs -/
theorem mul64 {x y x0 x1 y0 y1 w0 t w1 hi : Nat} (hx : x < B) (hy : y < B) (ex0 : x0 = x % 4294967296) (ex1 : x1 = x / 4294967296) (ey0 : y0 = y % 4294967296) (ey1 : y1 = y / 4294967296)
    (ew0 : w0 = x0 * y0) (et : t = x1 * y0 + w0 / 4294967296) (ew1 : w1 = t % 4294967296 + x0 * y1) (eh : hi = x1 * y1 + t / 4294967296 + w1 / 4294967296) :
    w0 < B ∧ x1 * y0 < B ∧ t < B ∧ x0 * y1 < B ∧ w1 < B ∧ x1 * y1 < B ∧ x1 * y1 + t / 4294967296 < B ∧ hi < B ∧ hi = x * y / B := by
  have bx0 : x0 ≤ 4294967295 := by omega
  have bx1 : x1 ≤ 4294967295 := by unfold B at hx; omega
  have by0 : y0 ≤ 4294967295 := by omega
  have by1 : y1 ≤ 4294967295 := by unfold B at hy; omega
  have m00 : x0 * y0 ≤ 4294967295 * 4294967295 := Nat.mul_le_mul bx0 by0
  have m10 : x1 * y0 ≤ 4294967295 * 4294967295 := Nat.mul_le_mul bx1 by0
  have m01 : x0 * y1 ≤ 4294967295 * 4294967295 := Nat.mul_le_mul bx0 by1
  have m11 : x1 * y1 ≤ 4294967295 * 4294967295 := Nat.mul_le_mul bx1 by1
  have ex : x = 4294967296 * x1 + x0 := by omega
  have ey : y = 4294967296 * y1 + y0 := by omega
  have e : x * y = 18446744073709551616 * (x1 * y1) + 4294967296 * (x1 * y0) + 4294967296 * (x0 * y1) + x0 * y0 := by
    rw [ex, ey]
    simp only [Nat.add_mul, Nat.mul_add, Nat.mul_assoc, Nat.mul_left_comm _ 4294967296]
    omega
  clear ex0 ex1 ey0 ey1 ex ey
  rw [e]
  subst ew0
  generalize x0 * y0 = p00 at *
  generalize x1 * y0 = p10 at *
  generalize x0 * y1 = p01 at *
  generalize x1 * y1 = p11 at *
  unfold B at *
  omega

end Go.Num
