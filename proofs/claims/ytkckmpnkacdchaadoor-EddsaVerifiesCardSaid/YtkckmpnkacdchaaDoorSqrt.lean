/- Square roots modulo 2^255 - 19: the points of the curve with a given y. -/
import Derived.Test.YtkckmpnkacdchaaDoorPure
set_option linter.unusedVariables false
set_option linter.unusedSimpArgs false
namespace Go.Ed
open Go.Num
def E8 : Nat := 7237005577332262213973186563042994240829374041602535252466099000494570602494
theorem pow_addF (a : F) (m n : Nat) : a ^ (m + n) = a ^ m * a ^ n := by
 induction n with
 | zero => rw [Nat.add_zero]; grind
 | succ n ih =>
  rw [← Nat.add_assoc, show a ^ (m + n + 1) = a ^ (m + n) * a from by grind, ih, show a ^ (n + 1) = a ^ n * a from by grind]
  grind
theorem zz : (0 : F) * 0 = 0 := by decide +kernel
theorem dz (d : F) : d * 0 + 1 = 1 := by
 have h : d * 0 = 0 := by grind
 rw [h]
 decide +kernel
theorem den_ne (y : F) : D * (y * y) + 1 ≠ 0 := fun h => by
 by_cases hy : y = 0
 ·have e : D * (y * y) + 1 = 1 := by
   have h0 : y * y = 0 := by rw [hy]; exact zz
   rw [h0]
   exact dz D
  exact one_ne (e.symm.trans h)
 ·have h1 : I * I = D * (y * y) := by have := I_sq; grind
  exact D_nonsquare _ (square_of h1 (mul_inv hy))
theorem on_iff (x y : F) : On x y ↔ x * x = (y * y - 1) * inv (D * (y * y) + 1) := by
 have hi := mul_inv (den_ne y)
 unfold On
 generalize inv (D * (y * y) + 1) = v at *
 constructor
 ·intro h
  have h1 : x * x * (D * (y * y) + 1) = y * y - 1 := by grind
  grind
 ·intro h
  have h1 : x * x * (D * (y * y) + 1) = y * y - 1 := by grind
  grind
def Q4 : Nat := 14474011154664524427946373126085988481658748083205070504932198000989141204987
theorem Q4_two : Q4 + Q4 + (Q4 + Q4) = P - 1 := by decide +kernel
theorem E8_two : E8 + E8 = Q4 + 1 := by decide +kernel
theorem zero_E8 : (0 : F) ^ E8 = 0 := by
 have h : E8 = 7237005577332262213973186563042994240829374041602535252466099000494570602493 + 1 := by decide +kernel
 rw [h, pow_addF]
 generalize (0 : F) ^ 7237005577332262213973186563042994240829374041602535252466099000494570602493 = t
 grind
theorem root_or {w s : F} (h : s * s = w) : w ^ E8 * w ^ E8 = w ∨ (w ^ E8 * I) * (w ^ E8 * I) = w := by
 by_cases hs : s = 0
 ·left
  have hw : w = 0 := by rw [← h, hs]; grind
  rw [hw, zero_E8]; grind
 ·have h1 := F_fermat hs
  rw [← Q4_two] at h1
  have ht : w ^ Q4 * w ^ Q4 = 1 := by rw [← h, ← pow_addF, sq_pow]; exact h1
  have hx : w ^ E8 * w ^ E8 = w * w ^ Q4 := by
   rw [← pow_addF, E8_two, pow_addF, show w ^ 1 = w from by grind]
   grind
  generalize w ^ Q4 = t at *
  generalize w ^ E8 = e at *
  have hz : (t - 1) * (t + 1) = 0 := by grind
  rcases F_mul_eq_zero hz with h2 | h2
  ·left
   have : t = 1 := by grind
   rw [hx, this]; grind
  ·right
   have hi := I_sq
   have : t = -1 := by grind
   rw [this] at hx
   grind
theorem root_two {x e : F} (h : x * x = e * e) : x = e ∨ x = -e := by
 have hz : (x - e) * (x + e) = 0 := by grind
 rcases F_mul_eq_zero hz with h2 | h2
 ·left; grind
 ·right; grind
def rootF (w : F) : F := if w ^ E8 * w ^ E8 = w then w ^ E8 else w ^ E8 * I
theorem rootF_sq {w s : F} (h : s * s = w) : rootF w * rootF w = w := by
 unfold rootF
 split
 ·assumption
 ·rename_i hn
  rcases root_or h with h1 | h1
  ·exact absurd h1 hn
  ·exact h1
theorem on_root {x y : F} (h : On x y) : rootF ((y * y - 1) * inv (D * (y * y) + 1)) * rootF ((y * y - 1) * inv (D * (y * y) + 1)) = (y * y - 1) * inv (D * (y * y) + 1) := rootF_sq ((on_iff x y).1 h)
theorem neg_neg_val (a : F) : a = 0 ∨ (-a).val = P - a.val := by
 by_cases h : a = 0
 ·exact .inl h
 ·right
  have h0 : a.val ≠ 0 := fun e => h (Fin.ext e)
  have := a.isLt
  rw [Fin.neg_def]
  exact Nat.mod_eq_of_lt (by omega)
theorem on_unique {x x' y : F} (h : On x y) (h' : On x' y) (hp : x.val % 2 = x'.val % 2) : x = x' := by
 have e := (on_iff x y).1 h
 rw [← (on_iff x' y).1 h'] at e
 rcases root_two e with h1 | h1
 ·exact h1
 ·rcases neg_neg_val x' with h2 | h2
  ·rw [h1, h2]; grind
  ·exfalso
   rw [h1, h2] at hp
   have := x'.isLt
   have hP : P % 2 = 1 := by decide +kernel
   omega
end Go.Ed
