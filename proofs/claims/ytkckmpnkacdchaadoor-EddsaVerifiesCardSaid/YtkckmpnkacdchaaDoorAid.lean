/- Small aids for the laws' walks. -/
import Derived.Test.YtkckmpnkacdchaaDoorLimb3
set_option linter.unusedVariables false
set_option linter.unusedSimpArgs false
namespace Go.Num
open Go.RowKit
theorem cmpN_bounds (x y : Nat) : -1 ≤ cmpN x y ∧ cmpN x y ≤ 1 := by
 unfold cmpN
 split
 ·omega
 ·split <;> omega
@[go_sem] theorem wrap_cmp (x y : Nat) : IntKind.i64.wrap (cmpN x y) = cmpN x y := by
 have h := cmpN_bounds x y
 rw [IntKind.wrap_i64]
 omega
theorem cmpN_neg (x y : Nat) : decide (cmpN x y < 0) = decide (x < y) := by
 rw [decide_eq_decide]
 unfold cmpN
 by_cases h1 : x < y
 ·rw [if_pos h1]; simp [h1]
 ·rw [if_neg h1]
  by_cases h2 : y < x
  ·rw [if_pos h2]; simp [h1]
  ·rw [if_neg h2]; simp [h1]
def bitI (x : Nat) (i : Int) : Int := if 0 ≤ i ∧ i ≤ 255 then (bit x i.toNat : Int) else 0
end Go.Num
namespace Go.Proofs.YtkckmpnkacdchaaDoor
open Go.RowKit Go.Num
theorem limb_bitI (x : Nat) (i : Int) (w : World) : Calls Tryd.prog 72 #[.agg #[.int .u64 (lm x 0), .int .u64 (lm x 1), .int .u64 (lm x 2), .int .u64 (lm x 3)], .int .i64 i] w fun e w' => e = .returned (.int .i64 (bitI x i)) ∧ Below w.heap.size w w' := by
 unfold bitI
 by_cases h : 0 ≤ i ∧ i ≤ 255
 ·rw [if_pos h]
  have hb := limb_bit x i.toNat (by omega) w
  rw [Int.toNat_of_nonneg h.1] at hb
  exact hb
 ·rw [if_neg h]
  exact limb_bit_out x i (by omega) w
theorem ref_bitI (x : Nat) (i : Int) (w : World) : Calls Tryd.prog 94 #[.agg #[.int .u64 (lm x 0), .int .u64 (lm x 1), .int .u64 (lm x 2), .int .u64 (lm x 3)], .int .i64 i] w fun e w' => e = .returned (.int .i64 (bitI x i)) ∧ Below w.heap.size w w' := by
 unfold bitI
 by_cases h : 0 ≤ i ∧ i ≤ 255
 ·rw [if_pos h]
  have hb := ref_bit x i.toNat (by omega) w
  rw [Int.toNat_of_nonneg h.1] at hb
  exact hb
 ·rw [if_neg h]
  exact ref_bit_out x i (by omega) w
end Go.Proofs.YtkckmpnkacdchaaDoor
