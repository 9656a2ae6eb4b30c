/- The walks of limb.Bit, Half, Pick and of the reference's Bit, Half, Pick, Cmp. -/
import Derived.Test.YtkckmpnkacdchaaDoorLimb2
set_option linter.unusedVariables false
set_option linter.unusedSimpArgs false
set_option maxHeartbeats 4000000
namespace Go.Proofs.YtkckmpnkacdchaaDoor
open Go.RowKit Go.Num
theorem limb_bit_0 (x i : Nat) (hq : (i : Int) / 64 = 0) (w : World) :
  Calls Tryd.prog 72 #[.agg #[.int .u64 (lm x 0), .int .u64 (lm x 1), .int .u64 (lm x 2), .int .u64 (lm x 3)], .int .i64 i] w fun e w' => e = .returned (.int .i64 (bit x i)) ∧ Below w.heap.size w w' := by
 have hb : bits .and .u64 ((lm x 0 : Int) / 2 ^ (i % 64)) 1 = (bit x i : Int) := by
  rw [and_one _ _ (lm_lt x 0), ← bit_lm x 0 (i % 64) (Nat.mod_lt _ (by decide)), show 64 * 0 + i % 64 = i by omega]
 have hl := bit_lt x i
 go_enter Tryd.func72, Tryd.ntmps72
 go_wp2
 go_ret
 refine ⟨rfl, ?_⟩
 (repeat' (first | (with_reducible exact Below.refl _ _) | (with_reducible assumption) | (with_reducible refine Below.drewN' ?_ _) | (with_reducible refine Below.alloc ?_ ?_ _) | (with_reducible refine Below.drew ?_) | (with_reducible refine Below.setCell ?_ ?_ _) | go_size))
theorem limb_bit_1 (x i : Nat) (hq : (i : Int) / 64 = 1) (w : World) :
  Calls Tryd.prog 72 #[.agg #[.int .u64 (lm x 0), .int .u64 (lm x 1), .int .u64 (lm x 2), .int .u64 (lm x 3)], .int .i64 i] w fun e w' => e = .returned (.int .i64 (bit x i)) ∧ Below w.heap.size w w' := by
 have hb : bits .and .u64 ((lm x 1 : Int) / 2 ^ (i % 64)) 1 = (bit x i : Int) := by
  rw [and_one _ _ (lm_lt x 1), ← bit_lm x 1 (i % 64) (Nat.mod_lt _ (by decide)), show 64 * 1 + i % 64 = i by omega]
 have hl := bit_lt x i
 go_enter Tryd.func72, Tryd.ntmps72
 go_wp2
 go_ret
 refine ⟨rfl, ?_⟩
 (repeat' (first | (with_reducible exact Below.refl _ _) | (with_reducible assumption) | (with_reducible refine Below.drewN' ?_ _) | (with_reducible refine Below.alloc ?_ ?_ _) | (with_reducible refine Below.drew ?_) | (with_reducible refine Below.setCell ?_ ?_ _) | go_size))
theorem limb_bit_2 (x i : Nat) (hq : (i : Int) / 64 = 2) (w : World) :
  Calls Tryd.prog 72 #[.agg #[.int .u64 (lm x 0), .int .u64 (lm x 1), .int .u64 (lm x 2), .int .u64 (lm x 3)], .int .i64 i] w fun e w' => e = .returned (.int .i64 (bit x i)) ∧ Below w.heap.size w w' := by
 have hb : bits .and .u64 ((lm x 2 : Int) / 2 ^ (i % 64)) 1 = (bit x i : Int) := by
  rw [and_one _ _ (lm_lt x 2), ← bit_lm x 2 (i % 64) (Nat.mod_lt _ (by decide)), show 64 * 2 + i % 64 = i by omega]
 have hl := bit_lt x i
 go_enter Tryd.func72, Tryd.ntmps72
 go_wp2
 go_ret
 refine ⟨rfl, ?_⟩
 (repeat' (first | (with_reducible exact Below.refl _ _) | (with_reducible assumption) | (with_reducible refine Below.drewN' ?_ _) | (with_reducible refine Below.alloc ?_ ?_ _) | (with_reducible refine Below.drew ?_) | (with_reducible refine Below.setCell ?_ ?_ _) | go_size))
theorem limb_bit_3 (x i : Nat) (hq : (i : Int) / 64 = 3) (w : World) :
  Calls Tryd.prog 72 #[.agg #[.int .u64 (lm x 0), .int .u64 (lm x 1), .int .u64 (lm x 2), .int .u64 (lm x 3)], .int .i64 i] w fun e w' => e = .returned (.int .i64 (bit x i)) ∧ Below w.heap.size w w' := by
 have hb : bits .and .u64 ((lm x 3 : Int) / 2 ^ (i % 64)) 1 = (bit x i : Int) := by
  rw [and_one _ _ (lm_lt x 3), ← bit_lm x 3 (i % 64) (Nat.mod_lt _ (by decide)), show 64 * 3 + i % 64 = i by omega]
 have hl := bit_lt x i
 go_enter Tryd.func72, Tryd.ntmps72
 go_wp2
 go_ret
 refine ⟨rfl, ?_⟩
 (repeat' (first | (with_reducible exact Below.refl _ _) | (with_reducible assumption) | (with_reducible refine Below.drewN' ?_ _) | (with_reducible refine Below.alloc ?_ ?_ _) | (with_reducible refine Below.drew ?_) | (with_reducible refine Below.setCell ?_ ?_ _) | go_size))
theorem limb_bit (x i : Nat) (h0 : i ≤ 255) (w : World) :
  Calls Tryd.prog 72 #[.agg #[.int .u64 (lm x 0), .int .u64 (lm x 1), .int .u64 (lm x 2), .int .u64 (lm x 3)], .int .i64 i] w fun e w' => e = .returned (.int .i64 (bit x i)) ∧ Below w.heap.size w w' := by
 obtain h | h | h | h : (i : Int) / 64 = 0 ∨ (i : Int) / 64 = 1 ∨ (i : Int) / 64 = 2 ∨ (i : Int) / 64 = 3 := by omega
 ·exact limb_bit_0 x i h w
 ·exact limb_bit_1 x i h w
 ·exact limb_bit_2 x i h w
 ·exact limb_bit_3 x i h w
theorem limb_bit_out (x : Nat) (i : Int) (h : i < 0 ∨ 255 < i) (w : World) :
  Calls Tryd.prog 72 #[.agg #[.int .u64 (lm x 0), .int .u64 (lm x 1), .int .u64 (lm x 2), .int .u64 (lm x 3)], .int .i64 i] w fun e w' => e = .returned (.int .i64 0) ∧ Below w.heap.size w w' := by
 by_cases h1 : i < 0
 ·go_enter Tryd.func72, Tryd.ntmps72
  go_wp2
  go_ret
  refine ⟨rfl, ?_⟩
  (repeat' (first | (with_reducible exact Below.refl _ _) | (with_reducible assumption) | (with_reducible refine Below.drewN' ?_ _) | (with_reducible refine Below.alloc ?_ ?_ _) | (with_reducible refine Below.drew ?_) | (with_reducible refine Below.setCell ?_ ?_ _) | go_size))
 ·have h2 : 255 < i := by omega
  go_enter Tryd.func72, Tryd.ntmps72
  go_wp2
  go_ret
  refine ⟨rfl, ?_⟩
  (repeat' (first | (with_reducible exact Below.refl _ _) | (with_reducible assumption) | (with_reducible refine Below.drewN' ?_ _) | (with_reducible refine Below.alloc ?_ ?_ _) | (with_reducible refine Below.drew ?_) | (with_reducible refine Below.setCell ?_ ?_ _) | go_size))
theorem ref_bit_0 (x i : Nat) (hq : (i : Int) / 64 = 0) (w : World) :
  Calls Tryd.prog 94 #[.agg #[.int .u64 (lm x 0), .int .u64 (lm x 1), .int .u64 (lm x 2), .int .u64 (lm x 3)], .int .i64 i] w fun e w' => e = .returned (.int .i64 (bit x i)) ∧ Below w.heap.size w w' := by
 have hb : lm x 0 / 2 ^ (i % 64) % 2 = bit x i := by
  rw [← bit_lm x 0 (i % 64) (Nat.mod_lt _ (by decide)), show 64 * 0 + i % 64 = i by omega]
 have HB := Lib.hid hb
 clear hb
 go_enter Tryd.func94, Tryd.ntmps94
 go_wp2
 go_loop [5, 6] (fun v k => ∃ n : Nat, n ≤ i % 64 ∧ k = .int .i64 n ∧ v = .int .u64 ((lm x 0 / 2 ^ n : Nat) : Int)) (fun _ k => i % 64 - (intOf k).toNat)
 case atStart => exact ⟨0, Nat.zero_le _, rfl, by rw [Nat.pow_zero, Nat.div_one]⟩
 case round =>
  obtain ⟨n, hn, rfl, rfl⟩ := hrel
  by_cases hlt : n < i % 64
  ·have hm : i % 64 < 64 := Nat.mod_lt _ (by decide)
   have hs : lm x 0 / 2 ^ n / 2 = lm x 0 / 2 ^ (n + 1) := by rw [Nat.pow_succ, Nat.div_div_eq_div_mul]
   have HS := Lib.hid hs
   clear hs
   have HV := Lib.hid (Nat.lt_of_le_of_lt (Nat.div_le_self (lm x 0) (2 ^ n)) (lm_lt x 0))
   generalize lm x 0 / 2 ^ n = v at *
   go_wp2
   go_round
   case rel =>
    refine ⟨n + 1, by omega, by go_num, ?_⟩
    have hv := HV.out
    unfold B at hv
    rw [← HS.out, IntKind.wrap_u64, show ((v : Int) / 2) % 18446744073709551616 = ((v / 2 : Nat) : Int) from by omega]
   case measure => simp [intOf]; omega
  ·obtain rfl : n = i % 64 := by omega
   have hbl := HB.out
   have hl := bit_lt x i
   generalize lm x 0 / 2 ^ (i % 64) = v at *
   have hv : (v : Int) % 2 = (bit x i : Int) := by omega
   clear HB hbl
   go_wp2
   go_ret
   refine ⟨rfl, ?_⟩
   (repeat' (first | (with_reducible exact Below.refl _ _) | (with_reducible assumption) | (with_reducible refine Below.drewN' ?_ _) | (with_reducible refine Below.alloc ?_ ?_ _) | (with_reducible refine Below.drew ?_) | (with_reducible refine Below.setCell ?_ ?_ _) | go_size))
theorem ref_bit_1 (x i : Nat) (hq : (i : Int) / 64 = 1) (w : World) :
  Calls Tryd.prog 94 #[.agg #[.int .u64 (lm x 0), .int .u64 (lm x 1), .int .u64 (lm x 2), .int .u64 (lm x 3)], .int .i64 i] w fun e w' => e = .returned (.int .i64 (bit x i)) ∧ Below w.heap.size w w' := by
 have hb : lm x 1 / 2 ^ (i % 64) % 2 = bit x i := by
  rw [← bit_lm x 1 (i % 64) (Nat.mod_lt _ (by decide)), show 64 * 1 + i % 64 = i by omega]
 have HB := Lib.hid hb
 clear hb
 go_enter Tryd.func94, Tryd.ntmps94
 go_wp2
 go_loop [5, 6] (fun v k => ∃ n : Nat, n ≤ i % 64 ∧ k = .int .i64 n ∧ v = .int .u64 ((lm x 1 / 2 ^ n : Nat) : Int)) (fun _ k => i % 64 - (intOf k).toNat)
 case atStart => exact ⟨0, Nat.zero_le _, rfl, by rw [Nat.pow_zero, Nat.div_one]⟩
 case round =>
  obtain ⟨n, hn, rfl, rfl⟩ := hrel
  by_cases hlt : n < i % 64
  ·have hm : i % 64 < 64 := Nat.mod_lt _ (by decide)
   have hs : lm x 1 / 2 ^ n / 2 = lm x 1 / 2 ^ (n + 1) := by rw [Nat.pow_succ, Nat.div_div_eq_div_mul]
   have HS := Lib.hid hs
   clear hs
   have HV := Lib.hid (Nat.lt_of_le_of_lt (Nat.div_le_self (lm x 1) (2 ^ n)) (lm_lt x 1))
   generalize lm x 1 / 2 ^ n = v at *
   go_wp2
   go_round
   case rel =>
    refine ⟨n + 1, by omega, by go_num, ?_⟩
    have hv := HV.out
    unfold B at hv
    rw [← HS.out, IntKind.wrap_u64, show ((v : Int) / 2) % 18446744073709551616 = ((v / 2 : Nat) : Int) from by omega]
   case measure => simp [intOf]; omega
  ·obtain rfl : n = i % 64 := by omega
   have hbl := HB.out
   have hl := bit_lt x i
   generalize lm x 1 / 2 ^ (i % 64) = v at *
   have hv : (v : Int) % 2 = (bit x i : Int) := by omega
   clear HB hbl
   go_wp2
   go_ret
   refine ⟨rfl, ?_⟩
   (repeat' (first | (with_reducible exact Below.refl _ _) | (with_reducible assumption) | (with_reducible refine Below.drewN' ?_ _) | (with_reducible refine Below.alloc ?_ ?_ _) | (with_reducible refine Below.drew ?_) | (with_reducible refine Below.setCell ?_ ?_ _) | go_size))
theorem ref_bit_2 (x i : Nat) (hq : (i : Int) / 64 = 2) (w : World) :
  Calls Tryd.prog 94 #[.agg #[.int .u64 (lm x 0), .int .u64 (lm x 1), .int .u64 (lm x 2), .int .u64 (lm x 3)], .int .i64 i] w fun e w' => e = .returned (.int .i64 (bit x i)) ∧ Below w.heap.size w w' := by
 have hb : lm x 2 / 2 ^ (i % 64) % 2 = bit x i := by
  rw [← bit_lm x 2 (i % 64) (Nat.mod_lt _ (by decide)), show 64 * 2 + i % 64 = i by omega]
 have HB := Lib.hid hb
 clear hb
 go_enter Tryd.func94, Tryd.ntmps94
 go_wp2
 go_loop [5, 6] (fun v k => ∃ n : Nat, n ≤ i % 64 ∧ k = .int .i64 n ∧ v = .int .u64 ((lm x 2 / 2 ^ n : Nat) : Int)) (fun _ k => i % 64 - (intOf k).toNat)
 case atStart => exact ⟨0, Nat.zero_le _, rfl, by rw [Nat.pow_zero, Nat.div_one]⟩
 case round =>
  obtain ⟨n, hn, rfl, rfl⟩ := hrel
  by_cases hlt : n < i % 64
  ·have hm : i % 64 < 64 := Nat.mod_lt _ (by decide)
   have hs : lm x 2 / 2 ^ n / 2 = lm x 2 / 2 ^ (n + 1) := by rw [Nat.pow_succ, Nat.div_div_eq_div_mul]
   have HS := Lib.hid hs
   clear hs
   have HV := Lib.hid (Nat.lt_of_le_of_lt (Nat.div_le_self (lm x 2) (2 ^ n)) (lm_lt x 2))
   generalize lm x 2 / 2 ^ n = v at *
   go_wp2
   go_round
   case rel =>
    refine ⟨n + 1, by omega, by go_num, ?_⟩
    have hv := HV.out
    unfold B at hv
    rw [← HS.out, IntKind.wrap_u64, show ((v : Int) / 2) % 18446744073709551616 = ((v / 2 : Nat) : Int) from by omega]
   case measure => simp [intOf]; omega
  ·obtain rfl : n = i % 64 := by omega
   have hbl := HB.out
   have hl := bit_lt x i
   generalize lm x 2 / 2 ^ (i % 64) = v at *
   have hv : (v : Int) % 2 = (bit x i : Int) := by omega
   clear HB hbl
   go_wp2
   go_ret
   refine ⟨rfl, ?_⟩
   (repeat' (first | (with_reducible exact Below.refl _ _) | (with_reducible assumption) | (with_reducible refine Below.drewN' ?_ _) | (with_reducible refine Below.alloc ?_ ?_ _) | (with_reducible refine Below.drew ?_) | (with_reducible refine Below.setCell ?_ ?_ _) | go_size))
theorem ref_bit_3 (x i : Nat) (hq : (i : Int) / 64 = 3) (w : World) :
  Calls Tryd.prog 94 #[.agg #[.int .u64 (lm x 0), .int .u64 (lm x 1), .int .u64 (lm x 2), .int .u64 (lm x 3)], .int .i64 i] w fun e w' => e = .returned (.int .i64 (bit x i)) ∧ Below w.heap.size w w' := by
 have hb : lm x 3 / 2 ^ (i % 64) % 2 = bit x i := by
  rw [← bit_lm x 3 (i % 64) (Nat.mod_lt _ (by decide)), show 64 * 3 + i % 64 = i by omega]
 have HB := Lib.hid hb
 clear hb
 go_enter Tryd.func94, Tryd.ntmps94
 go_wp2
 go_loop [5, 6] (fun v k => ∃ n : Nat, n ≤ i % 64 ∧ k = .int .i64 n ∧ v = .int .u64 ((lm x 3 / 2 ^ n : Nat) : Int)) (fun _ k => i % 64 - (intOf k).toNat)
 case atStart => exact ⟨0, Nat.zero_le _, rfl, by rw [Nat.pow_zero, Nat.div_one]⟩
 case round =>
  obtain ⟨n, hn, rfl, rfl⟩ := hrel
  by_cases hlt : n < i % 64
  ·have hm : i % 64 < 64 := Nat.mod_lt _ (by decide)
   have hs : lm x 3 / 2 ^ n / 2 = lm x 3 / 2 ^ (n + 1) := by rw [Nat.pow_succ, Nat.div_div_eq_div_mul]
   have HS := Lib.hid hs
   clear hs
   have HV := Lib.hid (Nat.lt_of_le_of_lt (Nat.div_le_self (lm x 3) (2 ^ n)) (lm_lt x 3))
   generalize lm x 3 / 2 ^ n = v at *
   go_wp2
   go_round
   case rel =>
    refine ⟨n + 1, by omega, by go_num, ?_⟩
    have hv := HV.out
    unfold B at hv
    rw [← HS.out, IntKind.wrap_u64, show ((v : Int) / 2) % 18446744073709551616 = ((v / 2 : Nat) : Int) from by omega]
   case measure => simp [intOf]; omega
  ·obtain rfl : n = i % 64 := by omega
   have hbl := HB.out
   have hl := bit_lt x i
   generalize lm x 3 / 2 ^ (i % 64) = v at *
   have hv : (v : Int) % 2 = (bit x i : Int) := by omega
   clear HB hbl
   go_wp2
   go_ret
   refine ⟨rfl, ?_⟩
   (repeat' (first | (with_reducible exact Below.refl _ _) | (with_reducible assumption) | (with_reducible refine Below.drewN' ?_ _) | (with_reducible refine Below.alloc ?_ ?_ _) | (with_reducible refine Below.drew ?_) | (with_reducible refine Below.setCell ?_ ?_ _) | go_size))
theorem ref_bit (x i : Nat) (h0 : i ≤ 255) (w : World) :
  Calls Tryd.prog 94 #[.agg #[.int .u64 (lm x 0), .int .u64 (lm x 1), .int .u64 (lm x 2), .int .u64 (lm x 3)], .int .i64 i] w fun e w' => e = .returned (.int .i64 (bit x i)) ∧ Below w.heap.size w w' := by
 obtain h | h | h | h : (i : Int) / 64 = 0 ∨ (i : Int) / 64 = 1 ∨ (i : Int) / 64 = 2 ∨ (i : Int) / 64 = 3 := by omega
 ·exact ref_bit_0 x i h w
 ·exact ref_bit_1 x i h w
 ·exact ref_bit_2 x i h w
 ·exact ref_bit_3 x i h w
theorem ref_bit_out (x : Nat) (i : Int) (h : i < 0 ∨ 255 < i) (w : World) :
  Calls Tryd.prog 94 #[.agg #[.int .u64 (lm x 0), .int .u64 (lm x 1), .int .u64 (lm x 2), .int .u64 (lm x 3)], .int .i64 i] w fun e w' => e = .returned (.int .i64 0) ∧ Below w.heap.size w w' := by
 by_cases h1 : i < 0
 ·go_enter Tryd.func94, Tryd.ntmps94
  go_wp2
  go_ret
  refine ⟨rfl, ?_⟩
  (repeat' (first | (with_reducible exact Below.refl _ _) | (with_reducible assumption) | (with_reducible refine Below.drewN' ?_ _) | (with_reducible refine Below.alloc ?_ ?_ _) | (with_reducible refine Below.drew ?_) | (with_reducible refine Below.setCell ?_ ?_ _) | go_size))
 ·have h2 : 255 < i := by omega
  go_enter Tryd.func94, Tryd.ntmps94
  go_wp2
  go_ret
  refine ⟨rfl, ?_⟩
  (repeat' (first | (with_reducible exact Below.refl _ _) | (with_reducible assumption) | (with_reducible refine Below.drewN' ?_ _) | (with_reducible refine Below.alloc ?_ ?_ _) | (with_reducible refine Below.drew ?_) | (with_reducible refine Below.setCell ?_ ?_ _) | go_size))
theorem limb_half (x : Nat) (hx : x < N) (w : World) :
  Calls Tryd.prog 89 #[.agg #[.int .u64 (lm x 0), .int .u64 (lm x 1), .int .u64 (lm x 2), .int .u64 (lm x 3)]] w fun e w' => e = .returned (.agg #[.int .u64 (lm (x / 2) 0), .int .u64 (lm (x / 2) 1), .int .u64 (lm (x / 2) 2), .int .u64 (lm (x / 2) 3)]) ∧ Below w.heap.size w w' := by
 have h := half_lm hx
 have H := Lib.hid h
 clear h hx
 go_enter Tryd.func89, Tryd.ntmps89
 go_wp2
 refine wp_loop_rounds 4 ?_
 iterate 3 (rw [rounds_succ]; go_wp2; go_region; go_wp2)
 rw [rounds_succ]
 go_wp2
 have e0 := or_half (lm x 0) (lm x 1) (lm_lt x 0)
 have e1 := or_half (lm x 1) (lm x 2) (lm_lt x 1)
 have e2 := or_half (lm x 2) (lm x 3) (lm_lt x 2)
 have e3 : (lm x 3 : Int) / 2 = ((lm x 3 / 2 : Nat) : Int) := by omega
 obtain ⟨h0, h1, h2, h3⟩ := H.out
 rw [← h0] at e0
 rw [← h1] at e1
 rw [← h2] at e2
 rw [← h3] at e3
 refine bodyPost_ret (v := .agg #[.int .u64 (lm (x / 2) 0), .int .u64 (lm (x / 2) 1), .int .u64 (lm (x / 2) 2), .int .u64 (lm (x / 2) 3)]) (by simp [results, Tryd.results89, go_sem, e0, e1, e2, e3]) rfl ⟨rfl, ?_⟩
 (repeat' (first | (with_reducible exact Below.refl _ _) | (with_reducible assumption) | (with_reducible refine Below.drewN' ?_ _) | (with_reducible refine Below.alloc ?_ ?_ _) | (with_reducible refine Below.drew ?_) | (with_reducible refine Below.setCell ?_ ?_ _) | go_size))
theorem limb_pick (c : Bool) (x y : Nat) (w : World) :
  Calls Tryd.prog 88 #[.bool c, .agg #[.int .u64 (lm x 0), .int .u64 (lm x 1), .int .u64 (lm x 2), .int .u64 (lm x 3)], .agg #[.int .u64 (lm y 0), .int .u64 (lm y 1), .int .u64 (lm y 2), .int .u64 (lm y 3)]] w fun e w' => e = .returned (.agg #[.int .u64 (lm (if c then x else y) 0), .int .u64 (lm (if c then x else y) 1), .int .u64 (lm (if c then x else y) 2), .int .u64 (lm (if c then x else y) 3)]) ∧ Below w.heap.size w w' := by
 cases c with
 | false =>
  have p0 := pick_no (lm x 0) (lm y 0) (lm_lt _ _) (lm_lt _ _)
  have p1 := pick_no (lm x 1) (lm y 1) (lm_lt _ _) (lm_lt _ _)
  have p2 := pick_no (lm x 2) (lm y 2) (lm_lt _ _) (lm_lt _ _)
  have p3 := pick_no (lm x 3) (lm y 3) (lm_lt _ _) (lm_lt _ _)
  rw [if_neg Bool.false_ne_true]
  go_enter Tryd.func88, Tryd.ntmps88
  go_wp2
  refine wp_loop_rounds 5 ?_
  iterate 4 (rw [rounds_succ]; go_wp2; go_region; go_wp2)
  rw [rounds_succ]
  go_wp2
  refine bodyPost_ret (v := .agg #[.int .u64 (lm y 0), .int .u64 (lm y 1), .int .u64 (lm y 2), .int .u64 (lm y 3)]) (by simp [results, Tryd.results88, go_sem]) rfl ⟨rfl, ?_⟩
  (repeat' (first | (with_reducible exact Below.refl _ _) | (with_reducible assumption) | (with_reducible refine Below.drewN' ?_ _) | (with_reducible refine Below.alloc ?_ ?_ _) | (with_reducible refine Below.drew ?_) | (with_reducible refine Below.setCell ?_ ?_ _) | go_size))
 | true =>
  have p0 := pick_yes' (lm x 0) (lm y 0) (lm_lt _ _) (lm_lt _ _)
  have p1 := pick_yes' (lm x 1) (lm y 1) (lm_lt _ _) (lm_lt _ _)
  have p2 := pick_yes' (lm x 2) (lm y 2) (lm_lt _ _) (lm_lt _ _)
  have p3 := pick_yes' (lm x 3) (lm y 3) (lm_lt _ _) (lm_lt _ _)
  rw [if_pos rfl]
  go_enter Tryd.func88, Tryd.ntmps88
  go_wp2
  refine wp_loop_rounds 5 ?_
  iterate 4 (rw [rounds_succ]; go_wp2; go_region; go_wp2)
  rw [rounds_succ]
  go_wp2
  refine bodyPost_ret (v := .agg #[.int .u64 (lm x 0), .int .u64 (lm x 1), .int .u64 (lm x 2), .int .u64 (lm x 3)]) (by simp [results, Tryd.results88, go_sem]) rfl ⟨rfl, ?_⟩
  (repeat' (first | (with_reducible exact Below.refl _ _) | (with_reducible assumption) | (with_reducible refine Below.drewN' ?_ _) | (with_reducible refine Below.alloc ?_ ?_ _) | (with_reducible refine Below.drew ?_) | (with_reducible refine Below.setCell ?_ ?_ _) | go_size))
set_option maxHeartbeats 8000000 in
theorem ref_half (x : Nat) (hx : x < N) (w : World) :
  Calls Tryd.prog 83 #[.agg #[.int .u64 (lm x 0), .int .u64 (lm x 1), .int .u64 (lm x 2), .int .u64 (lm x 3)]] w fun e w' => e = .returned (.agg #[.int .u64 (lm (x / 2) 0), .int .u64 (lm (x / 2) 1), .int .u64 (lm (x / 2) 2), .int .u64 (lm (x / 2) 3)]) ∧ Below w.heap.size w w' := by
 have h := half_lm hx
 have H := Lib.hid h
 clear h hx
 go_enter Tryd.func83, Tryd.ntmps83
 go_wp2
 go_loopw [4] (fun i wr => ∃ k : Nat, k ≤ 4 ∧ i = .int .i64 k ∧ Arr wr w.heap.size 33 4 (fun j => .int .u64 (lm x j)) ∧ Arr wr (w.heap.size + 1) 33 4 (fun _ => .int .u64 0)
   ∧ Arr wr (w.heap.size + 1 + 1) 33 4 (fun j => .int .u64 (if j < k then lm (x / 2) j else 0)) ∧ Below w.heap.size w wr) (fun i _ => 4 - (intOf i).toNat)
 case atStart =>
  refine ⟨0, by omega, rfl, ?_, ?_, ?_, ?_⟩
  ·(repeat (first | (refine Arr.new' ?_ ?_; (rfl); (simp; done)) | refine Arr.alloc ?_ _))
  ·(repeat (first | (refine Arr.new' ?_ ?_; (rfl); (simp; done)) | refine Arr.alloc ?_ _))
  ·(repeat (first | (refine Arr.new' ?_ ?_; (rfl); (simp; done)) | refine Arr.alloc ?_ _))
  ·(repeat' (first | (with_reducible exact Below.refl _ _) | (with_reducible assumption) | (with_reducible refine Below.drewN' ?_ _) | (with_reducible refine Below.alloc ?_ ?_ _) | (with_reducible refine Below.drew ?_) | (with_reducible refine Below.setCell ?_ ?_ _) | go_size))
 case round =>
  obtain ⟨k, hk, rfl, A1, A2, A3, hB⟩ := hrel
  by_cases hk4 : k < 4
  ·have a1 := A1.cell hk4
   have a3 := A3.cell hk4
   have f3 := A3.frozen k
   simp only [Nat.lt_irrefl, if_false] at a3
   by_cases h3 : k < 3
   ·have a2 := A1.cell (j := k + 1) (by omega)
    have hl := Lib.hid (lm_lt x k)
    have hz : lm (x / 2) k = lm x k / 2 + 9223372036854775808 * (lm x (k + 1) % 2) := by
     obtain ⟨h0, h1, h2, _⟩ := H.out
     obtain rfl | rfl | rfl : k = 0 ∨ k = 1 ∨ k = 2 := by omega
     ·exact h0
     ·exact h1
     ·exact h2
    have HZ := Lib.hid hz
    clear hz
    by_cases ho : lm x (k + 1) % 2 = 1
    ·have hb : (((lm x (k + 1) : Nat) : Int) % 2 == 1) = true := by simp; omega
     have HO := Lib.hid ho
     clear ho
     go_wp2
     go_roundw
     case measure => simp [intOf]; omega
     case rel =>
      have hv : IntKind.u64.wrap (IntKind.u64.wrap ((lm x k : Int) / 2) + 9223372036854775808) = (lm (x / 2) k : Int) := by
       have h1 := HZ.out
       have h2 := hl.out
       have h3 := HO.out
       rw [IntKind.wrap_u64, IntKind.wrap_u64]
       unfold B at h2
       omega
      exact ⟨k + 1, by omega, by go_num, ((A1.other (by simp; omega) _).other (by simp; omega) _), ((A2.other (by simp) _).other (by simp) _),
       (A3.set k _).fill (fun _ _ hne => if_neg hne) hv, by (repeat' (first | (with_reducible exact Below.refl _ _) | (with_reducible assumption) | (with_reducible refine Below.drewN' ?_ _) | (with_reducible refine Below.alloc ?_ ?_ _) | (with_reducible refine Below.drew ?_) | (with_reducible refine Below.setCell ?_ ?_ _) | go_size))⟩
    ·have hb : (((lm x (k + 1) : Nat) : Int) % 2 == 1) = false := by simp; omega
     have HO := Lib.hid ho
     clear ho
     go_wp2
     go_roundw
     case measure => simp [intOf]; omega
     case rel =>
      have hv : IntKind.u64.wrap ((lm x k : Int) / 2) = (lm (x / 2) k : Int) := by
       have h1 := HZ.out
       have h2 := hl.out
       have h3 := HO.out
       rw [IntKind.wrap_u64]
       unfold B at h2
       omega
      exact ⟨k + 1, by omega, by go_num, A1.other (by simp; omega) _, A2.other (by simp) _, A3.fill (fun _ _ _ => rfl) hv, by (repeat' (first | (with_reducible exact Below.refl _ _) | (with_reducible assumption) | (with_reducible refine Below.drewN' ?_ _) | (with_reducible refine Below.alloc ?_ ?_ _) | (with_reducible refine Below.drew ?_) | (with_reducible refine Below.setCell ?_ ?_ _) | go_size))⟩
   ·obtain rfl : k = 3 := by omega
    have hl := Lib.hid (lm_lt x 3)
    go_wp2
    go_roundw
    case measure => simp [intOf]
    case rel =>
     have hv : IntKind.u64.wrap ((lm x 3 : Int) / 2) = (lm (x / 2) 3 : Int) := by
      have h1 := H.out.2.2.2
      have h2 := hl.out
      rw [IntKind.wrap_u64]
      unfold B at h2
      omega
     exact ⟨4, by omega, by go_num, A1.other (by simp; omega) _, A2.other (by simp) _, A3.fill (fun _ _ _ => rfl) hv, by (repeat' (first | (with_reducible exact Below.refl _ _) | (with_reducible assumption) | (with_reducible refine Below.drewN' ?_ _) | (with_reducible refine Below.alloc ?_ ?_ _) | (with_reducible refine Below.drew ?_) | (with_reducible refine Below.setCell ?_ ?_ _) | go_size))⟩
  ·obtain rfl : k = 4 := by omega
   have o0 := A3.cell (j := 0) (by omega)
   have o1 := A3.cell (j := 1) (by omega)
   have o2 := A3.cell (j := 2) (by omega)
   have o3 := A3.cell (j := 3) (by omega)
   have r0 := A2.cell (j := 0) (by omega)
   have r1 := A2.cell (j := 1) (by omega)
   have r2 := A2.cell (j := 2) (by omega)
   have r3 := A2.cell (j := 3) (by omega)
   have f0 := A2.frozen 0
   have f1 := A2.frozen 1
   have f2 := A2.frozen 2
   have f3 := A2.frozen 3
   simp only [Nat.reduceLT, if_true] at o0 o1 o2 o3
   go_wp2
   refine bodyPost_ret (v := .agg #[.int .u64 (lm (x / 2) 0), .int .u64 (lm (x / 2) 1), .int .u64 (lm (x / 2) 2), .int .u64 (lm (x / 2) 3)]) (by simp [results, Tryd.results83, go_sem, *]) rfl ⟨rfl, ?_⟩
   (repeat' (first | (with_reducible exact Below.refl _ _) | (with_reducible assumption) | (with_reducible refine Below.drewN' ?_ _) | (with_reducible refine Below.alloc ?_ ?_ _) | (with_reducible refine Below.drew ?_) | (with_reducible refine Below.setCell ?_ ?_ _) | go_size))
end Go.Proofs.YtkckmpnkacdchaaDoor
