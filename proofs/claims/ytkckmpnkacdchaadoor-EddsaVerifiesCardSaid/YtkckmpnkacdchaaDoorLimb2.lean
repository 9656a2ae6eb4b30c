/- The walks of limb.Cmp, Half, Bit, Pick and of the reference's Less, Cmp, Half, Bit, Pick. -/
import Derived.Test.YtkckmpnkacdchaaDoorCalls
import Derived.Test.YtkckmpnkacdchaaDoorProg
import Derived.Handy
import Derived.Deep.QuietTactic
import Derived.BigQuiet
set_option linter.unusedVariables false
set_option linter.unusedSimpArgs false
set_option maxHeartbeats 4000000
namespace Go.Proofs.YtkckmpnkacdchaaDoor
open Go.RowKit Go.Num
theorem compare_any (a b : Nat) (w : World) :
  Calls Tryd.prog 90 #[.int .u64 a, .int .u64 b] w fun e w' => e = .returned (.int .i64 (cmpN a b)) ∧ w = w' := by
 by_cases h1 : a < b
 ·have HC := Lib.hid (cmpN_lt h1)
  go_enter Tryd.func90, Tryd.ntmps90
  go_wp2
  go_ret
  rw [HC.out]
  exact ⟨rfl, rfl⟩
 ·by_cases h2 : b < a
  ·have HC := Lib.hid (cmpN_gt h2)
   go_enter Tryd.func90, Tryd.ntmps90
   go_wp2
   go_ret
   rw [HC.out]
   exact ⟨rfl, rfl⟩
  ·have HC := Lib.hid (cmpN_eq (show a = b by omega))
   go_enter Tryd.func90, Tryd.ntmps90
   go_wp2
   go_ret
   rw [HC.out]
   exact ⟨rfl, rfl⟩
theorem compare_q (a b : Nat) (w : World) :
  Calls Tryd.prog 90 #[.int .u64 a, .int .u64 b] w fun e w' => e = .returned (.int .i64 (cmpN a b)) ∧ w' = w :=
 (compare_any a b w).mono fun _ _ h => ⟨h.1, h.2.symm⟩
theorem bne_true {a b : Nat} (h : a ≠ b) : (((a : Nat) : Int) != ((b : Nat) : Int)) = true := by simp; omega
theorem bne_false {a b : Nat} (h : a = b) : (((a : Nat) : Int) != ((b : Nat) : Int)) = false := by simp; omega
theorem limb_cmp_3 (x y : Nat) (hx : x < N) (hy : y < N) (h3 : lm x 3 ≠ lm y 3) (w : World) :
  Calls Tryd.prog 67 #[.agg #[.int .u64 (lm x 0), .int .u64 (lm x 1), .int .u64 (lm x 2), .int .u64 (lm x 3)], .agg #[.int .u64 (lm y 0), .int .u64 (lm y 1), .int .u64 (lm y 2), .int .u64 (lm y 3)]] w fun e w' => e = .returned (.int .i64 (cmpN x y)) ∧ Below w.heap.size w w' := by
 have HC := Lib.hid (cmp_at3 hx hy h3)
 have b3 := bne_true h3
 clear hx hy h3
 go_enter Tryd.func67, Tryd.ntmps67
 go_wp2
 refine wp_loop_rounds 5 ?_
 rw [rounds_succ]; go_wp2; go_region; go_wp2
 go_quiet ((go_at_call 90; refine (compare_q _ _ _).mono ?_; intro _ _ h; exact ⟨h.1, _, h.2⟩))
 go_wp2
 go_ret
 rw [HC.out]
 refine ⟨rfl, ?_⟩
 (repeat' (first | (with_reducible exact Below.refl _ _) | (with_reducible assumption) | (with_reducible refine Below.drewN' ?_ _) | (with_reducible refine Below.alloc ?_ ?_ _) | (with_reducible refine Below.drew ?_) | (with_reducible refine Below.setCell ?_ ?_ _) | go_size))
theorem limb_cmp_2 (x y : Nat) (hx : x < N) (hy : y < N) (h3 : lm x 3 = lm y 3) (h2 : lm x 2 ≠ lm y 2) (w : World) :
  Calls Tryd.prog 67 #[.agg #[.int .u64 (lm x 0), .int .u64 (lm x 1), .int .u64 (lm x 2), .int .u64 (lm x 3)], .agg #[.int .u64 (lm y 0), .int .u64 (lm y 1), .int .u64 (lm y 2), .int .u64 (lm y 3)]] w fun e w' => e = .returned (.int .i64 (cmpN x y)) ∧ Below w.heap.size w w' := by
 have HC := Lib.hid (cmp_at2 hx hy h3 h2)
 have b3 := bne_false h3
 have b2 := bne_true h2
 clear hx hy h3 h2
 go_enter Tryd.func67, Tryd.ntmps67
 go_wp2
 refine wp_loop_rounds 5 ?_
 rw [rounds_succ]; go_wp2; go_region; go_wp2
 rw [rounds_succ]; go_wp2; go_region; go_wp2
 go_quiet ((go_at_call 90; refine (compare_q _ _ _).mono ?_; intro _ _ h; exact ⟨h.1, _, h.2⟩))
 go_wp2
 go_ret
 rw [HC.out]
 refine ⟨rfl, ?_⟩
 (repeat' (first | (with_reducible exact Below.refl _ _) | (with_reducible assumption) | (with_reducible refine Below.drewN' ?_ _) | (with_reducible refine Below.alloc ?_ ?_ _) | (with_reducible refine Below.drew ?_) | (with_reducible refine Below.setCell ?_ ?_ _) | go_size))
theorem limb_cmp_1 (x y : Nat) (hx : x < N) (hy : y < N) (h3 : lm x 3 = lm y 3) (h2 : lm x 2 = lm y 2) (h1 : lm x 1 ≠ lm y 1) (w : World) :
  Calls Tryd.prog 67 #[.agg #[.int .u64 (lm x 0), .int .u64 (lm x 1), .int .u64 (lm x 2), .int .u64 (lm x 3)], .agg #[.int .u64 (lm y 0), .int .u64 (lm y 1), .int .u64 (lm y 2), .int .u64 (lm y 3)]] w fun e w' => e = .returned (.int .i64 (cmpN x y)) ∧ Below w.heap.size w w' := by
 have HC := Lib.hid (cmp_at1 hx hy h3 h2 h1)
 have b3 := bne_false h3
 have b2 := bne_false h2
 have b1 := bne_true h1
 clear hx hy h3 h2 h1
 go_enter Tryd.func67, Tryd.ntmps67
 go_wp2
 refine wp_loop_rounds 5 ?_
 rw [rounds_succ]; go_wp2; go_region; go_wp2
 rw [rounds_succ]; go_wp2; go_region; go_wp2
 rw [rounds_succ]; go_wp2; go_region; go_wp2
 go_quiet ((go_at_call 90; refine (compare_q _ _ _).mono ?_; intro _ _ h; exact ⟨h.1, _, h.2⟩))
 go_wp2
 go_ret
 rw [HC.out]
 refine ⟨rfl, ?_⟩
 (repeat' (first | (with_reducible exact Below.refl _ _) | (with_reducible assumption) | (with_reducible refine Below.drewN' ?_ _) | (with_reducible refine Below.alloc ?_ ?_ _) | (with_reducible refine Below.drew ?_) | (with_reducible refine Below.setCell ?_ ?_ _) | go_size))
theorem limb_cmp_0 (x y : Nat) (hx : x < N) (hy : y < N) (h3 : lm x 3 = lm y 3) (h2 : lm x 2 = lm y 2) (h1 : lm x 1 = lm y 1) (h0 : lm x 0 ≠ lm y 0) (w : World) :
  Calls Tryd.prog 67 #[.agg #[.int .u64 (lm x 0), .int .u64 (lm x 1), .int .u64 (lm x 2), .int .u64 (lm x 3)], .agg #[.int .u64 (lm y 0), .int .u64 (lm y 1), .int .u64 (lm y 2), .int .u64 (lm y 3)]] w fun e w' => e = .returned (.int .i64 (cmpN x y)) ∧ Below w.heap.size w w' := by
 have HC := Lib.hid (cmp_at0 hx hy h3 h2 h1)
 have b3 := bne_false h3
 have b2 := bne_false h2
 have b1 := bne_false h1
 have b0 := bne_true h0
 clear hx hy h3 h2 h1 h0
 go_enter Tryd.func67, Tryd.ntmps67
 go_wp2
 refine wp_loop_rounds 5 ?_
 rw [rounds_succ]; go_wp2; go_region; go_wp2
 rw [rounds_succ]; go_wp2; go_region; go_wp2
 rw [rounds_succ]; go_wp2; go_region; go_wp2
 rw [rounds_succ]; go_wp2; go_region; go_wp2
 go_quiet ((go_at_call 90; refine (compare_q _ _ _).mono ?_; intro _ _ h; exact ⟨h.1, _, h.2⟩))
 go_wp2
 go_ret
 rw [HC.out]
 refine ⟨rfl, ?_⟩
 (repeat' (first | (with_reducible exact Below.refl _ _) | (with_reducible assumption) | (with_reducible refine Below.drewN' ?_ _) | (with_reducible refine Below.alloc ?_ ?_ _) | (with_reducible refine Below.drew ?_) | (with_reducible refine Below.setCell ?_ ?_ _) | go_size))
theorem limb_cmp_e (x y : Nat) (h3 : lm x 3 = lm y 3) (h2 : lm x 2 = lm y 2) (h1 : lm x 1 = lm y 1) (h0 : lm x 0 = lm y 0) (hv : cmpN x y = 0) (w : World) :
  Calls Tryd.prog 67 #[.agg #[.int .u64 (lm x 0), .int .u64 (lm x 1), .int .u64 (lm x 2), .int .u64 (lm x 3)], .agg #[.int .u64 (lm y 0), .int .u64 (lm y 1), .int .u64 (lm y 2), .int .u64 (lm y 3)]] w fun e w' => e = .returned (.int .i64 (cmpN x y)) ∧ Below w.heap.size w w' := by
 have HC := Lib.hid hv
 have b3 := bne_false h3
 have b2 := bne_false h2
 have b1 := bne_false h1
 have b0 := bne_false h0
 clear hv h3 h2 h1 h0
 go_enter Tryd.func67, Tryd.ntmps67
 go_wp2
 refine wp_loop_rounds 5 ?_
 iterate 4 (rw [rounds_succ]; go_wp2; go_region; go_wp2)
 rw [rounds_succ]
 go_wp2
 go_ret
 rw [HC.out]
 refine ⟨rfl, ?_⟩
 (repeat' (first | (with_reducible exact Below.refl _ _) | (with_reducible assumption) | (with_reducible refine Below.drewN' ?_ _) | (with_reducible refine Below.alloc ?_ ?_ _) | (with_reducible refine Below.drew ?_) | (with_reducible refine Below.setCell ?_ ?_ _) | go_size))
theorem limb_cmp (x y : Nat) (hx : x < N) (hy : y < N) (w : World) :
  Calls Tryd.prog 67 #[.agg #[.int .u64 (lm x 0), .int .u64 (lm x 1), .int .u64 (lm x 2), .int .u64 (lm x 3)], .agg #[.int .u64 (lm y 0), .int .u64 (lm y 1), .int .u64 (lm y 2), .int .u64 (lm y 3)]] w fun e w' => e = .returned (.int .i64 (cmpN x y)) ∧ Below w.heap.size w w' := by
 by_cases h3 : lm x 3 = lm y 3
 ·by_cases h2 : lm x 2 = lm y 2
  ·by_cases h1 : lm x 1 = lm y 1
   ·by_cases h0 : lm x 0 = lm y 0
    ·have e := eq_of_lm hx hy h0 h1 h2 h3
     exact limb_cmp_e x y h3 h2 h1 h0 (cmpN_eq e) w
    ·exact limb_cmp_0 x y hx hy h3 h2 h1 h0 w
   ·exact limb_cmp_1 x y hx hy h3 h2 h1 w
  ·exact limb_cmp_2 x y hx hy h3 h2 w
 ·exact limb_cmp_3 x y hx hy h3 w
theorem ref_less_3 (x y : Nat) (hx : x < N) (hy : y < N) (h3 : lm x 3 ≠ lm y 3) (w : World) :
  Calls Tryd.prog 51 #[.agg #[.int .u64 (lm x 0), .int .u64 (lm x 1), .int .u64 (lm x 2), .int .u64 (lm x 3)], .agg #[.int .u64 (lm y 0), .int .u64 (lm y 1), .int .u64 (lm y 2), .int .u64 (lm y 3)]] w fun e w' => e = .returned (.bool (decide (x < y))) ∧ Below w.heap.size w w' := by
 have HC := Lib.hid (lt_at3 hx hy h3)
 have b3 := bne_true h3
 clear hx hy h3
 go_enter Tryd.func51, Tryd.ntmps51
 go_wp2
 refine wp_loop_rounds 5 ?_
 rw [rounds_succ]; go_wp2; go_region; go_wp2
 go_quiet (fail)
 go_wp2
 go_ret
 rw [HC.out]
 refine ⟨rfl, ?_⟩
 (repeat' (first | (with_reducible exact Below.refl _ _) | (with_reducible assumption) | (with_reducible refine Below.drewN' ?_ _) | (with_reducible refine Below.alloc ?_ ?_ _) | (with_reducible refine Below.drew ?_) | (with_reducible refine Below.setCell ?_ ?_ _) | go_size))
theorem ref_less_2 (x y : Nat) (hx : x < N) (hy : y < N) (h3 : lm x 3 = lm y 3) (h2 : lm x 2 ≠ lm y 2) (w : World) :
  Calls Tryd.prog 51 #[.agg #[.int .u64 (lm x 0), .int .u64 (lm x 1), .int .u64 (lm x 2), .int .u64 (lm x 3)], .agg #[.int .u64 (lm y 0), .int .u64 (lm y 1), .int .u64 (lm y 2), .int .u64 (lm y 3)]] w fun e w' => e = .returned (.bool (decide (x < y))) ∧ Below w.heap.size w w' := by
 have HC := Lib.hid (lt_at2 hx hy h3 h2)
 have b3 := bne_false h3
 have b2 := bne_true h2
 clear hx hy h3 h2
 go_enter Tryd.func51, Tryd.ntmps51
 go_wp2
 refine wp_loop_rounds 5 ?_
 rw [rounds_succ]; go_wp2; go_region; go_wp2
 rw [rounds_succ]; go_wp2; go_region; go_wp2
 go_quiet (fail)
 go_wp2
 go_ret
 rw [HC.out]
 refine ⟨rfl, ?_⟩
 (repeat' (first | (with_reducible exact Below.refl _ _) | (with_reducible assumption) | (with_reducible refine Below.drewN' ?_ _) | (with_reducible refine Below.alloc ?_ ?_ _) | (with_reducible refine Below.drew ?_) | (with_reducible refine Below.setCell ?_ ?_ _) | go_size))
theorem ref_less_1 (x y : Nat) (hx : x < N) (hy : y < N) (h3 : lm x 3 = lm y 3) (h2 : lm x 2 = lm y 2) (h1 : lm x 1 ≠ lm y 1) (w : World) :
  Calls Tryd.prog 51 #[.agg #[.int .u64 (lm x 0), .int .u64 (lm x 1), .int .u64 (lm x 2), .int .u64 (lm x 3)], .agg #[.int .u64 (lm y 0), .int .u64 (lm y 1), .int .u64 (lm y 2), .int .u64 (lm y 3)]] w fun e w' => e = .returned (.bool (decide (x < y))) ∧ Below w.heap.size w w' := by
 have HC := Lib.hid (lt_at1 hx hy h3 h2 h1)
 have b3 := bne_false h3
 have b2 := bne_false h2
 have b1 := bne_true h1
 clear hx hy h3 h2 h1
 go_enter Tryd.func51, Tryd.ntmps51
 go_wp2
 refine wp_loop_rounds 5 ?_
 rw [rounds_succ]; go_wp2; go_region; go_wp2
 rw [rounds_succ]; go_wp2; go_region; go_wp2
 rw [rounds_succ]; go_wp2; go_region; go_wp2
 go_quiet (fail)
 go_wp2
 go_ret
 rw [HC.out]
 refine ⟨rfl, ?_⟩
 (repeat' (first | (with_reducible exact Below.refl _ _) | (with_reducible assumption) | (with_reducible refine Below.drewN' ?_ _) | (with_reducible refine Below.alloc ?_ ?_ _) | (with_reducible refine Below.drew ?_) | (with_reducible refine Below.setCell ?_ ?_ _) | go_size))
theorem ref_less_0 (x y : Nat) (hx : x < N) (hy : y < N) (h3 : lm x 3 = lm y 3) (h2 : lm x 2 = lm y 2) (h1 : lm x 1 = lm y 1) (h0 : lm x 0 ≠ lm y 0) (w : World) :
  Calls Tryd.prog 51 #[.agg #[.int .u64 (lm x 0), .int .u64 (lm x 1), .int .u64 (lm x 2), .int .u64 (lm x 3)], .agg #[.int .u64 (lm y 0), .int .u64 (lm y 1), .int .u64 (lm y 2), .int .u64 (lm y 3)]] w fun e w' => e = .returned (.bool (decide (x < y))) ∧ Below w.heap.size w w' := by
 have HC := Lib.hid (lt_at0 hx hy h3 h2 h1)
 have b3 := bne_false h3
 have b2 := bne_false h2
 have b1 := bne_false h1
 have b0 := bne_true h0
 clear hx hy h3 h2 h1 h0
 go_enter Tryd.func51, Tryd.ntmps51
 go_wp2
 refine wp_loop_rounds 5 ?_
 rw [rounds_succ]; go_wp2; go_region; go_wp2
 rw [rounds_succ]; go_wp2; go_region; go_wp2
 rw [rounds_succ]; go_wp2; go_region; go_wp2
 rw [rounds_succ]; go_wp2; go_region; go_wp2
 go_quiet (fail)
 go_wp2
 go_ret
 rw [HC.out]
 refine ⟨rfl, ?_⟩
 (repeat' (first | (with_reducible exact Below.refl _ _) | (with_reducible assumption) | (with_reducible refine Below.drewN' ?_ _) | (with_reducible refine Below.alloc ?_ ?_ _) | (with_reducible refine Below.drew ?_) | (with_reducible refine Below.setCell ?_ ?_ _) | go_size))
theorem ref_less_e (x y : Nat) (h3 : lm x 3 = lm y 3) (h2 : lm x 2 = lm y 2) (h1 : lm x 1 = lm y 1) (h0 : lm x 0 = lm y 0) (hv : decide (x < y) = false) (w : World) :
  Calls Tryd.prog 51 #[.agg #[.int .u64 (lm x 0), .int .u64 (lm x 1), .int .u64 (lm x 2), .int .u64 (lm x 3)], .agg #[.int .u64 (lm y 0), .int .u64 (lm y 1), .int .u64 (lm y 2), .int .u64 (lm y 3)]] w fun e w' => e = .returned (.bool (decide (x < y))) ∧ Below w.heap.size w w' := by
 have HC := Lib.hid hv
 have b3 := bne_false h3
 have b2 := bne_false h2
 have b1 := bne_false h1
 have b0 := bne_false h0
 clear hv h3 h2 h1 h0
 go_enter Tryd.func51, Tryd.ntmps51
 go_wp2
 refine wp_loop_rounds 5 ?_
 iterate 4 (rw [rounds_succ]; go_wp2; go_region; go_wp2)
 rw [rounds_succ]
 go_wp2
 go_ret
 rw [HC.out]
 refine ⟨rfl, ?_⟩
 (repeat' (first | (with_reducible exact Below.refl _ _) | (with_reducible assumption) | (with_reducible refine Below.drewN' ?_ _) | (with_reducible refine Below.alloc ?_ ?_ _) | (with_reducible refine Below.drew ?_) | (with_reducible refine Below.setCell ?_ ?_ _) | go_size))
theorem ref_less (x y : Nat) (hx : x < N) (hy : y < N) (w : World) :
  Calls Tryd.prog 51 #[.agg #[.int .u64 (lm x 0), .int .u64 (lm x 1), .int .u64 (lm x 2), .int .u64 (lm x 3)], .agg #[.int .u64 (lm y 0), .int .u64 (lm y 1), .int .u64 (lm y 2), .int .u64 (lm y 3)]] w fun e w' => e = .returned (.bool (decide (x < y))) ∧ Below w.heap.size w w' := by
 by_cases h3 : lm x 3 = lm y 3
 ·by_cases h2 : lm x 2 = lm y 2
  ·by_cases h1 : lm x 1 = lm y 1
   ·by_cases h0 : lm x 0 = lm y 0
    ·have e := eq_of_lm hx hy h0 h1 h2 h3
     exact ref_less_e x y h3 h2 h1 h0 (decide_eq_false (by omega)) w
    ·exact ref_less_0 x y hx hy h3 h2 h1 h0 w
   ·exact ref_less_1 x y hx hy h3 h2 h1 w
  ·exact ref_less_2 x y hx hy h3 h2 w
 ·exact ref_less_3 x y hx hy h3 w
end Go.Proofs.YtkckmpnkacdchaaDoor
