/- The walks of limb.Bit, Half, Pick and of the reference's Bit, Half, Pick, Cmp. -/
import Derived.Test.YtkckmpnkacdchaaDoorLimb2
set_option linter.unusedVariables false
set_option linter.unusedSimpArgs false
namespace Go.Proofs.YtkckmpnkacdchaaDoor
open Go.RowKit Go.Num
set_option maxHeartbeats 4000000 in
theorem limb_bit_0 (x i : Nat) (hq : (i : Int) / 64 = 0) (w : World) :
    Calls Tryd.prog 72 #[.agg #[.int .u64 (lm x 0), .int .u64 (lm x 1), .int .u64 (lm x 2), .int .u64 (lm x 3)], .int .i64 i] w fun e w' => e = .returned (.int .i64 (bit x i)) ∧ Below w.heap.size w w' := by
  have hb : bits .and .u64 ((lm x 0 : Int) / 2 ^ (i % 64)) 1 = (bit x i : Int) := by
    rw [and_one _ _ (lm_lt x 0), ← bit_lm x 0 (i % 64) (Nat.mod_lt _ (by decide)), show 64 * 0 + i % 64 = i by omega]
  have hl := bit_lt x i
  go_enter Tryd.func72, Tryd.ntmps72
  go_wp2
  go_ret
  refine ⟨rfl, ?_⟩
  (repeat' (first | (with_reducible exact Below.refl _ _) | (with_reducible assumption) | (with_reducible refine Below.drewN' ?_ _) | (with_reducible refine Below.alloc ?_ ?_ _) | (with_reducible refine Below.drew ?_) | (with_reducible refine Below.setCell ?_ ?_ _) | go_size))
set_option maxHeartbeats 4000000 in
theorem limb_bit_1 (x i : Nat) (hq : (i : Int) / 64 = 1) (w : World) :
    Calls Tryd.prog 72 #[.agg #[.int .u64 (lm x 0), .int .u64 (lm x 1), .int .u64 (lm x 2), .int .u64 (lm x 3)], .int .i64 i] w fun e w' => e = .returned (.int .i64 (bit x i)) ∧ Below w.heap.size w w' := by
  have hb : bits .and .u64 ((lm x 1 : Int) / 2 ^ (i % 64)) 1 = (bit x i : Int) := by
    rw [and_one _ _ (lm_lt x 1), ← bit_lm x 1 (i % 64) (Nat.mod_lt _ (by decide)), show 64 * 1 + i % 64 = i by omega]
  have hl := bit_lt x i
  go_enter Tryd.func72, Tryd.ntmps72
  go_wp2
  go_ret
  refine ⟨rfl, ?_⟩
  (repeat' (first | (with_reducible exact Below.refl _ _) | (with_reducible assumption) | (with_reducible refine Below.drewN' ?_ _) | (with_reducible refine Below.alloc ?_ ?_ _) | (with_reducible refine Below.drew ?_) | (with_reducible refine Below.setCell ?_ ?_ _) | go_size))
set_option maxHeartbeats 4000000 in
theorem limb_bit_2 (x i : Nat) (hq : (i : Int) / 64 = 2) (w : World) :
    Calls Tryd.prog 72 #[.agg #[.int .u64 (lm x 0), .int .u64 (lm x 1), .int .u64 (lm x 2), .int .u64 (lm x 3)], .int .i64 i] w fun e w' => e = .returned (.int .i64 (bit x i)) ∧ Below w.heap.size w w' := by
  have hb : bits .and .u64 ((lm x 2 : Int) / 2 ^ (i % 64)) 1 = (bit x i : Int) := by
    rw [and_one _ _ (lm_lt x 2), ← bit_lm x 2 (i % 64) (Nat.mod_lt _ (by decide)), show 64 * 2 + i % 64 = i by omega]
  have hl := bit_lt x i
  go_enter Tryd.func72, Tryd.ntmps72
  go_wp2
  go_ret
  refine ⟨rfl, ?_⟩
  (repeat' (first | (with_reducible exact Below.refl _ _) | (with_reducible assumption) | (with_reducible refine Below.drewN' ?_ _) | (with_reducible refine Below.alloc ?_ ?_ _) | (with_reducible refine Below.drew ?_) | (with_reducible refine Below.setCell ?_ ?_ _) | go_size))
set_option maxHeartbeats 4000000 in
theorem limb_bit_3 (x i : Nat) (hq : (i : Int) / 64 = 3) (w : World) :
    Calls Tryd.prog 72 #[.agg #[.int .u64 (lm x 0), .int .u64 (lm x 1), .int .u64 (lm x 2), .int .u64 (lm x 3)], .int .i64 i] w fun e w' => e = .returned (.int .i64 (bit x i)) ∧ Below w.heap.size w w' := by
  have hb : bits .and .u64 ((lm x 3 : Int) / 2 ^ (i % 64)) 1 = (bit x i : Int) := by
    rw [and_one _ _ (lm_lt x 3), ← bit_lm x 3 (i % 64) (Nat.mod_lt _ (by decide)), show 64 * 3 + i % 64 = i by omega]
  have hl := bit_lt x i
  go_enter Tryd.func72, Tryd.ntmps72
  go_wp2
  go_ret
  refine ⟨rfl, ?_⟩
  (repeat' (first | (with_reducible exact Below.refl _ _) | (with_reducible assumption) | (with_reducible refine Below.drewN' ?_ _) | (with_reducible refine Below.alloc ?_ ?_ _) | (with_reducible refine Below.drew ?_) | (with_reducible refine Below.setCell ?_ ?_ _) | go_size))
theorem limb_bit (x i : Nat) (h0 : i ≤ 255) (w : World) :
    Calls Tryd.prog 72 #[.agg #[.int .u64 (lm x 0), .int .u64 (lm x 1), .int .u64 (lm x 2), .int .u64 (lm x 3)], .int .i64 i] w fun e w' => e = .returned (.int .i64 (bit x i)) ∧ Below w.heap.size w w' := by
  obtain h | h | h | h : (i : Int) / 64 = 0 ∨ (i : Int) / 64 = 1 ∨ (i : Int) / 64 = 2 ∨ (i : Int) / 64 = 3 := by omega
  · exact limb_bit_0 x i h w
  · exact limb_bit_1 x i h w
  · exact limb_bit_2 x i h w
  · exact limb_bit_3 x i h w
theorem limb_bit_out (x : Nat) (i : Int) (h : i < 0 ∨ 255 < i) (w : World) :
    Calls Tryd.prog 72 #[.agg #[.int .u64 (lm x 0), .int .u64 (lm x 1), .int .u64 (lm x 2), .int .u64 (lm x 3)], .int .i64 i] w fun e w' => e = .returned (.int .i64 0) ∧ Below w.heap.size w w' := by
  by_cases h1 : i < 0
  · go_enter Tryd.func72, Tryd.ntmps72
    go_wp2
    go_ret
    refine ⟨rfl, ?_⟩
    (repeat' (first | (with_reducible exact Below.refl _ _) | (with_reducible assumption) | (with_reducible refine Below.drewN' ?_ _) | (with_reducible refine Below.alloc ?_ ?_ _) | (with_reducible refine Below.drew ?_) | (with_reducible refine Below.setCell ?_ ?_ _) | go_size))
  · have h2 : 255 < i := by omega
    go_enter Tryd.func72, Tryd.ntmps72
    go_wp2
    go_ret
    refine ⟨rfl, ?_⟩
    (repeat' (first | (with_reducible exact Below.refl _ _) | (with_reducible assumption) | (with_reducible refine Below.drewN' ?_ _) | (with_reducible refine Below.alloc ?_ ?_ _) | (with_reducible refine Below.drew ?_) | (with_reducible refine Below.setCell ?_ ?_ _) | go_size))
set_option maxHeartbeats 4000000 in
theorem limb_half (x : Nat) (hx : x < N) (w : World) :
    Calls Tryd.prog 89 #[.agg #[.int .u64 (lm x 0), .int .u64 (lm x 1), .int .u64 (lm x 2), .int .u64 (lm x 3)]] w fun e w' => e = .returned (.agg #[.int .u64 (lm (x / 2) 0), .int .u64 (lm (x / 2) 1), .int .u64 (lm (x / 2) 2), .int .u64 (lm (x / 2) 3)]) ∧ Below w.heap.size w w' := by
  have h := half_lm hx
  have H := Lib.hid h
  clear h hx
  go_enter Tryd.func89, Tryd.ntmps89
  go_wp2
  refine wp_loop_rounds 4 ?_
  iterate 3 (rw [rounds_succ]; go_wp2; go_region; go_wp2)
  rw [rounds_succ]
  go_wp2
  have e0 := or_half (lm x 0) (lm x 1) (lm_lt x 0)
  have e1 := or_half (lm x 1) (lm x 2) (lm_lt x 1)
  have e2 := or_half (lm x 2) (lm x 3) (lm_lt x 2)
  have e3 : ((lm x 3 : Nat) : Int) / 2 = ((lm x 3 / 2 : Nat) : Int) := by omega
  obtain ⟨h0, h1, h2, h3⟩ := H.out
  rw [← h0] at e0
  rw [← h1] at e1
  rw [← h2] at e2
  rw [← h3] at e3
  refine bodyPost_ret (v := .agg #[.int .u64 (lm (x / 2) 0), .int .u64 (lm (x / 2) 1), .int .u64 (lm (x / 2) 2), .int .u64 (lm (x / 2) 3)]) (by simp [results, Tryd.results89, go_sem, e0, e1, e2, e3]) rfl ⟨rfl, ?_⟩
  (repeat' (first | (with_reducible exact Below.refl _ _) | (with_reducible assumption) | (with_reducible refine Below.drewN' ?_ _) | (with_reducible refine Below.alloc ?_ ?_ _) | (with_reducible refine Below.drew ?_) | (with_reducible refine Below.setCell ?_ ?_ _) | go_size))
set_option maxHeartbeats 4000000 in
theorem limb_pick (c : Bool) (x y : Nat) (w : World) :
    Calls Tryd.prog 88 #[.bool c, .agg #[.int .u64 (lm x 0), .int .u64 (lm x 1), .int .u64 (lm x 2), .int .u64 (lm x 3)], .agg #[.int .u64 (lm y 0), .int .u64 (lm y 1), .int .u64 (lm y 2), .int .u64 (lm y 3)]] w fun e w' => e = .returned (.agg #[.int .u64 (lm (if c then x else y) 0), .int .u64 (lm (if c then x else y) 1), .int .u64 (lm (if c then x else y) 2), .int .u64 (lm (if c then x else y) 3)]) ∧ Below w.heap.size w w' := by
  cases c with
  | false =>
    have p0 := pick_no (lm x 0) (lm y 0) (lm_lt _ _) (lm_lt _ _)
    have p1 := pick_no (lm x 1) (lm y 1) (lm_lt _ _) (lm_lt _ _)
    have p2 := pick_no (lm x 2) (lm y 2) (lm_lt _ _) (lm_lt _ _)
    have p3 := pick_no (lm x 3) (lm y 3) (lm_lt _ _) (lm_lt _ _)
    rw [if_neg Bool.false_ne_true]
    go_enter Tryd.func88, Tryd.ntmps88
    go_wp2
    refine wp_loop_rounds 5 ?_
    iterate 4 (rw [rounds_succ]; go_wp2; go_region; go_wp2)
    rw [rounds_succ]
    go_wp2
    refine bodyPost_ret (v := .agg #[.int .u64 (lm y 0), .int .u64 (lm y 1), .int .u64 (lm y 2), .int .u64 (lm y 3)]) (by simp [results, Tryd.results88, go_sem]) rfl ⟨rfl, ?_⟩
    (repeat' (first | (with_reducible exact Below.refl _ _) | (with_reducible assumption) | (with_reducible refine Below.drewN' ?_ _) | (with_reducible refine Below.alloc ?_ ?_ _) | (with_reducible refine Below.drew ?_) | (with_reducible refine Below.setCell ?_ ?_ _) | go_size))
  | true =>
    have p0 := pick_yes' (lm x 0) (lm y 0) (lm_lt _ _) (lm_lt _ _)
    have p1 := pick_yes' (lm x 1) (lm y 1) (lm_lt _ _) (lm_lt _ _)
    have p2 := pick_yes' (lm x 2) (lm y 2) (lm_lt _ _) (lm_lt _ _)
    have p3 := pick_yes' (lm x 3) (lm y 3) (lm_lt _ _) (lm_lt _ _)
    rw [if_pos rfl]
    go_enter Tryd.func88, Tryd.ntmps88
    go_wp2
    refine wp_loop_rounds 5 ?_
    iterate 4 (rw [rounds_succ]; go_wp2; go_region; go_wp2)
    rw [rounds_succ]
    go_wp2
    refine bodyPost_ret (v := .agg #[.int .u64 (lm x 0), .int .u64 (lm x 1), .int .u64 (lm x 2), .int .u64 (lm x 3)]) (by simp [results, Tryd.results88, go_sem]) rfl ⟨rfl, ?_⟩
    (repeat' (first | (with_reducible exact Below.refl _ _) | (with_reducible assumption) | (with_reducible refine Below.drewN' ?_ _) | (with_reducible refine Below.alloc ?_ ?_ _) | (with_reducible refine Below.drew ?_) | (with_reducible refine Below.setCell ?_ ?_ _) | go_size))
end Go.Proofs.YtkckmpnkacdchaaDoor
