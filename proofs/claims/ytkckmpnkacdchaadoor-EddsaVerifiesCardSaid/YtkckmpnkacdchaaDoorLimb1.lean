/- The walks of limb.Add, limb.Sub: what they answer, as numbers. -/
import Derived.Test.YtkckmpnkacdchaaDoorCalls
import Derived.Test.YtkckmpnkacdchaaDoorProg
import Derived.Handy
set_option linter.unusedVariables false
set_option linter.unusedSimpArgs false
set_option maxHeartbeats 4000000
namespace Go.Proofs.YtkckmpnkacdchaaDoor
open Go.RowKit Go.Num
theorem call_add (x y c s k : Nat) (hc : c ≤ 1) (hs : s = (x + y + c) % B) (hk : k = (x + y + c) / B) (w : World) :
  (callFunc 98 #[.int .u64 x, .int .u64 y, .int .u64 c]).run Tryd.prog w = .ok (.value (.tuple #[.int .u64 s, .int .u64 k])) w :=
 run_add64' Tryd.func98 (by kernel_rfl) (by kernel_rfl) (by kernel_rfl) (by kernel_rfl) x y c s k hc hs hk w
theorem call_sub (x y c s k : Nat) (hc : c ≤ 1) (hs : s = (x + B - y - c) % B) (hk : k = (if x < y + c then 1 else 0)) (w : World) :
  (callFunc 95 #[.int .u64 x, .int .u64 y, .int .u64 c]).run Tryd.prog w = .ok (.value (.tuple #[.int .u64 s, .int .u64 k])) w :=
 run_sub64' Tryd.func95 (by kernel_rfl) (by kernel_rfl) (by kernel_rfl) (by kernel_rfl) x y c s k hc hs hk w
theorem limb_add_walk (x y z k0 k1 k2 k3 : Nat) (w : World)
  (c0 : ∀ w : World, (callFunc 98 #[.int .u64 (lm x 0), .int .u64 (lm y 0), .int .u64 0]).run Tryd.prog w = .ok (.value (.tuple #[.int .u64 (lm z 0), .int .u64 k0])) w)
  (c1 : ∀ w : World, (callFunc 98 #[.int .u64 (lm x 1), .int .u64 (lm y 1), .int .u64 k0]).run Tryd.prog w = .ok (.value (.tuple #[.int .u64 (lm z 1), .int .u64 k1])) w)
  (c2 : ∀ w : World, (callFunc 98 #[.int .u64 (lm x 2), .int .u64 (lm y 2), .int .u64 k1]).run Tryd.prog w = .ok (.value (.tuple #[.int .u64 (lm z 2), .int .u64 k2])) w)
  (c3 : ∀ w : World, (callFunc 98 #[.int .u64 (lm x 3), .int .u64 (lm y 3), .int .u64 k2]).run Tryd.prog w = .ok (.value (.tuple #[.int .u64 (lm z 3), .int .u64 k3])) w) :
  Calls Tryd.prog 87 #[.agg #[.int .u64 (lm x 0), .int .u64 (lm x 1), .int .u64 (lm x 2), .int .u64 (lm x 3)], .agg #[.int .u64 (lm y 0), .int .u64 (lm y 1), .int .u64 (lm y 2), .int .u64 (lm y 3)]] w fun e w' => e = .returned (.tuple #[.agg #[.int .u64 (lm z 0), .int .u64 (lm z 1), .int .u64 (lm z 2), .int .u64 (lm z 3)], .bool (((k3 : Nat) : Int) != 0)]) ∧ Below w.heap.size w w' := by
 go_enter Tryd.func87, Tryd.ntmps87
 go_wp2
 refine wp_loop_rounds 5 ?_
 iterate 4 (rw [rounds_succ]; go_wp2; go_region; go_wp2)
 rw [rounds_succ]
 go_wp2
 refine bodyPost_ret (v := .tuple #[.agg #[.int .u64 (lm z 0), .int .u64 (lm z 1), .int .u64 (lm z 2), .int .u64 (lm z 3)], .bool (((k3 : Nat) : Int) != 0)]) (by simp [results, Tryd.results87, go_sem]) rfl ⟨rfl, ?_⟩
 go_grown
theorem limb_add (x y : Nat) (hx : x < N) (hy : y < N) (w : World) :
  Calls Tryd.prog 87 #[.agg #[.int .u64 (lm x 0), .int .u64 (lm x 1), .int .u64 (lm x 2), .int .u64 (lm x 3)], .agg #[.int .u64 (lm y 0), .int .u64 (lm y 1), .int .u64 (lm y 2), .int .u64 (lm y 3)]] w fun e w' => e = .returned (.tuple #[.agg #[.int .u64 (lm ((x + y) % N) 0), .int .u64 (lm ((x + y) % N) 1), .int .u64 (lm ((x + y) % N) 2), .int .u64 (lm ((x + y) % N) 3)], .bool (decide (N ≤ x + y))]) ∧ Below w.heap.size w w' := by
 obtain ⟨k0, k1, k2, k3, b0, b1, b2, s0, e0, s1, e1, s2, e2, s3, e3, e⟩ := add_chain hx hy
 rw [← bne_of_ite e]
 exact limb_add_walk x y _ k0 k1 k2 k3 w (call_add _ _ 0 _ _ (by omega) s0 e0) (call_add _ _ _ _ _ b0 s1 e1) (call_add _ _ _ _ _ b1 s2 e2) (call_add _ _ _ _ _ b2 s3 e3)
theorem limb_sub_walk (x y z k0 k1 k2 k3 : Nat) (w : World)
  (c0 : ∀ w : World, (callFunc 95 #[.int .u64 (lm x 0), .int .u64 (lm y 0), .int .u64 0]).run Tryd.prog w = .ok (.value (.tuple #[.int .u64 (lm z 0), .int .u64 k0])) w)
  (c1 : ∀ w : World, (callFunc 95 #[.int .u64 (lm x 1), .int .u64 (lm y 1), .int .u64 k0]).run Tryd.prog w = .ok (.value (.tuple #[.int .u64 (lm z 1), .int .u64 k1])) w)
  (c2 : ∀ w : World, (callFunc 95 #[.int .u64 (lm x 2), .int .u64 (lm y 2), .int .u64 k1]).run Tryd.prog w = .ok (.value (.tuple #[.int .u64 (lm z 2), .int .u64 k2])) w)
  (c3 : ∀ w : World, (callFunc 95 #[.int .u64 (lm x 3), .int .u64 (lm y 3), .int .u64 k2]).run Tryd.prog w = .ok (.value (.tuple #[.int .u64 (lm z 3), .int .u64 k3])) w) :
  Calls Tryd.prog 80 #[.agg #[.int .u64 (lm x 0), .int .u64 (lm x 1), .int .u64 (lm x 2), .int .u64 (lm x 3)], .agg #[.int .u64 (lm y 0), .int .u64 (lm y 1), .int .u64 (lm y 2), .int .u64 (lm y 3)]] w fun e w' => e = .returned (.tuple #[.agg #[.int .u64 (lm z 0), .int .u64 (lm z 1), .int .u64 (lm z 2), .int .u64 (lm z 3)], .bool (((k3 : Nat) : Int) != 0)]) ∧ Below w.heap.size w w' := by
 go_enter Tryd.func80, Tryd.ntmps80
 go_wp2
 refine wp_loop_rounds 5 ?_
 iterate 4 (rw [rounds_succ]; go_wp2; go_region; go_wp2)
 rw [rounds_succ]
 go_wp2
 refine bodyPost_ret (v := .tuple #[.agg #[.int .u64 (lm z 0), .int .u64 (lm z 1), .int .u64 (lm z 2), .int .u64 (lm z 3)], .bool (((k3 : Nat) : Int) != 0)]) (by simp [results, Tryd.results80, go_sem]) rfl ⟨rfl, ?_⟩
 go_grown
theorem limb_sub (x y : Nat) (hx : x < N) (hy : y < N) (w : World) :
  Calls Tryd.prog 80 #[.agg #[.int .u64 (lm x 0), .int .u64 (lm x 1), .int .u64 (lm x 2), .int .u64 (lm x 3)], .agg #[.int .u64 (lm y 0), .int .u64 (lm y 1), .int .u64 (lm y 2), .int .u64 (lm y 3)]] w fun e w' => e = .returned (.tuple #[.agg #[.int .u64 (lm ((x + N - y) % N) 0), .int .u64 (lm ((x + N - y) % N) 1), .int .u64 (lm ((x + N - y) % N) 2), .int .u64 (lm ((x + N - y) % N) 3)], .bool (decide (x < y))]) ∧ Below w.heap.size w w' := by
 obtain ⟨k0, k1, k2, k3, b0, b1, b2, s0, e0, s1, e1, s2, e2, s3, e3, e⟩ := sub_chain hx hy
 rw [← bne_of_ite e]
 exact limb_sub_walk x y _ k0 k1 k2 k3 w (call_sub _ _ 0 _ _ (by omega) s0 e0) (call_sub _ _ _ _ _ b0 s1 e1) (call_sub _ _ _ _ _ b1 s2 e2) (call_sub _ _ _ _ _ b2 s3 e3)
end Go.Proofs.YtkckmpnkacdchaaDoor
