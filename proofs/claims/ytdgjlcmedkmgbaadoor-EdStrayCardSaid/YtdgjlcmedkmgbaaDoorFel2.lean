/- The modulus' methods, run. -/
import Derived.Test.YtdgjlcmedkmgbaaDoorFel1
import Derived.Test.YtdgjlcmedkmgbaaDoorLimE
set_option linter.unusedVariables false
set_option linter.unusedSimpArgs false
namespace Go.Proofs.YtdgjlcmedkmgbaaDoor
open Go.RowKit Go.Num Go.Sx
theorem cmp_more {m x : Nat} (h : m ≤ x) : decide (cmpN x m ≥ 0) = true := by
  have := cmpN_neg x m
  simp at this ⊢
  omega
theorem cmp_last {m x : Nat} (h : x < m) : decide (cmpN x m ≥ 0) = false := by
  have := cmpN_neg x m
  simp at this ⊢
  omega
theorem sub_red {m x : Nat} (h : m ≤ x) (hx : x < N) : (x + N - m) % N = x - m := by
  rw [show x + N - m = (x - m) + N by omega, Nat.add_mod_right, Nat.mod_eq_of_lt (by omega)]
abbrev fold_loop_env (w : World) (m sq iv : Nat) (a : Nat) (x : Nat) : Env := ⟨envI [((lm m 0 : Nat) : Int), ((lm m 1 : Nat) : Int), ((lm m 2 : Nat) : Int), ((lm m 3 : Nat) : Int), ((lm sq 0 : Nat) : Int), ((lm sq 1 : Nat) : Int), ((lm sq 2 : Nat) : Int), ((lm sq 3 : Nat) : Int), ((iv : Nat) : Int), ((lm a 0 : Nat) : Int), ((lm a 1 : Nat) : Int), ((lm a 2 : Nat) : Int), ((lm a 3 : Nat) : Int), ((lm x 0 : Nat) : Int), ((lm x 1 : Nat) : Int), ((lm x 2 : Nat) : Int), ((lm x 3 : Nat) : Int)], envB [], envL [], envP [], L0, w⟩
abbrev fold_loop_head : Fm := ⟨[(.one (.agg [.v 0, .v 1, .v 2, .v 3, .v 4, .v 5, .v 6, .v 7, .v 8])), (.one (.agg [.v 9, .v 10, .v 11, .v 12])), (.one (.ptr 0 0)), (.one (.ptr 1 0)), (.one (.ptr 2 0)), .undef, .undef, .undef, .undef, .undef, .undef, .undef, .undef, .undef, .undef, .undef, .undef, .undef], [⟨78, [(.sc (.v 0)), (.sc (.v 1)), (.sc (.v 2)), (.sc (.v 3)), (.sc (.v 4)), (.sc (.v 5)), (.sc (.v 6)), (.sc (.v 7)), (.sc (.v 8))], false, true, false, none⟩, ⟨24, [(.sc (.v 13)), (.sc (.v 14)), (.sc (.v 15)), (.sc (.v 16))], false, true, false, none⟩, ⟨24, [(.sc (.n 0)), (.sc (.n 0)), (.sc (.n 0)), (.sc (.n 0))], false, true, false, none⟩], []⟩
abbrev fold_loop_pre : Fm := ⟨[(.one (.agg [.v 0, .v 1, .v 2, .v 3, .v 4, .v 5, .v 6, .v 7, .v 8])), (.one (.agg [.v 9, .v 10, .v 11, .v 12])), (.one (.ptr 0 0)), (.one (.ptr 1 0)), (.one (.ptr 2 0)), .undef, .undef, .undef, .undef, .undef, .undef, .undef, .undef, .undef, .undef, .undef, .undef, .undef], [⟨78, [(.sc (.v 0)), (.sc (.v 1)), (.sc (.v 2)), (.sc (.v 3)), (.sc (.v 4)), (.sc (.v 5)), (.sc (.v 6)), (.sc (.v 7)), (.sc (.v 8))], false, true, false, none⟩, ⟨24, [(.sc (.v 9)), (.sc (.v 10)), (.sc (.v 11)), (.sc (.v 12))], false, true, false, none⟩, ⟨24, [(.sc (.n 0)), (.sc (.n 0)), (.sc (.n 0)), (.sc (.n 0))], false, true, false, none⟩], []⟩
set_option maxHeartbeats 4000000 in
theorem fold_loop_more (w : World) (m sq iv : Nat) (a : Nat) (hm : m < N) (x : Nat) (hx : x < N) (h : m ≤ x) : Round Tryd.prog (loopOf Tryd.f75 0) fold_loop_head (fold_loop_env w m sq iv a x) .normal fold_loop_head (fold_loop_env w m sq iv a (x - m)) := by
  obtain ⟨r1, hr1⟩ : ∃ r : Int, r = cmpN x m := ⟨_, rfl⟩
  obtain ⟨r2, hr2⟩ : ∃ r : Nat, r = (x + N - m) % N := ⟨_, rfl⟩
  have br2 : r2 < N := (by rw [hr2]; exact Nat.mod_lt _ N_pos)
  obtain ⟨r3, hr3⟩ : ∃ r : Bool, r = decide (x < m) := ⟨_, rfl⟩
  refine Round.mk (⟨envI [((lm m 0 : Nat) : Int), ((lm m 1 : Nat) : Int), ((lm m 2 : Nat) : Int), ((lm m 3 : Nat) : Int), ((lm sq 0 : Nat) : Int), ((lm sq 1 : Nat) : Int), ((lm sq 2 : Nat) : Int), ((lm sq 3 : Nat) : Int), ((iv : Nat) : Int), ((lm a 0 : Nat) : Int), ((lm a 1 : Nat) : Int), ((lm a 2 : Nat) : Int), ((lm a 3 : Nat) : Int), ((lm x 0 : Nat) : Int), ((lm x 1 : Nat) : Int), ((lm x 2 : Nat) : Int), ((lm x 3 : Nat) : Int), r1, ((lm r2 0 : Nat) : Int), ((lm r2 1 : Nat) : Int), ((lm r2 2 : Nat) : Int), ((lm r2 3 : Nat) : Int)], envB [false, false, false, false, false, false, false, false, false, false, false, false, false, false, false, false, false, false, false, false, false, false, r3], envL [], envP [], L0, w⟩) [some 0, some 1, some 2] [(some 0), (some 1), (some 2)] 3000 17 [some true] [] ⟨⟨[(.one (.agg [.v 0, .v 1, .v 2, .v 3, .v 4, .v 5, .v 6, .v 7, .v 8])), (.one (.agg [.v 9, .v 10, .v 11, .v 12])), (.one (.ptr 0 0)), (.one (.ptr 1 0)), (.one (.ptr 2 0)), (.one (.agg [.v 13, .v 14, .v 15, .v 16])), (.one (.ptr 0 0)), (.one (.agg [.v 0, .v 1, .v 2, .v 3])), (.one (.sc (.int .i64 (.var 17)))), (.one (.sc (.bool (.lit true)))), (.tup [(.agg [.v 18, .v 19, .v 20, .v 21]), (.sc (.bool (.var 22)))]), (.one (.agg [.v 13, .v 14, .v 15, .v 16])), (.one (.ptr 0 0)), (.one (.agg [.v 0, .v 1, .v 2, .v 3])), (.tup [(.agg [.v 18, .v 19, .v 20, .v 21]), (.sc (.bool (.var 22)))]), (.one (.agg [.v 18, .v 19, .v 20, .v 21])), (.one (.sc (.bool (.var 22)))), .undef], [⟨78, [(.sc (.v 0)), (.sc (.v 1)), (.sc (.v 2)), (.sc (.v 3)), (.sc (.v 4)), (.sc (.v 5)), (.sc (.v 6)), (.sc (.v 7)), (.sc (.v 8))], false, true, false, none⟩, ⟨24, [(.sc (.v 18)), (.sc (.v 19)), (.sc (.v 20)), (.sc (.v 21))], false, true, false, none⟩, ⟨24, [(.sc (.n 0)), (.sc (.n 0)), (.sc (.n 0)), (.sc (.n 0))], false, true, false, none⟩], []⟩, 23, [], [], [.call 62 [(.agg [.v 13, .v 14, .v 15, .v 16]), (.agg [.v 0, .v 1, .v 2, .v 3])] (.one (.sc (.int .i64 (.var 17)))), .dec (.cmp .geq (.var 17) (.lit 0)) true, .call 73 [(.agg [.v 13, .v 14, .v 15, .v 16]), (.agg [.v 0, .v 1, .v 2, .v 3])] (.tup [(.agg [.v 18, .v 19, .v 20, .v 21]), (.sc (.bool (.var 22)))])], []⟩ (by (refine And.intro ?_ (And.intro ?_ (And.intro rfl (And.intro (by decide) (And.intro rfl rfl)))) <;> (repeat' (first | exact trivial | with_reducible rfl | refine And.intro ?_ ?_ | (show rn _ _ _; exact rfl) | (refine fun h => ?_; first | exact rfl | exact h) | simp only [I.den, I.ldn, Bx.den, envI, envB, envL, envP, List.getD_cons_succ, List.getD_cons_zero, List.getD_nil] | exact rfl)))) (by kernel_rfl) ⟨evs_of ⟨?_, ?_, ?_, trivial⟩, by simp⟩ ?_
  · exact CallP.g (limb_cmp_l x m (by first | assumption | exact Nat.mod_lt _ (by decide) | (show _ < _; decide) | omega) (by first | assumption | exact Nat.mod_lt _ (by decide) | (show _ < _; decide) | omega) hr1)
  · (show decide (r1 ≥ 0) = true; rw [hr1]; exact cmp_more h)
  · exact CallP.g (limb_sub_l x m (by first | assumption | exact Nat.mod_lt _ (by decide) | (show _ < _; decide) | omega) (by first | assumption | exact Nat.mod_lt _ (by decide) | (show _ < _; decide) | omega) hr2 hr3)
  · (refine And.intro ?_ (And.intro ?_ (And.intro rfl (And.intro (by decide) (And.intro rfl rfl)))) <;> (repeat' (first | exact trivial | with_reducible rfl | refine And.intro ?_ ?_ | (show rn _ _ _; exact rfl) | (refine fun h => ?_; first | exact rfl | exact h) | simp only [I.den, I.ldn, Bx.den, envI, envB, envL, envP, List.getD_cons_succ, List.getD_cons_zero, List.getD_nil] | exact rfl)))
    all_goals (rw [hr2, sub_red h hx])
set_option maxHeartbeats 4000000 in
theorem fold_loop_last (w : World) (m sq iv : Nat) (a : Nat) (hm : m < N) (x : Nat) (hx : x < N) (h : x < m) : Round Tryd.prog (loopOf Tryd.f75 0) fold_loop_head (fold_loop_env w m sq iv a x) (.exit 0) fold_loop_head (fold_loop_env w m sq iv a x) := by
  obtain ⟨r1, hr1⟩ : ∃ r : Int, r = cmpN x m := ⟨_, rfl⟩
  refine Round.mk (⟨envI [((lm m 0 : Nat) : Int), ((lm m 1 : Nat) : Int), ((lm m 2 : Nat) : Int), ((lm m 3 : Nat) : Int), ((lm sq 0 : Nat) : Int), ((lm sq 1 : Nat) : Int), ((lm sq 2 : Nat) : Int), ((lm sq 3 : Nat) : Int), ((iv : Nat) : Int), ((lm a 0 : Nat) : Int), ((lm a 1 : Nat) : Int), ((lm a 2 : Nat) : Int), ((lm a 3 : Nat) : Int), ((lm x 0 : Nat) : Int), ((lm x 1 : Nat) : Int), ((lm x 2 : Nat) : Int), ((lm x 3 : Nat) : Int), r1], envB [], envL [], envP [], L0, w⟩) [some 0, some 1, some 2] [(some 0), (some 1), (some 2)] 3000 17 [some false] [] ⟨⟨[(.one (.agg [.v 0, .v 1, .v 2, .v 3, .v 4, .v 5, .v 6, .v 7, .v 8])), (.one (.agg [.v 9, .v 10, .v 11, .v 12])), (.one (.ptr 0 0)), (.one (.ptr 1 0)), (.one (.ptr 2 0)), (.one (.agg [.v 13, .v 14, .v 15, .v 16])), (.one (.ptr 0 0)), (.one (.agg [.v 0, .v 1, .v 2, .v 3])), (.one (.sc (.int .i64 (.var 17)))), (.one (.sc (.bool (.lit false)))), .undef, .undef, .undef, .undef, .undef, .undef, .undef, .undef], [⟨78, [(.sc (.v 0)), (.sc (.v 1)), (.sc (.v 2)), (.sc (.v 3)), (.sc (.v 4)), (.sc (.v 5)), (.sc (.v 6)), (.sc (.v 7)), (.sc (.v 8))], false, true, false, none⟩, ⟨24, [(.sc (.v 13)), (.sc (.v 14)), (.sc (.v 15)), (.sc (.v 16))], false, true, false, none⟩, ⟨24, [(.sc (.n 0)), (.sc (.n 0)), (.sc (.n 0)), (.sc (.n 0))], false, true, false, none⟩], []⟩, 18, [], [], [.call 62 [(.agg [.v 13, .v 14, .v 15, .v 16]), (.agg [.v 0, .v 1, .v 2, .v 3])] (.one (.sc (.int .i64 (.var 17)))), .dec (.cmp .geq (.var 17) (.lit 0)) false], []⟩ (by (refine And.intro ?_ (And.intro ?_ (And.intro rfl (And.intro (by decide) (And.intro rfl rfl)))) <;> (repeat' (first | exact trivial | with_reducible rfl | refine And.intro ?_ ?_ | (show rn _ _ _; exact rfl) | (refine fun h => ?_; first | exact rfl | exact h) | simp only [I.den, I.ldn, Bx.den, envI, envB, envL, envP, List.getD_cons_succ, List.getD_cons_zero, List.getD_nil] | exact rfl)))) (by kernel_rfl) ⟨evs_of ⟨?_, ?_, trivial⟩, by simp⟩ ?_
  · exact CallP.g (limb_cmp_l x m (by first | assumption | exact Nat.mod_lt _ (by decide) | (show _ < _; decide) | omega) (by first | assumption | exact Nat.mod_lt _ (by decide) | (show _ < _; decide) | omega) hr1)
  · (show decide (r1 ≥ 0) = false; rw [hr1]; exact cmp_last h)
  · (refine And.intro ?_ (And.intro ?_ (And.intro rfl (And.intro (by decide) (And.intro rfl rfl)))) <;> (repeat' (first | exact trivial | with_reducible rfl | refine And.intro ?_ ?_ | (show rn _ _ _; exact rfl) | (refine fun h => ?_; first | exact rfl | exact h) | simp only [I.den, I.ldn, Bx.den, envI, envB, envL, envP, List.getD_cons_succ, List.getD_cons_zero, List.getD_nil] | exact rfl)))
theorem fold_rounds (w : World) (m sq iv a r : Nat) (hm : m < N) (ha : a < N) (h0 : 0 < m) (hr : r = a % m) (v : Env) {r0 r1 : List (Option Nat)} (start : Fm.to v (fold_loop_env w m sq iv a a) r0 fold_loop_pre fold_loop_head) (fin : Fm.to (fold_loop_env w m sq iv a r) v r1 fold_loop_head fold_loop_head) :
    LEv.holds Tryd.prog v ⟨loopOf Tryd.f75 0, fold_loop_pre, fold_loop_head, (.exit 0)⟩ := by
  subst hr
  have hq : a / m * m ≤ a := Nat.div_mul_le_self a m
  refine loop_rounds (r0 := r0) (n := a / m) (head := fold_loop_head) (fun k => fold_loop_env w m sq iv a (a - k * m)) ?_ ?_ (fold_loop_env w m sq iv a (a % m)) ?_ fin (by decide)
  · show Fm.to v (fold_loop_env w m sq iv a (a - 0 * m)) _ _ _
    rw [Nat.zero_mul, Nat.sub_zero]
    exact start
  · intro k hk
    show Round _ _ _ (fold_loop_env w m sq iv a (a - k * m)) _ _ (fold_loop_env w m sq iv a (a - (k + 1) * m))
    have h1 : (k + 1) * m ≤ a / m * m := Nat.mul_le_mul_right m hk
    rw [Nat.succ_mul] at h1 ⊢
    rw [← Nat.sub_sub]
    exact fold_loop_more w m sq iv a hm _ (by omega) (by omega)
  · show Round _ _ _ (fold_loop_env w m sq iv a (a - a / m * m)) _ _ _
    have e : a - a / m * m = a % m := by rw [Nat.mul_comm]; exact (Nat.mod_eq_sub_mul_div).symm
    rw [e]
    exact fold_loop_last w m sq iv a hm _ (Nat.lt_of_le_of_lt (Nat.mod_le a m) ha) (Nat.mod_lt _ h0)
set_option maxHeartbeats 4000000 in
theorem fold_run (m sq iv : Nat) (a : Nat) (hm : m < N) (ha : a < N) (h0 : 0 < m) (r : Nat) (hr : r = a % m) (w : World) : Calls Tryd.prog 75 #[.agg #[.int .u64 (lm m 0), .int .u64 (lm m 1), .int .u64 (lm m 2), .int .u64 (lm m 3), .int .u64 (lm sq 0), .int .u64 (lm sq 1), .int .u64 (lm sq 2), .int .u64 (lm sq 3), .int .u64 (iv : Nat)], .agg #[.int .u64 (lm a 0), .int .u64 (lm a 1), .int .u64 (lm a 2), .int .u64 (lm a 3)]] w fun e w' => e = .returned (.agg #[.int .u64 (lm r 0), .int .u64 (lm r 1), .int .u64 (lm r 2), .int .u64 (lm r 3)]) ∧ Below w.heap.size w w' := by
  have hrun := calls_of_runG (P := Tryd.prog) (v := ⟨envI [((lm m 0 : Nat) : Int), ((lm m 1 : Nat) : Int), ((lm m 2 : Nat) : Int), ((lm m 3 : Nat) : Int), ((lm sq 0 : Nat) : Int), ((lm sq 1 : Nat) : Int), ((lm sq 2 : Nat) : Int), ((lm sq 3 : Nat) : Int), ((iv : Nat) : Int), ((lm a 0 : Nat) : Int), ((lm a 1 : Nat) : Int), ((lm a 2 : Nat) : Int), ((lm a 3 : Nat) : Int), ((lm r 0 : Nat) : Int), ((lm r 1 : Nat) : Int), ((lm r 2 : Nat) : Int), ((lm r 3 : Nat) : Int)], envB [], envL [], envP [], L0, w⟩) (gs := []) (fuel := 3000) (nv := 13) (args := [(.agg [.v 0, .v 1, .v 2, .v 3, .v 4, .v 5, .v 6, .v 7, .v 8]), (.agg [.v 9, .v 10, .v 11, .v 12])]) (ora := []) (sums := [some ⟨[], [(1, ⟨24, [(.sc (.v 13)), (.sc (.v 14)), (.sc (.v 15)), (.sc (.v 16))], false, true, false, none⟩)], 17, (.exit 0)⟩]) (res := [(.agg [.v 13, .v 14, .v 15, .v 16])]) (ev := []) (lev := [⟨loopOf Tryd.f75 0, fold_loop_pre, fold_loop_head, (.exit 0)⟩]) Tryd.func75 (by kernel_rfl) (by kernel_rfl)
    (by simp) (levs_of ⟨?_, trivial⟩) (GsOk.nil _) (Nat.zero_le _) trivial
  · exact hrun
  · (refine fold_rounds w m sq iv a r hm ha h0 hr _ (r0 := [(some 0), (some 1), (some 2)]) (r1 := [some 0, some 1, some 2]) ?_ ?_ <;> (refine And.intro ?_ (And.intro ?_ (And.intro rfl (And.intro (by decide) (And.intro rfl rfl)))) <;> (repeat' (first | exact trivial | with_reducible rfl | refine And.intro ?_ ?_ | (show rn _ _ _; exact rfl) | (refine fun h => ?_; first | exact rfl | exact h) | simp only [I.den, I.ldn, Bx.den, envI, envB, envL, envP, List.getD_cons_succ, List.getD_cons_zero, List.getD_nil] | exact rfl))))
theorem fold_c (m sq iv a : Nat) (hm : m < N) (ha : a < N) (h0 : 0 < m) : CallP Tryd.prog 75 #[.agg #[.int .u64 (lm m 0), .int .u64 (lm m 1), .int .u64 (lm m 2), .int .u64 (lm m 3), .int .u64 (lm sq 0), .int .u64 (lm sq 1), .int .u64 (lm sq 2), .int .u64 (lm sq 3), .int .u64 (iv : Nat)], .agg #[.int .u64 (lm a 0), .int .u64 (lm a 1), .int .u64 (lm a 2), .int .u64 (lm a 3)]] (.agg #[.int .u64 (lm (a % m) 0), .int .u64 (lm (a % m) 1), .int .u64 (lm (a % m) 2), .int .u64 (lm (a % m) 3)]) :=
  callP_of Tryd.func75 (by kernel_rfl) (by kernel_rfl) (fun w => fold_run m sq iv a hm ha h0 _ rfl w)
theorem add_red {m a b : Nat} (hm : m < N) (ha : a < m) (hb : b < m) :
    (if (decide (N ≤ a + b) || !decide ((a + b) % N < m)) = true then ((a + b) % N + N - m) % N else (a + b) % N) = (a + b) % m := by
  rcases Nat.lt_or_ge (a + b) m with h | h
  · rw [Nat.mod_eq_of_lt (show a + b < N by omega), Nat.mod_eq_of_lt h, if_neg]
    simp; omega
  · rw [show (a + b) % m = a + b - m by rw [Nat.mod_eq_sub_mod h, Nat.mod_eq_of_lt (by omega)]]
    rcases Nat.lt_or_ge (a + b) N with h2 | h2
    · rw [Nat.mod_eq_of_lt h2, if_pos (by simp; omega), sub_red h h2]
    · rw [if_pos (by simp; omega), show (a + b) % N = a + b - N by rw [Nat.mod_eq_sub_mod h2, Nat.mod_eq_of_lt (by omega)]]
      rw [show a + b - N + N - m = a + b - m by omega, Nat.mod_eq_of_lt (by omega)]
theorem sub_red2 {m a b : Nat} (hm : m < N) (ha : a < m) (hb : b < m) :
    (if decide (a < b) = true then ((a + N - b) % N + m) % N else (a + N - b) % N) = (a + m - b) % m := by
  rcases Nat.lt_or_ge a b with h | h
  · rw [if_pos (by simpa using h), Nat.mod_eq_of_lt (show a + N - b < N by omega), show a + N - b + m = (a + m - b) + N by omega, Nat.add_mod_right, Nat.mod_eq_of_lt (by omega), Nat.mod_eq_of_lt (by omega)]
  · rw [if_neg (by simpa using h), sub_red h (by omega), show a + m - b = (a - b) + m by omega, Nat.add_mod_right, Nat.mod_eq_of_lt (by omega)]
set_option maxHeartbeats 4000000 in
theorem madd_run (m sq iv : Nat) (a : Nat) (b : Nat) (hm : m < N) (ha : a < m) (hb : b < m) (z : Nat) (hz : z = (a + b) % m) (w : World) : Calls Tryd.prog 80 #[.agg #[.int .u64 (lm m 0), .int .u64 (lm m 1), .int .u64 (lm m 2), .int .u64 (lm m 3), .int .u64 (lm sq 0), .int .u64 (lm sq 1), .int .u64 (lm sq 2), .int .u64 (lm sq 3), .int .u64 (iv : Nat)], .agg #[.int .u64 (lm a 0), .int .u64 (lm a 1), .int .u64 (lm a 2), .int .u64 (lm a 3)], .agg #[.int .u64 (lm b 0), .int .u64 (lm b 1), .int .u64 (lm b 2), .int .u64 (lm b 3)]] w fun e w' => e = .returned (.agg #[.int .u64 (lm z 0), .int .u64 (lm z 1), .int .u64 (lm z 2), .int .u64 (lm z 3)]) ∧ Below w.heap.size w w' := by
  have haN : a < N := Nat.lt_trans ha hm
  have hbN : b < N := Nat.lt_trans hb hm
  obtain ⟨r1, hr1⟩ : ∃ r : Nat, r = (a + b) % N := ⟨_, rfl⟩
  have br1 : r1 < N := (by rw [hr1]; exact Nat.mod_lt _ N_pos)
  obtain ⟨r2, hr2⟩ : ∃ r : Bool, r = decide (N ≤ a + b) := ⟨_, rfl⟩
  obtain ⟨r3, hr3⟩ : ∃ r : Nat, r = (r1 + N - m) % N := ⟨_, rfl⟩
  have br3 : r3 < N := (by rw [hr3]; exact Nat.mod_lt _ N_pos)
  obtain ⟨r4, hr4⟩ : ∃ r : Bool, r = decide (r1 < m) := ⟨_, rfl⟩
  obtain ⟨r5, hr5⟩ : ∃ r : Nat, r = if (if r2 = true then true else (!r4)) = true then r3 else r1 := ⟨_, rfl⟩
  have br5 : r5 < N := (by rw [hr5]; exact pick_lt br3 br1)
  have hrun := calls_of_runG (P := Tryd.prog) (v := ⟨envI [((lm m 0 : Nat) : Int), ((lm m 1 : Nat) : Int), ((lm m 2 : Nat) : Int), ((lm m 3 : Nat) : Int), ((lm sq 0 : Nat) : Int), ((lm sq 1 : Nat) : Int), ((lm sq 2 : Nat) : Int), ((lm sq 3 : Nat) : Int), ((iv : Nat) : Int), ((lm a 0 : Nat) : Int), ((lm a 1 : Nat) : Int), ((lm a 2 : Nat) : Int), ((lm a 3 : Nat) : Int), ((lm b 0 : Nat) : Int), ((lm b 1 : Nat) : Int), ((lm b 2 : Nat) : Int), ((lm b 3 : Nat) : Int), ((lm r1 0 : Nat) : Int), ((lm r1 1 : Nat) : Int), ((lm r1 2 : Nat) : Int), ((lm r1 3 : Nat) : Int), 0, ((lm r3 0 : Nat) : Int), ((lm r3 1 : Nat) : Int), ((lm r3 2 : Nat) : Int), ((lm r3 3 : Nat) : Int), 0, ((lm r5 0 : Nat) : Int), ((lm r5 1 : Nat) : Int), ((lm r5 2 : Nat) : Int), ((lm r5 3 : Nat) : Int)], envB [false, false, false, false, false, false, false, false, false, false, false, false, false, false, false, false, false, false, false, false, false, r2, false, false, false, false, r4], envL [], envP [], L0, w⟩) (gs := []) (fuel := 3000) (nv := 17) (args := [(.agg [.v 0, .v 1, .v 2, .v 3, .v 4, .v 5, .v 6, .v 7, .v 8]), (.agg [.v 9, .v 10, .v 11, .v 12]), (.agg [.v 13, .v 14, .v 15, .v 16])]) (ora := []) (sums := []) (res := [(.agg [.v 27, .v 28, .v 29, .v 30])]) (ev := [.call 69 [(.agg [.v 9, .v 10, .v 11, .v 12]), (.agg [.v 13, .v 14, .v 15, .v 16])] (.tup [(.agg [.v 17, .v 18, .v 19, .v 20]), (.sc (.bool (.var 21)))]), .call 73 [(.agg [.v 17, .v 18, .v 19, .v 20]), (.agg [.v 0, .v 1, .v 2, .v 3])] (.tup [(.agg [.v 22, .v 23, .v 24, .v 25]), (.sc (.bool (.var 26)))]), .call 85 [(.sc (.bool (.ite (.var 21) (.lit true) (.not (.var 26))))), (.agg [.v 22, .v 23, .v 24, .v 25]), (.agg [.v 17, .v 18, .v 19, .v 20])] (.one (.agg [.v 27, .v 28, .v 29, .v 30]))]) (lev := []) Tryd.func80 (by kernel_rfl) (by kernel_rfl)
    (evs_of ⟨?_, ?_, ?_, trivial⟩) (by simp) (GsOk.nil _) (Nat.zero_le _) trivial
  · (refine calls_eq hrun ?_; have E : z = r5 := (by rw [hz, hr5, or_ite, hr3, hr4, hr2, hr1]; exact (add_red hm ha hb).symm); rw [E]; rfl)
  · exact CallP.g (limb_add_l a b (by first | assumption | exact Nat.mod_lt _ (by decide) | (show _ < _; decide) | omega) (by first | assumption | exact Nat.mod_lt _ (by decide) | (show _ < _; decide) | omega) hr1 hr2)
  · exact CallP.g (limb_sub_l r1 m br1 (by first | assumption | exact Nat.mod_lt _ (by decide) | (show _ < _; decide) | omega) hr3 hr4)
  · exact CallP.g (limb_pick_l (if r2 = true then true else (!r4)) r3 r1 hr5)
theorem madd_c (m sq iv a b : Nat) (hm : m < N) (ha : a < m) (hb : b < m) : CallP Tryd.prog 80 #[.agg #[.int .u64 (lm m 0), .int .u64 (lm m 1), .int .u64 (lm m 2), .int .u64 (lm m 3), .int .u64 (lm sq 0), .int .u64 (lm sq 1), .int .u64 (lm sq 2), .int .u64 (lm sq 3), .int .u64 (iv : Nat)], .agg #[.int .u64 (lm a 0), .int .u64 (lm a 1), .int .u64 (lm a 2), .int .u64 (lm a 3)], .agg #[.int .u64 (lm b 0), .int .u64 (lm b 1), .int .u64 (lm b 2), .int .u64 (lm b 3)]] (.agg #[.int .u64 (lm ((a + b) % m) 0), .int .u64 (lm ((a + b) % m) 1), .int .u64 (lm ((a + b) % m) 2), .int .u64 (lm ((a + b) % m) 3)]) :=
  callP_of Tryd.func80 (by kernel_rfl) (by kernel_rfl) (fun w => madd_run m sq iv a b hm ha hb _ rfl w)
set_option maxHeartbeats 4000000 in
theorem msub_run (m sq iv : Nat) (a : Nat) (b : Nat) (hm : m < N) (ha : a < m) (hb : b < m) (z : Nat) (hz : z = (a + m - b) % m) (w : World) : Calls Tryd.prog 79 #[.agg #[.int .u64 (lm m 0), .int .u64 (lm m 1), .int .u64 (lm m 2), .int .u64 (lm m 3), .int .u64 (lm sq 0), .int .u64 (lm sq 1), .int .u64 (lm sq 2), .int .u64 (lm sq 3), .int .u64 (iv : Nat)], .agg #[.int .u64 (lm a 0), .int .u64 (lm a 1), .int .u64 (lm a 2), .int .u64 (lm a 3)], .agg #[.int .u64 (lm b 0), .int .u64 (lm b 1), .int .u64 (lm b 2), .int .u64 (lm b 3)]] w fun e w' => e = .returned (.agg #[.int .u64 (lm z 0), .int .u64 (lm z 1), .int .u64 (lm z 2), .int .u64 (lm z 3)]) ∧ Below w.heap.size w w' := by
  have haN : a < N := Nat.lt_trans ha hm
  have hbN : b < N := Nat.lt_trans hb hm
  obtain ⟨r1, hr1⟩ : ∃ r : Nat, r = (a + N - b) % N := ⟨_, rfl⟩
  have br1 : r1 < N := (by rw [hr1]; exact Nat.mod_lt _ N_pos)
  obtain ⟨r2, hr2⟩ : ∃ r : Bool, r = decide (a < b) := ⟨_, rfl⟩
  obtain ⟨r3, hr3⟩ : ∃ r : Nat, r = (r1 + m) % N := ⟨_, rfl⟩
  have br3 : r3 < N := (by rw [hr3]; exact Nat.mod_lt _ N_pos)
  obtain ⟨r4, hr4⟩ : ∃ r : Bool, r = decide (N ≤ r1 + m) := ⟨_, rfl⟩
  obtain ⟨r5, hr5⟩ : ∃ r : Nat, r = if r2 = true then r3 else r1 := ⟨_, rfl⟩
  have br5 : r5 < N := (by rw [hr5]; exact pick_lt br3 br1)
  have hrun := calls_of_runG (P := Tryd.prog) (v := ⟨envI [((lm m 0 : Nat) : Int), ((lm m 1 : Nat) : Int), ((lm m 2 : Nat) : Int), ((lm m 3 : Nat) : Int), ((lm sq 0 : Nat) : Int), ((lm sq 1 : Nat) : Int), ((lm sq 2 : Nat) : Int), ((lm sq 3 : Nat) : Int), ((iv : Nat) : Int), ((lm a 0 : Nat) : Int), ((lm a 1 : Nat) : Int), ((lm a 2 : Nat) : Int), ((lm a 3 : Nat) : Int), ((lm b 0 : Nat) : Int), ((lm b 1 : Nat) : Int), ((lm b 2 : Nat) : Int), ((lm b 3 : Nat) : Int), ((lm r1 0 : Nat) : Int), ((lm r1 1 : Nat) : Int), ((lm r1 2 : Nat) : Int), ((lm r1 3 : Nat) : Int), 0, ((lm r3 0 : Nat) : Int), ((lm r3 1 : Nat) : Int), ((lm r3 2 : Nat) : Int), ((lm r3 3 : Nat) : Int), 0, ((lm r5 0 : Nat) : Int), ((lm r5 1 : Nat) : Int), ((lm r5 2 : Nat) : Int), ((lm r5 3 : Nat) : Int)], envB [false, false, false, false, false, false, false, false, false, false, false, false, false, false, false, false, false, false, false, false, false, r2, false, false, false, false, r4], envL [], envP [], L0, w⟩) (gs := []) (fuel := 3000) (nv := 17) (args := [(.agg [.v 0, .v 1, .v 2, .v 3, .v 4, .v 5, .v 6, .v 7, .v 8]), (.agg [.v 9, .v 10, .v 11, .v 12]), (.agg [.v 13, .v 14, .v 15, .v 16])]) (ora := []) (sums := []) (res := [(.agg [.v 27, .v 28, .v 29, .v 30])]) (ev := [.call 73 [(.agg [.v 9, .v 10, .v 11, .v 12]), (.agg [.v 13, .v 14, .v 15, .v 16])] (.tup [(.agg [.v 17, .v 18, .v 19, .v 20]), (.sc (.bool (.var 21)))]), .call 69 [(.agg [.v 17, .v 18, .v 19, .v 20]), (.agg [.v 0, .v 1, .v 2, .v 3])] (.tup [(.agg [.v 22, .v 23, .v 24, .v 25]), (.sc (.bool (.var 26)))]), .call 85 [(.sc (.bool (.var 21))), (.agg [.v 22, .v 23, .v 24, .v 25]), (.agg [.v 17, .v 18, .v 19, .v 20])] (.one (.agg [.v 27, .v 28, .v 29, .v 30]))]) (lev := []) Tryd.func79 (by kernel_rfl) (by kernel_rfl)
    (evs_of ⟨?_, ?_, ?_, trivial⟩) (by simp) (GsOk.nil _) (Nat.zero_le _) trivial
  · (refine calls_eq hrun ?_; have E : z = r5 := (by rw [hz, hr5, hr3, hr2, hr1]; exact (sub_red2 hm ha hb).symm); rw [E]; rfl)
  · exact CallP.g (limb_sub_l a b (by first | assumption | exact Nat.mod_lt _ (by decide) | (show _ < _; decide) | omega) (by first | assumption | exact Nat.mod_lt _ (by decide) | (show _ < _; decide) | omega) hr1 hr2)
  · exact CallP.g (limb_add_l r1 m br1 (by first | assumption | exact Nat.mod_lt _ (by decide) | (show _ < _; decide) | omega) hr3 hr4)
  · exact CallP.g (limb_pick_l r2 r3 r1 hr5)
theorem msub_c (m sq iv a b : Nat) (hm : m < N) (ha : a < m) (hb : b < m) : CallP Tryd.prog 79 #[.agg #[.int .u64 (lm m 0), .int .u64 (lm m 1), .int .u64 (lm m 2), .int .u64 (lm m 3), .int .u64 (lm sq 0), .int .u64 (lm sq 1), .int .u64 (lm sq 2), .int .u64 (lm sq 3), .int .u64 (iv : Nat)], .agg #[.int .u64 (lm a 0), .int .u64 (lm a 1), .int .u64 (lm a 2), .int .u64 (lm a 3)], .agg #[.int .u64 (lm b 0), .int .u64 (lm b 1), .int .u64 (lm b 2), .int .u64 (lm b 3)]] (.agg #[.int .u64 (lm ((a + m - b) % m) 0), .int .u64 (lm ((a + m - b) % m) 1), .int .u64 (lm ((a + m - b) % m) 2), .int .u64 (lm ((a + m - b) % m) 3)]) :=
  callP_of Tryd.func79 (by kernel_rfl) (by kernel_rfl) (fun w => msub_run m sq iv a b hm ha hb _ rfl w)
structure GM (m sq iv ni : Nat) : Prop where
  hm : m < N
  h0 : 1 < m
  biv : iv < B
  hiv : (iv * lm m 0 + 1) % B = 0
  hni : N * ni % m = 1 % m
  hsq : sq = N * N % m
theorem GM.sqlt {m sq iv ni : Nat} (g : GM m sq iv ni) : sq < m := by rw [g.hsq]; exact Nat.mod_lt _ (by have := g.h0; omega)
theorem hp_lt {m sq iv ni : Nat} (g : GM m sq iv ni) (x y : Nat) : hp m ni x y < m := Nat.mod_lt _ (by have := g.h0; omega)
theorem hp_sq {m sq iv ni : Nat} (g : GM m sq iv ni) (x : Nat) : hp m ni x sq = x * N % m := by
  unfold hp
  have h : (N * N) * ni % m = N % m := by
    rw [Nat.mul_assoc, Nat.mul_mod, g.hni, ← Nat.mul_mod, Nat.mul_one]
  rw [g.hsq, Nat.mul_assoc, Nat.mul_mod, show (N * N % m * ni) % m = N % m by rw [Nat.mul_mod, Nat.mod_mod, ← Nat.mul_mod, h], ← Nat.mul_mod]
theorem hp_two {m sq iv ni : Nat} (g : GM m sq iv ni) (x y : Nat) : hp m ni (hp m ni x y) sq = x * y % m := by
  rw [hp_sq g]
  unfold hp
  rw [Nat.mul_mod, Nat.mod_mod, ← Nat.mul_mod, Nat.mul_assoc, Nat.mul_comm ni N, Nat.mul_mod, g.hni, ← Nat.mul_mod, Nat.mul_one]
theorem half_c2 {m sq iv ni : Nat} (g : GM m sq iv ni) (x y : Nat) (hx : x < N) (hy : y < m) : CallP Tryd.prog 84 #[.agg #[.int .u64 (lm m 0), .int .u64 (lm m 1), .int .u64 (lm m 2), .int .u64 (lm m 3), .int .u64 (lm sq 0), .int .u64 (lm sq 1), .int .u64 (lm sq 2), .int .u64 (lm sq 3), .int .u64 (iv : Nat)], .agg #[.int .u64 (lm x 0), .int .u64 (lm x 1), .int .u64 (lm x 2), .int .u64 (lm x 3)], .agg #[.int .u64 (lm y 0), .int .u64 (lm y 1), .int .u64 (lm y 2), .int .u64 (lm y 3)]] (.agg #[.int .u64 (lm (hp m ni x y) 0), .int .u64 (lm (hp m ni x y) 1), .int .u64 (lm (hp m ni x y) 2), .int .u64 (lm (hp m ni x y) 3)]) :=
  half_c m sq iv x y ni g.biv hx g.hm hy g.hiv g.hni
theorem half_e {m sq iv ni : Nat} (g : GM m sq iv ni) (x y : Nat) (hx : x < N) (hy : y < m) {r : Nat} (hr : r = hp m ni x y) : CallP Tryd.prog 84 #[.agg #[.int .u64 (lm m 0), .int .u64 (lm m 1), .int .u64 (lm m 2), .int .u64 (lm m 3), .int .u64 (lm sq 0), .int .u64 (lm sq 1), .int .u64 (lm sq 2), .int .u64 (lm sq 3), .int .u64 (iv : Nat)], .agg #[.int .u64 (lm x 0), .int .u64 (lm x 1), .int .u64 (lm x 2), .int .u64 (lm x 3)], .agg #[.int .u64 (lm y 0), .int .u64 (lm y 1), .int .u64 (lm y 2), .int .u64 (lm y 3)]] (.agg #[.int .u64 (lm r 0), .int .u64 (lm r 1), .int .u64 (lm r 2), .int .u64 (lm r 3)]) := by
  subst hr
  exact half_c2 g x y hx hy
set_option maxHeartbeats 4000000 in
theorem mmul_run (m sq iv : Nat) (a : Nat) (b : Nat) (ni : Nat) (g : GM m sq iv ni) (ha : a < N) (hb : b < m) (h z : Nat) (hh : h = hp m ni a b) (hz : z = a * b % m) (w : World) : Calls Tryd.prog 78 #[.agg #[.int .u64 (lm m 0), .int .u64 (lm m 1), .int .u64 (lm m 2), .int .u64 (lm m 3), .int .u64 (lm sq 0), .int .u64 (lm sq 1), .int .u64 (lm sq 2), .int .u64 (lm sq 3), .int .u64 (iv : Nat)], .agg #[.int .u64 (lm a 0), .int .u64 (lm a 1), .int .u64 (lm a 2), .int .u64 (lm a 3)], .agg #[.int .u64 (lm b 0), .int .u64 (lm b 1), .int .u64 (lm b 2), .int .u64 (lm b 3)]] w fun e w' => e = .returned (.agg #[.int .u64 (lm z 0), .int .u64 (lm z 1), .int .u64 (lm z 2), .int .u64 (lm z 3)]) ∧ Below w.heap.size w w' := by
  have hrun := calls_of_runG (P := Tryd.prog) (v := ⟨envI [((lm m 0 : Nat) : Int), ((lm m 1 : Nat) : Int), ((lm m 2 : Nat) : Int), ((lm m 3 : Nat) : Int), ((lm sq 0 : Nat) : Int), ((lm sq 1 : Nat) : Int), ((lm sq 2 : Nat) : Int), ((lm sq 3 : Nat) : Int), ((iv : Nat) : Int), ((lm a 0 : Nat) : Int), ((lm a 1 : Nat) : Int), ((lm a 2 : Nat) : Int), ((lm a 3 : Nat) : Int), ((lm b 0 : Nat) : Int), ((lm b 1 : Nat) : Int), ((lm b 2 : Nat) : Int), ((lm b 3 : Nat) : Int), ((lm h 0 : Nat) : Int), ((lm h 1 : Nat) : Int), ((lm h 2 : Nat) : Int), ((lm h 3 : Nat) : Int), ((lm z 0 : Nat) : Int), ((lm z 1 : Nat) : Int), ((lm z 2 : Nat) : Int), ((lm z 3 : Nat) : Int)], envB [], envL [], envP [], L0, w⟩) (gs := []) (fuel := 3000) (nv := 17) (args := [(.agg [.v 0, .v 1, .v 2, .v 3, .v 4, .v 5, .v 6, .v 7, .v 8]), (.agg [.v 9, .v 10, .v 11, .v 12]), (.agg [.v 13, .v 14, .v 15, .v 16])]) (ora := []) (sums := []) (res := [(.agg [.v 21, .v 22, .v 23, .v 24])]) (ev := [.call 84 [(.agg [.v 0, .v 1, .v 2, .v 3, .v 4, .v 5, .v 6, .v 7, .v 8]), (.agg [.v 9, .v 10, .v 11, .v 12]), (.agg [.v 13, .v 14, .v 15, .v 16])] (.one (.agg [.v 17, .v 18, .v 19, .v 20])), .call 84 [(.agg [.v 0, .v 1, .v 2, .v 3, .v 4, .v 5, .v 6, .v 7, .v 8]), (.agg [.v 17, .v 18, .v 19, .v 20]), (.agg [.v 4, .v 5, .v 6, .v 7])] (.one (.agg [.v 21, .v 22, .v 23, .v 24]))]) (lev := []) Tryd.func78 (by kernel_rfl) (by kernel_rfl)
    (evs_of ⟨?_, ?_, trivial⟩) (by simp) (GsOk.nil _) (Nat.zero_le _) trivial
  · exact hrun
  · exact CallP.g (half_e g _ _ ha hb hh)
  · exact CallP.g (half_e g _ _ (by rw [hh]; exact Nat.lt_trans (hp_lt g _ _) g.hm) g.sqlt (by rw [hz, hh]; exact (hp_two g a b).symm))
theorem mmul_c {m sq iv ni : Nat} (g : GM m sq iv ni) (a b : Nat) (ha : a < N) (hb : b < m) : CallP Tryd.prog 78 #[.agg #[.int .u64 (lm m 0), .int .u64 (lm m 1), .int .u64 (lm m 2), .int .u64 (lm m 3), .int .u64 (lm sq 0), .int .u64 (lm sq 1), .int .u64 (lm sq 2), .int .u64 (lm sq 3), .int .u64 (iv : Nat)], .agg #[.int .u64 (lm a 0), .int .u64 (lm a 1), .int .u64 (lm a 2), .int .u64 (lm a 3)], .agg #[.int .u64 (lm b 0), .int .u64 (lm b 1), .int .u64 (lm b 2), .int .u64 (lm b 3)]] (.agg #[.int .u64 (lm (a * b % m) 0), .int .u64 (lm (a * b % m) 1), .int .u64 (lm (a * b % m) 2), .int .u64 (lm (a * b % m) 3)]) :=
  callP_of Tryd.func78 (by kernel_rfl) (by kernel_rfl) (fun w => mmul_run m sq iv a b ni g ha hb _ _ rfl rfl w)
end Go.Proofs.YtdgjlcmedkmgbaaDoor
