/- The field's functions as the laws call them. -/
import Derived.Test.YtijnfclocanhkaaDoorFel5
import Derived.Test.YtijnfclocanhkaaDoorFmat
set_option linter.unusedVariables false
set_option linter.unusedSimpArgs false
namespace Go.Proofs.YtijnfclocanhkaaDoor
open Go.RowKit Go.Num Go.Sx

theorem yadd_g (T : TypeId) {n : Int} {m : Nat} (h0 : 0 ≤ n) (h3 : n ≤ 3) (hm : m = Mo n) (a b : Nat) (ha : a < N) (hb : b < N) {r : Nat} (hr : r = (a + b) % m) : CallG Tryd.prog (LF T) 29 #[.int .i64 n, .agg #[.int .u64 (lm a 0), .int .u64 (lm a 1), .int .u64 (lm a 2), .int .u64 (lm a 3)], .agg #[.int .u64 (lm b 0), .int .u64 (lm b 1), .int .u64 (lm b 2), .int .u64 (lm b 3)]] (.agg #[.int .u64 (lm r 0), .int .u64 (lm r 1), .int .u64 (lm r 2), .int .u64 (lm r 3)]) := by
  subst hm
  exact xadd_g T h0 h3 a b ha hb hr

theorem ysub_g (T : TypeId) {n : Int} {m : Nat} (h0 : 0 ≤ n) (h3 : n ≤ 3) (hm : m = Mo n) (a b : Nat) (ha : a < N) (hb : b < N) {r : Nat} (hr : r = sb m a b) : CallG Tryd.prog (LF T) 30 #[.int .i64 n, .agg #[.int .u64 (lm a 0), .int .u64 (lm a 1), .int .u64 (lm a 2), .int .u64 (lm a 3)], .agg #[.int .u64 (lm b 0), .int .u64 (lm b 1), .int .u64 (lm b 2), .int .u64 (lm b 3)]] (.agg #[.int .u64 (lm r 0), .int .u64 (lm r 1), .int .u64 (lm r 2), .int .u64 (lm r 3)]) := by
  subst hm
  exact xsub_g T h0 h3 a b ha hb hr

theorem ymul_g (T : TypeId) {n : Int} {m : Nat} (h0 : 0 ≤ n) (h3 : n ≤ 3) (hm : m = Mo n) (a b : Nat) (ha : a < N) (hb : b < N) {r : Nat} (hr : r = a * b % m) : CallG Tryd.prog (LF T) 24 #[.int .i64 n, .agg #[.int .u64 (lm a 0), .int .u64 (lm a 1), .int .u64 (lm a 2), .int .u64 (lm a 3)], .agg #[.int .u64 (lm b 0), .int .u64 (lm b 1), .int .u64 (lm b 2), .int .u64 (lm b 3)]] (.agg #[.int .u64 (lm r 0), .int .u64 (lm r 1), .int .u64 (lm r 2), .int .u64 (lm r 3)]) := by
  subst hm
  exact xmul_g T h0 h3 a b ha hb hr

theorem ypow_g (T : TypeId) {n : Int} {m : Nat} (h0 : 0 ≤ n) (h3 : n ≤ 3) (hm : m = Mo n) (a e : Nat) (ha : a < N) (he : e < N) {r : Nat} (hr : r = a ^ e % m) : CallG Tryd.prog (LF T) 23 #[.int .i64 n, .agg #[.int .u64 (lm a 0), .int .u64 (lm a 1), .int .u64 (lm a 2), .int .u64 (lm a 3)], .agg #[.int .u64 (lm e 0), .int .u64 (lm e 1), .int .u64 (lm e 2), .int .u64 (lm e 3)]] (.agg #[.int .u64 (lm r 0), .int .u64 (lm r 1), .int .u64 (lm r 2), .int .u64 (lm r 3)]) := by
  subst hm
  exact xpow_g T h0 h3 a e ha he hr

theorem yfold_g (T : TypeId) {n : Int} {m : Nat} (h0 : 0 ≤ n) (h3 : n ≤ 3) (hm : m = Mo n) (a : Nat) (ha : a < N) {r : Nat} (hr : r = a % m) : CallG Tryd.prog (LF T) 25 #[.int .i64 n, .agg #[.int .u64 (lm a 0), .int .u64 (lm a 1), .int .u64 (lm a 2), .int .u64 (lm a 3)]] (.agg #[.int .u64 (lm r 0), .int .u64 (lm r 1), .int .u64 (lm r 2), .int .u64 (lm r 3)]) := by
  subst hm
  exact xfold_g T h0 h3 a ha hr

theorem yinv_g (T : TypeId) {n : Int} {m : Nat} (h0 : 0 ≤ n) (h3 : n ≤ 3) (hm : m = Mo n) (a : Nat) (ha : a < N) {r : Nat} (hr : r = a ^ (m - 2) % m) : CallG Tryd.prog (LF T) 27 #[.int .i64 n, .agg #[.int .u64 (lm a 0), .int .u64 (lm a 1), .int .u64 (lm a 2), .int .u64 (lm a 3)]] (.agg #[.int .u64 (lm r 0), .int .u64 (lm r 1), .int .u64 (lm r 2), .int .u64 (lm r 3)]) := by
  subst hm
  exact xinv_g T h0 h3 a ha hr

theorem lm_small {s : Nat} (h : s < B) : lm s 0 = s ∧ lm s 1 = 0 ∧ lm s 2 = 0 ∧ lm s 3 = 0 := by
  unfold lm
  refine ⟨by rw [Nat.pow_zero, Nat.div_one, Nat.mod_eq_of_lt h], ?_, ?_, ?_⟩
  · rw [Nat.div_eq_of_lt (by rw [Nat.pow_one]; exact h), Nat.zero_mod]
  · rw [Nat.div_eq_of_lt (Nat.lt_of_lt_of_le h (Nat.le_self_pow (by decide) B)), Nat.zero_mod]
  · rw [Nat.div_eq_of_lt (Nat.lt_of_lt_of_le h (Nat.le_self_pow (by decide) B)), Nat.zero_mod]
theorem ypow1_g (T : TypeId) {n : Int} {m : Nat} (h0 : 0 ≤ n) (h3 : n ≤ 3) (hm : m = Mo n) (a s : Nat) (E : Int) (ha : a < N) (hE : E = (s : Nat)) (hs : s < B) {r : Nat} (hr : r = a ^ s % m) :
    CallG Tryd.prog (LF T) 23 #[.int .i64 n, .agg #[.int .u64 (lm a 0), .int .u64 (lm a 1), .int .u64 (lm a 2), .int .u64 (lm a 3)], .agg #[.int .u64 E, .int .u64 (0 : Int), .int .u64 (0 : Int), .int .u64 (0 : Int)]] (.agg #[.int .u64 (lm r 0), .int .u64 (lm r 1), .int .u64 (lm r 2), .int .u64 (lm r 3)]) := by
  subst hE
  obtain ⟨e0, e1, e2, e3⟩ := lm_small hs
  have h := ypow_g T h0 h3 hm a s ha (Nat.lt_trans hs (by decide)) hr
  rw [e0, e1, e2, e3] at h
  exact h

theorem m_gt {n : Int} {m : Nat} (h0 : 0 ≤ n) (h3 : n ≤ 3) (hm : m = Mo n) : 1 < m ∧ m < N := by
  subst hm
  exact ⟨(gm h0 h3).h0, (gm h0 h3).hm⟩


set_option maxHeartbeats 4000000 in
theorem awake02_run  (T : TypeId) (w : World) (hK : (LF T).K ≤ w.heap.size) (hG : (LF T).G w) : Calls Tryd.prog 20 #[] w fun e w' => e = .returned (.bool true) ∧ Below w.heap.size w w' := by
  have hrun := calls_of_runG (P := Tryd.prog) (v := ⟨fun n => ([((lm 15 0 : Nat) : Int), ((lm 15 1 : Nat) : Int), ((lm 15 2 : Nat) : Int), ((lm 15 3 : Nat) : Int)] : List Int).getD n 0, fun n => ([] : List Bool).getD n false, fun n => ([] : List (List Int)).getD n [], fun n => ([] : List (List (List Int))).getD n [], LF T, w⟩) (gs := []) (fuel := 3000) (nv := 0) (args := []) (ora := []) (sums := []) (res := [(.sc (.bool (.and (.cmp .eql (.var 0) (.lit 15)) (.and (.cmp .eql (.var 1) (.lit 0)) (.and (.cmp .eql (.var 2) (.lit 0)) (.cmp .eql (.var 3) (.lit 0)))))))]) (ev := [.call 24 [(.sc (.int .i64 (.lit 2))), (.agg [.int .u64 (.lit 3), .int .u64 (.lit 0), .int .u64 (.lit 0), .int .u64 (.lit 0)]), (.agg [.int .u64 (.lit 5), .int .u64 (.lit 0), .int .u64 (.lit 0), .int .u64 (.lit 0)])] (.one (.agg [.int .u64 (.var 0), .int .u64 (.var 1), .int .u64 (.var 2), .int .u64 (.var 3)]))]) (lev := []) Tryd.func20 (by kernel_rfl) (by kernel_rfl)
    (evs_of ⟨?_, trivial⟩) (by simp) (GsOk.nil _) hK hG
  · (exact calls_eq hrun (by kernel_rfl))
  · exact xmul_g T (n := 2) (by decide) (by decide) 3 5 (by decide) (by decide) (r := 15) (by decide +kernel)

theorem awake02_g (T : TypeId) : CallG Tryd.prog (LF T) 20 #[] (.bool true) :=
  callG_of Tryd.func20 (by kernel_rfl) (by kernel_rfl) (fun w hK hG => awake02_run T w hK hG)

end Go.Proofs.YtijnfclocanhkaaDoor
