/- The field's functions as the laws call them. -/
import Derived.Test.YtdgjlcmedkmgbaaDoorFel5
import Derived.Test.YtdgjlcmedkmgbaaDoorFmat
set_option linter.unusedVariables false
set_option linter.unusedSimpArgs false
namespace Go.Proofs.YtdgjlcmedkmgbaaDoor
open Go.RowKit Go.Num Go.Sx

theorem yadd_g (T : TypeId) {n : Int} {m : Nat} (h0 : 0 ≤ n) (h3 : n ≤ 3) (hm : m = Mo n) (a b : Nat) (ha : a < N) (hb : b < N) {r : Nat} (hr : r = (a + b) % m) : CallG Tryd.prog (LF T) 66 #[.int .i64 n, .agg #[.int .u64 (lm a 0), .int .u64 (lm a 1), .int .u64 (lm a 2), .int .u64 (lm a 3)], .agg #[.int .u64 (lm b 0), .int .u64 (lm b 1), .int .u64 (lm b 2), .int .u64 (lm b 3)]] (.agg #[.int .u64 (lm r 0), .int .u64 (lm r 1), .int .u64 (lm r 2), .int .u64 (lm r 3)]) := by
  subst hm
  exact xadd_g T h0 h3 a b ha hb hr

theorem ysub_g (T : TypeId) {n : Int} {m : Nat} (h0 : 0 ≤ n) (h3 : n ≤ 3) (hm : m = Mo n) (a b : Nat) (ha : a < N) (hb : b < N) {r : Nat} (hr : r = sb m a b) : CallG Tryd.prog (LF T) 65 #[.int .i64 n, .agg #[.int .u64 (lm a 0), .int .u64 (lm a 1), .int .u64 (lm a 2), .int .u64 (lm a 3)], .agg #[.int .u64 (lm b 0), .int .u64 (lm b 1), .int .u64 (lm b 2), .int .u64 (lm b 3)]] (.agg #[.int .u64 (lm r 0), .int .u64 (lm r 1), .int .u64 (lm r 2), .int .u64 (lm r 3)]) := by
  subst hm
  exact xsub_g T h0 h3 a b ha hb hr

theorem ymul_g (T : TypeId) {n : Int} {m : Nat} (h0 : 0 ≤ n) (h3 : n ≤ 3) (hm : m = Mo n) (a b : Nat) (ha : a < N) (hb : b < N) {r : Nat} (hr : r = a * b % m) : CallG Tryd.prog (LF T) 64 #[.int .i64 n, .agg #[.int .u64 (lm a 0), .int .u64 (lm a 1), .int .u64 (lm a 2), .int .u64 (lm a 3)], .agg #[.int .u64 (lm b 0), .int .u64 (lm b 1), .int .u64 (lm b 2), .int .u64 (lm b 3)]] (.agg #[.int .u64 (lm r 0), .int .u64 (lm r 1), .int .u64 (lm r 2), .int .u64 (lm r 3)]) := by
  subst hm
  exact xmul_g T h0 h3 a b ha hb hr

theorem ypow_g (T : TypeId) {n : Int} {m : Nat} (h0 : 0 ≤ n) (h3 : n ≤ 3) (hm : m = Mo n) (a e : Nat) (ha : a < N) (he : e < N) {r : Nat} (hr : r = a ^ e % m) : CallG Tryd.prog (LF T) 59 #[.int .i64 n, .agg #[.int .u64 (lm a 0), .int .u64 (lm a 1), .int .u64 (lm a 2), .int .u64 (lm a 3)], .agg #[.int .u64 (lm e 0), .int .u64 (lm e 1), .int .u64 (lm e 2), .int .u64 (lm e 3)]] (.agg #[.int .u64 (lm r 0), .int .u64 (lm r 1), .int .u64 (lm r 2), .int .u64 (lm r 3)]) := by
  subst hm
  exact xpow_g T h0 h3 a e ha he hr


theorem yinv_g (T : TypeId) {n : Int} {m : Nat} (h0 : 0 ≤ n) (h3 : n ≤ 3) (hm : m = Mo n) (a : Nat) (ha : a < N) {r : Nat} (hr : r = a ^ (m - 2) % m) : CallG Tryd.prog (LF T) 58 #[.int .i64 n, .agg #[.int .u64 (lm a 0), .int .u64 (lm a 1), .int .u64 (lm a 2), .int .u64 (lm a 3)]] (.agg #[.int .u64 (lm r 0), .int .u64 (lm r 1), .int .u64 (lm r 2), .int .u64 (lm r 3)]) := by
  subst hm
  exact xinv_g T h0 h3 a ha hr

theorem lm_small {s : Nat} (h : s < B) : lm s 0 = s ∧ lm s 1 = 0 ∧ lm s 2 = 0 ∧ lm s 3 = 0 := by
  unfold lm
  refine ⟨by rw [Nat.pow_zero, Nat.div_one, Nat.mod_eq_of_lt h], ?_, ?_, ?_⟩
  · rw [Nat.div_eq_of_lt (by rw [Nat.pow_one]; exact h), Nat.zero_mod]
  · rw [Nat.div_eq_of_lt (Nat.lt_of_lt_of_le h (Nat.le_self_pow (by decide) B)), Nat.zero_mod]
  · rw [Nat.div_eq_of_lt (Nat.lt_of_lt_of_le h (Nat.le_self_pow (by decide) B)), Nat.zero_mod]
theorem ypow1_g (T : TypeId) {n : Int} {m : Nat} (h0 : 0 ≤ n) (h3 : n ≤ 3) (hm : m = Mo n) (a s : Nat) (E : Int) (ha : a < N) (hE : E = (s : Nat)) (hs : s < B) {r : Nat} (hr : r = a ^ s % m) :
    CallG Tryd.prog (LF T) 59 #[.int .i64 n, .agg #[.int .u64 (lm a 0), .int .u64 (lm a 1), .int .u64 (lm a 2), .int .u64 (lm a 3)], .agg #[.int .u64 E, .int .u64 (0 : Int), .int .u64 (0 : Int), .int .u64 (0 : Int)]] (.agg #[.int .u64 (lm r 0), .int .u64 (lm r 1), .int .u64 (lm r 2), .int .u64 (lm r 3)]) := by
  subst hE
  obtain ⟨e0, e1, e2, e3⟩ := lm_small hs
  have h := ypow_g T h0 h3 hm a s ha (Nat.lt_trans hs (by decide)) hr
  rw [e0, e1, e2, e3] at h
  exact h

theorem m_gt {n : Int} {m : Nat} (h0 : 0 ≤ n) (h3 : n ≤ 3) (hm : m = Mo n) : 1 < m ∧ m < N := by
  subst hm
  exact ⟨(gm h0 h3).h0, (gm h0 h3).hm⟩




end Go.Proofs.YtdgjlcmedkmgbaaDoor
