/- The field's functions as the laws call them. -/
import Derived.Test.YtkckmpnkacdchaaDoorFelM
set_option linter.unusedVariables false
set_option linter.unusedSimpArgs false
namespace Go.Proofs.YtkckmpnkacdchaaDoor
open Go.RowKit Go.Num Go.Sx
theorem yadd_g (T : TypeId) {n : Int} {m : Nat} (h0 : 0 ≤ n) (h3 : n ≤ 3) (hm : m = Mo n) (a b : Nat) (ha : a < N) (hb : b < N) {r : Nat} (hr : r = (a + b) % m) : CallG Tryd.prog (LF T) 29 #[.int .i64 n, .agg #[.int .u64 (lm a 0), .int .u64 (lm a 1), .int .u64 (lm a 2), .int .u64 (lm a 3)], .agg #[.int .u64 (lm b 0), .int .u64 (lm b 1), .int .u64 (lm b 2), .int .u64 (lm b 3)]] (.agg #[.int .u64 (lm r 0), .int .u64 (lm r 1), .int .u64 (lm r 2), .int .u64 (lm r 3)]) := by
 subst hm
 exact xadd_g T h0 h3 a b ha hb hr
theorem ysub_g (T : TypeId) {n : Int} {m : Nat} (h0 : 0 ≤ n) (h3 : n ≤ 3) (hm : m = Mo n) (a b : Nat) (ha : a < N) (hb : b < N) {r : Nat} (hr : r = sb m a b) : CallG Tryd.prog (LF T) 34 #[.int .i64 n, .agg #[.int .u64 (lm a 0), .int .u64 (lm a 1), .int .u64 (lm a 2), .int .u64 (lm a 3)], .agg #[.int .u64 (lm b 0), .int .u64 (lm b 1), .int .u64 (lm b 2), .int .u64 (lm b 3)]] (.agg #[.int .u64 (lm r 0), .int .u64 (lm r 1), .int .u64 (lm r 2), .int .u64 (lm r 3)]) := by
 subst hm
 exact xsub_g T h0 h3 a b ha hb hr
theorem ymul_g (T : TypeId) {n : Int} {m : Nat} (h0 : 0 ≤ n) (h3 : n ≤ 3) (hm : m = Mo n) (a b : Nat) (ha : a < N) (hb : b < N) {r : Nat} (hr : r = a * b % m) : CallG Tryd.prog (LF T) 30 #[.int .i64 n, .agg #[.int .u64 (lm a 0), .int .u64 (lm a 1), .int .u64 (lm a 2), .int .u64 (lm a 3)], .agg #[.int .u64 (lm b 0), .int .u64 (lm b 1), .int .u64 (lm b 2), .int .u64 (lm b 3)]] (.agg #[.int .u64 (lm r 0), .int .u64 (lm r 1), .int .u64 (lm r 2), .int .u64 (lm r 3)]) := by
 subst hm
 exact xmul_g T h0 h3 a b ha hb hr
theorem ypow_g (T : TypeId) {n : Int} {m : Nat} (h0 : 0 ≤ n) (h3 : n ≤ 3) (hm : m = Mo n) (a e : Nat) (ha : a < N) (he : e < N) {r : Nat} (hr : r = a ^ e % m) : CallG Tryd.prog (LF T) 49 #[.int .i64 n, .agg #[.int .u64 (lm a 0), .int .u64 (lm a 1), .int .u64 (lm a 2), .int .u64 (lm a 3)], .agg #[.int .u64 (lm e 0), .int .u64 (lm e 1), .int .u64 (lm e 2), .int .u64 (lm e 3)]] (.agg #[.int .u64 (lm r 0), .int .u64 (lm r 1), .int .u64 (lm r 2), .int .u64 (lm r 3)]) := by
 subst hm
 exact xpow_g T h0 h3 a e ha he hr
theorem yinv_g (T : TypeId) {n : Int} {m : Nat} (h0 : 0 ≤ n) (h3 : n ≤ 3) (hm : m = Mo n) (a : Nat) (ha : a < N) {r : Nat} (hr : r = a ^ (m - 2) % m) : CallG Tryd.prog (LF T) 46 #[.int .i64 n, .agg #[.int .u64 (lm a 0), .int .u64 (lm a 1), .int .u64 (lm a 2), .int .u64 (lm a 3)]] (.agg #[.int .u64 (lm r 0), .int .u64 (lm r 1), .int .u64 (lm r 2), .int .u64 (lm r 3)]) := by
 subst hm
 exact xinv_g T h0 h3 a ha hr
end Go.Proofs.YtkckmpnkacdchaaDoor
