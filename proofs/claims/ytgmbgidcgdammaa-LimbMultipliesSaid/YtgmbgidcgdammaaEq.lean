/- '==' on Nat and Wide in this program, for the walks. -/
import Derived.Test.YtgmbgidcgdammaaCalls
import Derived.Test.YtgmbgidcgdammaaProg
namespace Go.Proofs.Ytgmbgidcgdammaa
open Go.RowKit Go.Num

@[go_sem] theorem wrap_bit (x i : Nat) : IntKind.u64.wrap (bit x i : Int) = (bit x i : Int) := by
  have h := bit_lt x i
  rw [IntKind.wrap_u64]
  omega

theorem held_set {W X : World} (h : (∀ b o, b < W.heap.size → X.cell? ⟨b, o, none⟩ = W.cell? ⟨b, o, none⟩) ∧ Below W.heap.size W X) {a : Addr} (ha : W.heap.size ≤ a.block) (v : Value) :
    (∀ b o', b < W.heap.size → (X.setCell a v).cell? ⟨b, o', none⟩ = W.cell? ⟨b, o', none⟩) ∧ Below W.heap.size W (X.setCell a v) :=
  held_of (h.2.setCell ha v)

theorem bit_half (x i : Nat) : bit (x / 2) i = bit x (i + 1) := by
  unfold bit
  rw [Nat.div_div_eq_div_mul, Nat.pow_succ, Nat.mul_comm]

theorem bit_out {x i : Nat} (hx : x < N) (hi : 256 ≤ i) : bit x i = 0 := by
  unfold bit
  have h : x < 2 ^ i := Nat.lt_of_lt_of_le (show x < 2 ^ 256 from hx) (Nat.pow_le_pow_right (by decide) hi)
  rw [Nat.div_eq_of_lt h]

theorem info_u64 : ∃ i, Try.prog.info? 22 = some i := Option.isSome_iff_exists.1 (by kernel_rfl)

@[go_sem] theorem eql_nat (x y : Nat) (w : World) : (Op.equalIn 10000 24 (.agg #[.int .u64 (lm x 0), .int .u64 (lm x 1), .int .u64 (lm x 2), .int .u64 (lm x 3)]) (.agg #[.int .u64 (lm y 0), .int .u64 (lm y 1), .int .u64 (lm y 2), .int .u64 (lm y 3)])).run Try.prog w = .ok (decide (x % N = y % N)) w := by
  obtain ⟨i, hi⟩ := info_u64
  exact run_eql_limbs4 Try.underlying24 hi (by kernel_rfl) Try.underlying22 (by kernel_rfl) x y w

@[go_sem] theorem guard_nat : Try.prog.eqGuardType Try.prog.depth 24 = false := by kernel_rfl

@[go_sem] theorem eql_wide (x y : Nat) (w : World) : (Op.equalIn 10000 42 (.agg #[.int .u64 (lm x 0), .int .u64 (lm x 1), .int .u64 (lm x 2), .int .u64 (lm x 3), .int .u64 (lm x 4), .int .u64 (lm x 5), .int .u64 (lm x 6), .int .u64 (lm x 7)]) (.agg #[.int .u64 (lm y 0), .int .u64 (lm y 1), .int .u64 (lm y 2), .int .u64 (lm y 3), .int .u64 (lm y 4), .int .u64 (lm y 5), .int .u64 (lm y 6), .int .u64 (lm y 7)])).run Try.prog w = .ok (decide (x % W = y % W)) w := by
  obtain ⟨i, hi⟩ := info_u64
  exact run_eql_limbs8 Try.underlying42 hi (by kernel_rfl) Try.underlying22 (by kernel_rfl) x y w

@[go_sem] theorem guard_wide : Try.prog.eqGuardType Try.prog.depth 42 = false := by kernel_rfl

end Go.Proofs.Ytgmbgidcgdammaa
