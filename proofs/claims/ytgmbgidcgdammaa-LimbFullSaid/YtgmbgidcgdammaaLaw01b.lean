/- LimbFull, walked. -/
import Derived.Test.YtgmbgidcgdammaaLaw01a
namespace Go.Proofs.Ytgmbgidcgdammaa
open Go.RowKit Go.Num

/-- what a number lacks to 2 ^ 256 - 1 -/
def nt (x : Nat) : Nat := N - 1 - x % N

theorem nt_lm (x k : Nat) (hk : k < 4) : lm (nt x) k = B - 1 - lm x k := by
  have hx : x % N < N := Nat.mod_lt _ (by decide)
  rw [← lm_modN x k hk]
  unfold nt
  generalize x % N = y at *
  have e := num_lm hx
  have b0 := lm_lt y 0
  have b1 := lm_lt y 1
  have b2 := lm_lt y 2
  have b3 := lm_lt y 3
  have h : N - 1 - y = num (B - 1 - lm y 0) (B - 1 - lm y 1) (B - 1 - lm y 2) (B - 1 - lm y 3) := by
    rw [← e]
    rw [e]
    generalize lm y 0 = a at *
    generalize lm y 1 = b at *
    generalize lm y 2 = c at *
    generalize lm y 3 = d at *
    unfold num N B at *
    omega
  rw [h]
  have c0 : B - 1 - lm y 0 < B := by unfold B at *; omega
  have c1 : B - 1 - lm y 1 < B := by unfold B at *; omega
  have c2 : B - 1 - lm y 2 < B := by unfold B at *; omega
  have c3 : B - 1 - lm y 3 < B := by unfold B at *; omega
  obtain rfl | rfl | rfl | rfl : k = 0 ∨ k = 1 ∨ k = 2 ∨ k = 3 := by omega
  · exact lm0 c0
  · exact lm1 c0 c1
  · exact lm2 c0 c1 c2
  · exact lm3 c0 c1 c2 c3

theorem wrap_nt (x k : Nat) (hk : k < 4) : IntKind.u64.wrap (18446744073709551615 - (lm x k : Int)) = (lm (nt x) k : Int) := by
  rw [nt_lm x k hk, IntKind.wrap_u64]
  have h := lm_lt x k
  unfold B at *
  omega

@[go_sem] theorem wrap_nt0 (x : Nat) : IntKind.u64.wrap (18446744073709551615 - (lm x 0 : Int)) = (lm (nt x) 0 : Int) := wrap_nt x 0 (by decide)
@[go_sem] theorem wrap_nt1 (x : Nat) : IntKind.u64.wrap (18446744073709551615 - (lm x 1 : Int)) = (lm (nt x) 1 : Int) := wrap_nt x 1 (by decide)
@[go_sem] theorem wrap_nt2 (x : Nat) : IntKind.u64.wrap (18446744073709551615 - (lm x 2 : Int)) = (lm (nt x) 2 : Int) := wrap_nt x 2 (by decide)
@[go_sem] theorem wrap_nt3 (x : Nat) : IntKind.u64.wrap (18446744073709551615 - (lm x 3 : Int)) = (lm (nt x) 3 : Int) := wrap_nt x 3 (by decide)

def full : Nat := 115792089237316195423570985008687907853269984665640564039457584007913129639935
@[go_sem] theorem lit_full : (Value.agg #[.int .u64 18446744073709551615, .int .u64 18446744073709551615, .int .u64 18446744073709551615, .int .u64 18446744073709551615]) = .agg #[.int .u64 (lm full 0), .int .u64 (lm full 1), .int .u64 (lm full 2), .int .u64 (lm full 3)] := by
  rw [show lm full 0 = 18446744073709551615 from by decide +kernel, show lm full 1 = 18446744073709551615 from by decide +kernel,
    show lm full 2 = 18446744073709551615 from by decide +kernel, show lm full 3 = 18446744073709551615 from by decide +kernel]
  rfl

set_option maxHeartbeats 4000000 in
theorem limbFull_walk (x : Nat) (hx : x < N) (w : World) : Calls Try.prog 5 #[.agg #[.int .u64 (lm x 0), .int .u64 (lm x 1), .int .u64 (lm x 2), .int .u64 (lm x 3)]] w fun e w' => e = .returned (.bool true) ∧ Below w.heap.size w w' := by
  have hn : nt x < N := by unfold nt N; omega
  have hm : x % N = x := Nat.mod_eq_of_lt hx
  have hf : full = N - 1 := by decide +kernel
  have hsum : x + nt x = full := by rw [hf]; unfold nt; rw [hm]; unfold N at *; omega
  have h1 := limb_add x (nt x) hx hn
  rw [hsum, show full % N = full from by decide +kernel, show decide (N ≤ full) = false from by decide +kernel] at h1
  have h2 := limb_add full 1 (by decide +kernel) (by decide +kernel)
  rw [show (full + 1) % N = 0 from by decide +kernel, show decide (N ≤ full + 1) = true from by decide +kernel] at h2
  have h3 := limb_sub full x (by decide +kernel) hx
  rw [show (full + N - x) % N = nt x from by rw [hf]; unfold nt; rw [hm]; unfold N at *; omega, show decide (full < x) = false from decide_eq_false (by rw [hf]; omega)] at h3
  have H1 := Lib.hid h1
  have H2 := Lib.hid h2
  have H3 := Lib.hid h3
  clear h1 h2 h3 hsum hf hm hn hx
  go_enter Try.func5, Try.ntmps5
  go_wp2_with fail
  refine (H1.out _).mono ?_
  rintro e w1 ⟨rfl, hb1⟩
  obtain ⟨hc1, hf1⟩ := bcell hb1
  have hz1 := hb1.size
  try simp at hz1
  try have hy1 := Nat.lt_of_succ_le hz1
  have hB1 : Below w.heap.size w w1 := by (refine Below.trans ?_ (hb1.mono ?_)) <;> (repeat' (first | (with_reducible exact Below.refl _ _) | (with_reducible assumption) | (with_reducible refine Below.drewN' ?_ _) | (with_reducible refine Below.alloc ?_ ?_ _) | (with_reducible refine Below.drew ?_) | (with_reducible refine Below.setCell ?_ ?_ _) | go_size))
  have l_w_wp1 : w.heap.size < w.heap.size + 1 := (by omega); have m_w_wp1 : w.heap.size < w.heap.size + 1 + 1 := (by omega); have l_w_wp2 : w.heap.size < w.heap.size + 1 + 1 := (by omega); have m_w_wp2 : w.heap.size < w.heap.size + 1 + 1 + 1 := (by omega); have l_wp1_wp2 : w.heap.size + 1 < w.heap.size + 1 + 1 := (by omega); have m_wp1_wp2 : w.heap.size + 1 < w.heap.size + 1 + 1 + 1 := (by omega); have l_w_w1 : w.heap.size < w1.heap.size := (by omega); have m_w_w1 : w.heap.size < w1.heap.size + 1 := (by omega); have l_wp1_w1 : w.heap.size + 1 < w1.heap.size := (by omega); have m_wp1_w1 : w.heap.size + 1 < w1.heap.size + 1 := (by omega); have l_wp2_w1 : w.heap.size + 1 + 1 < w1.heap.size := (by omega); have m_wp2_w1 : w.heap.size + 1 + 1 < w1.heap.size + 1 := (by omega)
  go_wp2_with fail
  refine (H2.out _).mono ?_
  rintro e w2 ⟨rfl, hb2⟩
  obtain ⟨hc2, hf2⟩ := bcell hb2
  have hz2 := hb2.size
  try simp at hz2
  try have hy2 := Nat.lt_of_succ_le hz2
  have hB2 : Below w.heap.size w w2 := by (refine Below.trans ?_ (hb2.mono ?_)) <;> (repeat' (first | (with_reducible exact Below.refl _ _) | (with_reducible assumption) | (with_reducible refine Below.drewN' ?_ _) | (with_reducible refine Below.alloc ?_ ?_ _) | (with_reducible refine Below.drew ?_) | (with_reducible refine Below.setCell ?_ ?_ _) | go_size))
  have l_w_wp1 : w.heap.size < w.heap.size + 1 := (by omega); have m_w_wp1 : w.heap.size < w.heap.size + 1 + 1 := (by omega); have l_w_wp2 : w.heap.size < w.heap.size + 1 + 1 := (by omega); have m_w_wp2 : w.heap.size < w.heap.size + 1 + 1 + 1 := (by omega); have l_wp1_wp2 : w.heap.size + 1 < w.heap.size + 1 + 1 := (by omega); have m_wp1_wp2 : w.heap.size + 1 < w.heap.size + 1 + 1 + 1 := (by omega); have l_w_w1 : w.heap.size < w1.heap.size := (by omega); have m_w_w1 : w.heap.size < w1.heap.size + 1 := (by omega); have l_wp1_w1 : w.heap.size + 1 < w1.heap.size := (by omega); have m_wp1_w1 : w.heap.size + 1 < w1.heap.size + 1 := (by omega); have l_wp2_w1 : w.heap.size + 1 + 1 < w1.heap.size := (by omega); have m_wp2_w1 : w.heap.size + 1 + 1 < w1.heap.size + 1 := (by omega); have l_w_w2 : w.heap.size < w2.heap.size := (by omega); have m_w_w2 : w.heap.size < w2.heap.size + 1 := (by omega); have l_wp1_w2 : w.heap.size + 1 < w2.heap.size := (by omega); have m_wp1_w2 : w.heap.size + 1 < w2.heap.size + 1 := (by omega); have l_wp2_w2 : w.heap.size + 1 + 1 < w2.heap.size := (by omega); have m_wp2_w2 : w.heap.size + 1 + 1 < w2.heap.size + 1 := (by omega); have l_w1_w2 : w1.heap.size < w2.heap.size := (by omega); have m_w1_w2 : w1.heap.size < w2.heap.size + 1 := (by omega)
  go_wp2_with fail
  refine (H3.out _).mono ?_
  rintro e w3 ⟨rfl, hb3⟩
  obtain ⟨hc3, hf3⟩ := bcell hb3
  have hz3 := hb3.size
  try simp at hz3
  try have hy3 := Nat.lt_of_succ_le hz3
  have hB3 : Below w.heap.size w w3 := by (refine Below.trans ?_ (hb3.mono ?_)) <;> (repeat' (first | (with_reducible exact Below.refl _ _) | (with_reducible assumption) | (with_reducible refine Below.drewN' ?_ _) | (with_reducible refine Below.alloc ?_ ?_ _) | (with_reducible refine Below.drew ?_) | (with_reducible refine Below.setCell ?_ ?_ _) | go_size))
  have l_w_wp1 : w.heap.size < w.heap.size + 1 := (by omega); have m_w_wp1 : w.heap.size < w.heap.size + 1 + 1 := (by omega); have l_w_wp2 : w.heap.size < w.heap.size + 1 + 1 := (by omega); have m_w_wp2 : w.heap.size < w.heap.size + 1 + 1 + 1 := (by omega); have l_wp1_wp2 : w.heap.size + 1 < w.heap.size + 1 + 1 := (by omega); have m_wp1_wp2 : w.heap.size + 1 < w.heap.size + 1 + 1 + 1 := (by omega); have l_w_w1 : w.heap.size < w1.heap.size := (by omega); have m_w_w1 : w.heap.size < w1.heap.size + 1 := (by omega); have l_wp1_w1 : w.heap.size + 1 < w1.heap.size := (by omega); have m_wp1_w1 : w.heap.size + 1 < w1.heap.size + 1 := (by omega); have l_wp2_w1 : w.heap.size + 1 + 1 < w1.heap.size := (by omega); have m_wp2_w1 : w.heap.size + 1 + 1 < w1.heap.size + 1 := (by omega); have l_w_w2 : w.heap.size < w2.heap.size := (by omega); have m_w_w2 : w.heap.size < w2.heap.size + 1 := (by omega); have l_wp1_w2 : w.heap.size + 1 < w2.heap.size := (by omega); have m_wp1_w2 : w.heap.size + 1 < w2.heap.size + 1 := (by omega); have l_wp2_w2 : w.heap.size + 1 + 1 < w2.heap.size := (by omega); have m_wp2_w2 : w.heap.size + 1 + 1 < w2.heap.size + 1 := (by omega); have l_w1_w2 : w1.heap.size < w2.heap.size := (by omega); have m_w1_w2 : w1.heap.size < w2.heap.size + 1 := (by omega); have l_w_w3 : w.heap.size < w3.heap.size := (by omega); have m_w_w3 : w.heap.size < w3.heap.size + 1 := (by omega); have l_wp1_w3 : w.heap.size + 1 < w3.heap.size := (by omega); have m_wp1_w3 : w.heap.size + 1 < w3.heap.size + 1 := (by omega); have l_wp2_w3 : w.heap.size + 1 + 1 < w3.heap.size := (by omega); have m_wp2_w3 : w.heap.size + 1 + 1 < w3.heap.size + 1 := (by omega); have l_w1_w3 : w1.heap.size < w3.heap.size := (by omega); have m_w1_w3 : w1.heap.size < w3.heap.size + 1 := (by omega); have l_w2_w3 : w2.heap.size < w3.heap.size := (by omega); have m_w2_w3 : w2.heap.size < w3.heap.size + 1 := (by omega)
  go_wp2_with fail
  refine (awake01 _).mono ?_
  rintro e w4 ⟨rfl, hb4⟩
  obtain ⟨hc4, hf4⟩ := bcell hb4
  have hz4 := hb4.size
  try simp at hz4
  try have hy4 := Nat.lt_of_succ_le hz4
  have hB4 : Below w.heap.size w w4 := by (refine Below.trans ?_ (hb4.mono ?_)) <;> (repeat' (first | (with_reducible exact Below.refl _ _) | (with_reducible assumption) | (with_reducible refine Below.drewN' ?_ _) | (with_reducible refine Below.alloc ?_ ?_ _) | (with_reducible refine Below.drew ?_) | (with_reducible refine Below.setCell ?_ ?_ _) | go_size))
  have l_w_wp1 : w.heap.size < w.heap.size + 1 := (by omega); have m_w_wp1 : w.heap.size < w.heap.size + 1 + 1 := (by omega); have l_w_wp2 : w.heap.size < w.heap.size + 1 + 1 := (by omega); have m_w_wp2 : w.heap.size < w.heap.size + 1 + 1 + 1 := (by omega); have l_wp1_wp2 : w.heap.size + 1 < w.heap.size + 1 + 1 := (by omega); have m_wp1_wp2 : w.heap.size + 1 < w.heap.size + 1 + 1 + 1 := (by omega); have l_w_w1 : w.heap.size < w1.heap.size := (by omega); have m_w_w1 : w.heap.size < w1.heap.size + 1 := (by omega); have l_wp1_w1 : w.heap.size + 1 < w1.heap.size := (by omega); have m_wp1_w1 : w.heap.size + 1 < w1.heap.size + 1 := (by omega); have l_wp2_w1 : w.heap.size + 1 + 1 < w1.heap.size := (by omega); have m_wp2_w1 : w.heap.size + 1 + 1 < w1.heap.size + 1 := (by omega); have l_w_w2 : w.heap.size < w2.heap.size := (by omega); have m_w_w2 : w.heap.size < w2.heap.size + 1 := (by omega); have l_wp1_w2 : w.heap.size + 1 < w2.heap.size := (by omega); have m_wp1_w2 : w.heap.size + 1 < w2.heap.size + 1 := (by omega); have l_wp2_w2 : w.heap.size + 1 + 1 < w2.heap.size := (by omega); have m_wp2_w2 : w.heap.size + 1 + 1 < w2.heap.size + 1 := (by omega); have l_w1_w2 : w1.heap.size < w2.heap.size := (by omega); have m_w1_w2 : w1.heap.size < w2.heap.size + 1 := (by omega); have l_w_w3 : w.heap.size < w3.heap.size := (by omega); have m_w_w3 : w.heap.size < w3.heap.size + 1 := (by omega); have l_wp1_w3 : w.heap.size + 1 < w3.heap.size := (by omega); have m_wp1_w3 : w.heap.size + 1 < w3.heap.size + 1 := (by omega); have l_wp2_w3 : w.heap.size + 1 + 1 < w3.heap.size := (by omega); have m_wp2_w3 : w.heap.size + 1 + 1 < w3.heap.size + 1 := (by omega); have l_w1_w3 : w1.heap.size < w3.heap.size := (by omega); have m_w1_w3 : w1.heap.size < w3.heap.size + 1 := (by omega); have l_w2_w3 : w2.heap.size < w3.heap.size := (by omega); have m_w2_w3 : w2.heap.size < w3.heap.size + 1 := (by omega); have l_w_w4 : w.heap.size < w4.heap.size := (by omega); have m_w_w4 : w.heap.size < w4.heap.size + 1 := (by omega); have l_wp1_w4 : w.heap.size + 1 < w4.heap.size := (by omega); have m_wp1_w4 : w.heap.size + 1 < w4.heap.size + 1 := (by omega); have l_wp2_w4 : w.heap.size + 1 + 1 < w4.heap.size := (by omega); have m_wp2_w4 : w.heap.size + 1 + 1 < w4.heap.size + 1 := (by omega); have l_w1_w4 : w1.heap.size < w4.heap.size := (by omega); have m_w1_w4 : w1.heap.size < w4.heap.size + 1 := (by omega); have l_w2_w4 : w2.heap.size < w4.heap.size := (by omega); have m_w2_w4 : w2.heap.size < w4.heap.size + 1 := (by omega); have l_w3_w4 : w3.heap.size < w4.heap.size := (by omega); have m_w3_w4 : w3.heap.size < w4.heap.size + 1 := (by omega)
  go_wp2
  go_ret
  refine ⟨rfl, ?_⟩
  (repeat' (first | (with_reducible exact Below.refl _ _) | (with_reducible assumption) | (with_reducible refine Below.drewN' ?_ _) | (with_reducible refine Below.alloc ?_ ?_ _) | (with_reducible refine Below.drew ?_) | (with_reducible refine Below.setCell ?_ ?_ _) | go_size))

end Go.Proofs.Ytgmbgidcgdammaa
