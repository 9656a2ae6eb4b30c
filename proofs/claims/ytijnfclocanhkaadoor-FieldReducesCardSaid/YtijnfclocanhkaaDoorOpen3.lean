/- A wide argument, opened as one number. -/
import Derived.Test.YtijnfclocanhkaaDoorOpen2
import Derived.Test.YtijnfclocanhkaaDoorField5
set_option linter.unusedVariables false
set_option linter.unusedSimpArgs false
namespace Go.Proofs.YtijnfclocanhkaaDoor
open Go.RowKit Go.Num

theorem wide_num (c : Nat → Nat) (h : ∀ i, i < 8 → c i < B) : ∃ w, w < N * N ∧ ∀ i, i < 8 → lm w i = c i := by
  have a0 := h 0 (by omega); have a1 := h 1 (by omega); have a2 := h 2 (by omega); have a3 := h 3 (by omega)
  have a4 := h 4 (by omega); have a5 := h 5 (by omega); have a6 := h 6 (by omega); have a7 := h 7 (by omega)
  have hlo := num_lt a0 a1 a2 a3
  have hhi := num_lt a4 a5 a6 a7
  have e0 := lm0 (a := c 0) (b := c 1) (c := c 2) (d := c 3) a0
  have e1 := lm1 (c := c 2) (d := c 3) a0 a1
  have e2 := lm2 (d := c 3) a0 a1 a2
  have e3 := lm3 a0 a1 a2 a3
  have e4 := lm0 (a := c 4) (b := c 5) (c := c 6) (d := c 7) a4
  have e5 := lm1 (c := c 6) (d := c 7) a4 a5
  have e6 := lm2 (d := c 7) a4 a5 a6
  have e7 := lm3 a4 a5 a6 a7
  generalize num (c 0) (c 1) (c 2) (c 3) = lo at *
  generalize num (c 4) (c 5) (c 6) (c 7) = hi at *
  have m1 : (lo + N * hi) % N = lo := by rw [Nat.add_mul_mod_self_left, Nat.mod_eq_of_lt hlo]
  have m2 : (lo + N * hi) / N = hi := by rw [Nat.add_mul_div_left _ _ N_pos, Nat.div_eq_of_lt hlo, Nat.zero_add]
  refine ⟨lo + N * hi, ?_, ?_⟩
  · have h1 : N * hi ≤ N * (N - 1) := Nat.mul_le_mul_left N (by omega)
    have h2 : N * (N - 1) + N = N * N := by rw [← Nat.mul_succ]; rfl
    generalize N * hi = p at *
    generalize N * (N - 1) = q at *
    omega
  · have hl : ∀ j, j < 4 → lm (lo + N * hi) j = lm lo j := fun j hj => by rw [← lm_lo _ j hj, m1]
    have hu : ∀ j, lm (lo + N * hi) (4 + j) = lm hi j := fun j => by rw [← lm_up, m2]
    intro i hi'
    obtain rfl | rfl | rfl | rfl | rfl | rfl | rfl | rfl : i = 0 ∨ i = 1 ∨ i = 2 ∨ i = 3 ∨ i = 4 ∨ i = 5 ∨ i = 6 ∨ i = 7 := by omega
    · rw [hl 0 (by omega), e0]
    · rw [hl 1 (by omega), e1]
    · rw [hl 2 (by omega), e2]
    · rw [hl 3 (by omega), e3]
    · exact (hu 0).trans e4
    · exact (hu 1).trans e5
    · exact (hu 2).trans e6
    · exact (hu 3).trans e7

section
variable {H : Type} {enc : TypeId × Value → H} {w : World} {base : Nat} {spare : Nat → Bool} {held : Bool}
theorem open_wide3 {v : Value} {d : DataW H} {p : List MemPlace} (h : DataW.Trod enc Tryd.prog w base spare held 31 v d p) : ∃ x, x < N * N ∧ v = .agg #[.int .u64 (lm x 0), .int .u64 (lm x 1), .int .u64 (lm x 2), .int .u64 (lm x 3), .int .u64 (lm x 4), .int .u64 (lm x 5), .int .u64 (lm x 6), .int .u64 (lm x 7)] := by
  obtain ⟨c, hc, rfl⟩ := open_wide h
  obtain ⟨x, hx, e⟩ := wide_num c hc
  refine ⟨x, hx, ?_⟩
  rw [e 0 (by omega), e 1 (by omega), e 2 (by omega), e 3 (by omega), e 4 (by omega), e 5 (by omega), e 6 (by omega), e 7 (by omega)]
end
end Go.Proofs.YtijnfclocanhkaaDoor
