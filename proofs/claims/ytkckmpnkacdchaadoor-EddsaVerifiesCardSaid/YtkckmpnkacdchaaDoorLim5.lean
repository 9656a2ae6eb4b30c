/- Products of limbs; doubling and adding of eight limbs. -/
import Derived.Test.YtkckmpnkacdchaaDoorLimC
import Derived.Test.YtkckmpnkacdchaaDoorLm3
set_option linter.unusedVariables false
set_option linter.unusedSimpArgs false
set_option maxHeartbeats 4000000
namespace Go.Proofs.YtkckmpnkacdchaaDoor
open Go.RowKit Go.Num Go.Sx
abbrev JZ0 : I := .add .u64 (.mul .u64 (.shr .u64 (.var 0) (.lit 32)) (.bit .and .u64 (.var 1) (.lit 4294967295))) (.shr .u64 (.mul .u64 (.bit .and .u64 (.var 0) (.lit 4294967295)) (.bit .and .u64 (.var 1) (.lit 4294967295))) (.lit 32))
theorem mul64_run (x : Nat) (y : Nat)  (w : World) : Calls Tryd.prog 104 #[.int .u64 (x : Nat), .int .u64 (y : Nat)] w fun e w' => e = .returned (.tuple #[.int .u64 (IntKind.u64.wrap ((IntKind.u64.wrap ((IntKind.u64.wrap ((Int.fdiv ((x : Nat) : Int) (2 ^ (min ((32 : Int)).toNat IntKind.u64.bits))) * (Int.fdiv ((y : Nat) : Int) (2 ^ (min ((32 : Int)).toNat IntKind.u64.bits))))) + (Int.fdiv (IntKind.u64.wrap ((IntKind.u64.wrap ((Int.fdiv ((x : Nat) : Int) (2 ^ (min ((32 : Int)).toNat IntKind.u64.bits))) * (Go.bits .and .u64 ((y : Nat) : Int) (4294967295 : Int)))) + (Int.fdiv (IntKind.u64.wrap ((Go.bits .and .u64 ((x : Nat) : Int) (4294967295 : Int)) * (Go.bits .and .u64 ((y : Nat) : Int) (4294967295 : Int)))) (2 ^ (min ((32 : Int)).toNat IntKind.u64.bits))))) (2 ^ (min ((32 : Int)).toNat IntKind.u64.bits))))) + (Int.fdiv (IntKind.u64.wrap ((Go.bits .and .u64 (IntKind.u64.wrap ((IntKind.u64.wrap ((Int.fdiv ((x : Nat) : Int) (2 ^ (min ((32 : Int)).toNat IntKind.u64.bits))) * (Go.bits .and .u64 ((y : Nat) : Int) (4294967295 : Int)))) + (Int.fdiv (IntKind.u64.wrap ((Go.bits .and .u64 ((x : Nat) : Int) (4294967295 : Int)) * (Go.bits .and .u64 ((y : Nat) : Int) (4294967295 : Int)))) (2 ^ (min ((32 : Int)).toNat IntKind.u64.bits))))) (4294967295 : Int)) + (IntKind.u64.wrap ((Go.bits .and .u64 ((x : Nat) : Int) (4294967295 : Int)) * (Int.fdiv ((y : Nat) : Int) (2 ^ (min ((32 : Int)).toNat IntKind.u64.bits))))))) (2 ^ (min ((32 : Int)).toNat IntKind.u64.bits))))), .int .u64 (IntKind.u64.wrap (((x : Nat) : Int) * ((y : Nat) : Int)))]) ∧ Below w.heap.size w w' := by
 have hrun := calls_of_runG (P := Tryd.prog) (v := ⟨envI [((x : Nat) : Int), ((y : Nat) : Int)], envB [], envL [], envP [], L0, w⟩) (gs := []) (fuel := 3000) (nv := 2) (args := [(.sc (.v 0)), (.sc (.v 1))]) (ora := []) (sums := []) (res := [(.sc (.int .u64 (.add .u64 (.add .u64 (.mul .u64 (.shr .u64 (.var 0) (.lit 32)) (.shr .u64 (.var 1) (.lit 32))) (.shr .u64 JZ0 (.lit 32))) (.shr .u64 (.add .u64 (.bit .and .u64 JZ0 (.lit 4294967295)) (.mul .u64 (.bit .and .u64 (.var 0) (.lit 4294967295)) (.shr .u64 (.var 1) (.lit 32)))) (.lit 32))))), (.sc (.int .u64 (.mul .u64 (.var 0) (.var 1))))]) (ev := []) (lev := []) Tryd.func104 (by kernel_rfl) (by kernel_rfl)
  (by simp) (by simp) (GsOk.nil _) (Nat.zero_le _) trivial
 ·exact hrun
theorem and_mask (a : Nat) (ha : a < B) : Go.bits .and .u64 (a : Int) 4294967295 = ((a % 4294967296 : Nat) : Int) := by
 unfold B at ha
 rw [show (4294967295 : Int) = ((4294967295 : Nat) : Int) from rfl, u64_and_nat _ _ (by omega) (by omega)]
 congr 1
 exact Nat.and_two_pow_sub_one_eq_mod a 32
theorem shr_half (a : Nat) : Int.fdiv (a : Int) (2 ^ (min ((32 : Int)).toNat IntKind.u64.bits)) = ((a / 4294967296 : Nat) : Int) := by
 rw [show (2 : Int) ^ (min ((32 : Int)).toNat IntKind.u64.bits) = 4294967296 from by decide, Int.fdiv_eq_ediv_of_nonneg _ (by decide)]
 omega
theorem wrap_id (a : Nat) (ha : a < B) : IntKind.u64.wrap (a : Int) = (a : Int) := by
 rw [IntKind.wrap_u64]; unfold B at ha; omega
theorem wrap_mulN (a b : Nat) (h : a * b < B) : IntKind.u64.wrap ((a : Int) * (b : Int)) = ((a * b : Nat) : Int) := by
 rw [← Int.natCast_mul, wrap_id _ h]
theorem wrap_addN (a b : Nat) (h : a + b < B) : IntKind.u64.wrap ((a : Int) + (b : Int)) = ((a + b : Nat) : Int) := by
 rw [← Int.natCast_add, wrap_id _ h]
theorem mul64_all (x y : Nat) (hx : x < B) (hy : y < B) (w : World) : Calls Tryd.prog 104 #[.int .u64 (x : Nat), .int .u64 (y : Nat)] w fun e w' => e = .returned (.tuple #[.int .u64 ((x * y / B : Nat) : Int), .int .u64 ((x * y % B : Nat) : Int)]) ∧ Below w.heap.size w w' := by
 refine calls_eq (mul64_run x y w) ?_
 obtain ⟨h1, h2, h3, h4, h5, h6, h7, h8, h9⟩ := mul64 hx hy rfl rfl rfl rfl rfl rfl rfl rfl
 have e : IntKind.u64.wrap ((x : Int) * (y : Int)) = ((x * y % B : Nat) : Int) := by
  rw [IntKind.wrap_u64, ← Int.natCast_mul]; unfold B; omega
 rw [e]
 simp only [and_mask x hx, and_mask y hy, shr_half]
 rw [wrap_mulN _ _ h1]
 simp only [shr_half]
 rw [wrap_mulN _ _ h2, wrap_addN _ _ h3]
 simp only [and_mask _ h3, shr_half]
 rw [wrap_mulN _ _ h4, wrap_addN _ _ h5]
 simp only [shr_half]
 rw [wrap_mulN _ _ h6, wrap_addN _ _ h7, wrap_addN _ _ h8, h9]
theorem mul64_c (x y h l : Nat) (hx : x < B) (hy : y < B) (hh : h = x * y / B) (hl : l = x * y % B) : CallP Tryd.prog 104 #[.int .u64 (x : Nat), .int .u64 (y : Nat)] (.tuple #[.int .u64 (h : Nat), .int .u64 (l : Nat)]) := by
 subst hh hl
 exact callP_of Tryd.func104 (by kernel_rfl) (by kernel_rfl) (fun w => mul64_all x y hx hy w)
theorem mac_ex (a b o c : Nat) (oe ce : Int) (ha : a < B) (hb : b < B) (ho : o < B) (hc : c < B) (hoe : oe = (o : Nat)) (hce : ce = (c : Nat)) : ∃ h l s1 k1 s2 k2 r : Nat,
  (CallP Tryd.prog 104 #[.int .u64 (a : Nat), .int .u64 (b : Nat)] (.tuple #[.int .u64 (h : Nat), .int .u64 (l : Nat)]) ∧
  CallP Tryd.prog 98 #[.int .u64 (l : Nat), .int .u64 oe, .int .u64 (0 : Int)] (.tuple #[.int .u64 (s1 : Nat), .int .u64 (k1 : Nat)]) ∧
  CallP Tryd.prog 98 #[.int .u64 (s1 : Nat), .int .u64 ce, .int .u64 (0 : Int)] (.tuple #[.int .u64 (s2 : Nat), .int .u64 (k2 : Nat)])) ∧
  IntKind.u64.wrap (IntKind.u64.wrap ((h : Int) + (k1 : Int)) + (k2 : Int)) = (r : Nat) ∧ r < B ∧ s2 < B ∧ s2 + B * r = o + a * b + c := by
 subst hoe hce
 have m := mac ha hb ho hc rfl rfl rfl rfl rfl rfl
 exact ⟨_, _, _, _, _, _, _, ⟨mul64_c a b _ _ ha hb rfl rfl, call_add_c _ o 0 _ _ (by omega) rfl rfl, call_add_c _ c 0 _ _ (by omega) rfl rfl⟩, wrap3 m.1, m.1, m.2.1, m.2.2⟩
end Go.Proofs.YtkckmpnkacdchaaDoor
