/- Products of limbs; doubling and adding of eight limbs. -/
import Derived.Test.YtgmbgidcgdammaaLimbC
import Derived.Test.YtgmbgidcgdammaaLm3
namespace Go.Proofs.Ytgmbgidcgdammaa
open Go.RowKit Go.Num Go.Sx

set_option maxHeartbeats 4000000 in
theorem mul64_run (x : Nat) (y : Nat)  (w : World) : Calls Try.prog 53 #[.int .u64 (x : Nat), .int .u64 (y : Nat)] w fun e w' => e = .returned (.tuple #[.int .u64 (IntKind.u64.wrap ((IntKind.u64.wrap ((IntKind.u64.wrap ((Int.fdiv ((x : Nat) : Int) (2 ^ (min ((32 : Int)).toNat IntKind.u64.bits))) * (Int.fdiv ((y : Nat) : Int) (2 ^ (min ((32 : Int)).toNat IntKind.u64.bits))))) + (Int.fdiv (IntKind.u64.wrap ((IntKind.u64.wrap ((Int.fdiv ((x : Nat) : Int) (2 ^ (min ((32 : Int)).toNat IntKind.u64.bits))) * (Go.bits .and .u64 ((y : Nat) : Int) (4294967295 : Int)))) + (Int.fdiv (IntKind.u64.wrap ((Go.bits .and .u64 ((x : Nat) : Int) (4294967295 : Int)) * (Go.bits .and .u64 ((y : Nat) : Int) (4294967295 : Int)))) (2 ^ (min ((32 : Int)).toNat IntKind.u64.bits))))) (2 ^ (min ((32 : Int)).toNat IntKind.u64.bits))))) + (Int.fdiv (IntKind.u64.wrap ((Go.bits .and .u64 (IntKind.u64.wrap ((IntKind.u64.wrap ((Int.fdiv ((x : Nat) : Int) (2 ^ (min ((32 : Int)).toNat IntKind.u64.bits))) * (Go.bits .and .u64 ((y : Nat) : Int) (4294967295 : Int)))) + (Int.fdiv (IntKind.u64.wrap ((Go.bits .and .u64 ((x : Nat) : Int) (4294967295 : Int)) * (Go.bits .and .u64 ((y : Nat) : Int) (4294967295 : Int)))) (2 ^ (min ((32 : Int)).toNat IntKind.u64.bits))))) (4294967295 : Int)) + (IntKind.u64.wrap ((Go.bits .and .u64 ((x : Nat) : Int) (4294967295 : Int)) * (Int.fdiv ((y : Nat) : Int) (2 ^ (min ((32 : Int)).toNat IntKind.u64.bits))))))) (2 ^ (min ((32 : Int)).toNat IntKind.u64.bits))))), .int .u64 (IntKind.u64.wrap (((x : Nat) : Int) * ((y : Nat) : Int)))]) ∧ Below w.heap.size w w' := by
  have hrun := calls_of_run (P := Try.prog) (i := fun n => ([((x : Nat) : Int), ((y : Nat) : Int)] : List Int).getD n 0) (b := fun n => ([] : List Bool).getD n false) (fuel := 3000) (nv := 2) (args := [(.sc (.int .u64 (.var 0))), (.sc (.int .u64 (.var 1)))]) (ora := []) (sums := []) (r := ⟨(.tup [(.sc (.int .u64 (.add .u64 (.add .u64 (.mul .u64 (.shr .u64 (.var 0) (.lit 32)) (.shr .u64 (.var 1) (.lit 32))) (.shr .u64 (.add .u64 (.mul .u64 (.shr .u64 (.var 0) (.lit 32)) (.bit .and .u64 (.var 1) (.lit 4294967295))) (.shr .u64 (.mul .u64 (.bit .and .u64 (.var 0) (.lit 4294967295)) (.bit .and .u64 (.var 1) (.lit 4294967295))) (.lit 32))) (.lit 32))) (.shr .u64 (.add .u64 (.bit .and .u64 (.add .u64 (.mul .u64 (.shr .u64 (.var 0) (.lit 32)) (.bit .and .u64 (.var 1) (.lit 4294967295))) (.shr .u64 (.mul .u64 (.bit .and .u64 (.var 0) (.lit 4294967295)) (.bit .and .u64 (.var 1) (.lit 4294967295))) (.lit 32))) (.lit 4294967295)) (.mul .u64 (.bit .and .u64 (.var 0) (.lit 4294967295)) (.shr .u64 (.var 1) (.lit 32)))) (.lit 32))))), (.sc (.int .u64 (.mul .u64 (.var 0) (.var 1))))]), [], []⟩) Try.func53 (by kernel_rfl)
    (by simp) (by simp) w
  · exact hrun

theorem and_mask (a : Nat) (ha : a < B) : Go.bits .and .u64 (a : Int) 4294967295 = ((a % 4294967296 : Nat) : Int) := by
  unfold B at ha
  rw [show (4294967295 : Int) = ((4294967295 : Nat) : Int) from rfl, u64_and_nat _ _ (by omega) (by omega)]
  congr 1
  exact Nat.and_two_pow_sub_one_eq_mod a 32

theorem shr_half (a : Nat) : Int.fdiv (a : Int) (2 ^ (min ((32 : Int)).toNat IntKind.u64.bits)) = ((a / 4294967296 : Nat) : Int) := by
  rw [show (2 : Int) ^ (min ((32 : Int)).toNat IntKind.u64.bits) = 4294967296 from by decide, Int.fdiv_eq_ediv_of_nonneg _ (by decide)]
  omega

theorem wrap_id (a : Nat) (ha : a < B) : IntKind.u64.wrap (a : Int) = (a : Int) := by
  rw [IntKind.wrap_u64]; unfold B at ha; omega

theorem wrap_mulN (a b : Nat) (h : a * b < B) : IntKind.u64.wrap ((a : Int) * (b : Int)) = ((a * b : Nat) : Int) := by
  rw [← Int.natCast_mul, wrap_id _ h]
theorem wrap_addN (a b : Nat) (h : a + b < B) : IntKind.u64.wrap ((a : Int) + (b : Int)) = ((a + b : Nat) : Int) := by
  rw [← Int.natCast_add, wrap_id _ h]

theorem mul64_all (x y : Nat) (hx : x < B) (hy : y < B) (w : World) : Calls Try.prog 53 #[.int .u64 (x : Nat), .int .u64 (y : Nat)] w fun e w' => e = .returned (.tuple #[.int .u64 ((x * y / B : Nat) : Int), .int .u64 ((x * y % B : Nat) : Int)]) ∧ Below w.heap.size w w' := by
  refine calls_eq (mul64_run x y w) ?_
  obtain ⟨h1, h2, h3, h4, h5, h6, h7, h8, h9⟩ := mul64 hx hy rfl rfl rfl rfl rfl rfl rfl rfl
  have e : IntKind.u64.wrap ((x : Int) * (y : Int)) = ((x * y % B : Nat) : Int) := by
    rw [IntKind.wrap_u64, ← Int.natCast_mul]; unfold B; omega
  rw [e]
  simp only [and_mask x hx, and_mask y hy, shr_half]
  rw [wrap_mulN _ _ h1]
  simp only [shr_half]
  rw [wrap_mulN _ _ h2, wrap_addN _ _ h3]
  simp only [and_mask _ h3, shr_half]
  rw [wrap_mulN _ _ h4, wrap_addN _ _ h5]
  simp only [shr_half]
  rw [wrap_mulN _ _ h6, wrap_addN _ _ h7, wrap_addN _ _ h8, h9]

theorem mul64_c (x y h l : Nat) (hx : x < B) (hy : y < B) (hh : h = x * y / B) (hl : l = x * y % B) : CallP Try.prog 53 #[.int .u64 (x : Nat), .int .u64 (y : Nat)] (.tuple #[.int .u64 (h : Nat), .int .u64 (l : Nat)]) := by
  subst hh hl
  exact callP_of Try.func53 (by kernel_rfl) (by kernel_rfl) (fun w => mul64_all x y hx hy w)

theorem mac_ex (a b o c : Nat) (oe ce : Int) (ha : a < B) (hb : b < B) (ho : o < B) (hc : c < B) (hoe : oe = (o : Nat)) (hce : ce = (c : Nat)) : ∃ h l s1 k1 s2 k2 r : Nat,
    (CallP Try.prog 53 #[.int .u64 (a : Nat), .int .u64 (b : Nat)] (.tuple #[.int .u64 (h : Nat), .int .u64 (l : Nat)]) ∧
     CallP Try.prog 48 #[.int .u64 (l : Nat), .int .u64 oe, .int .u64 (0 : Int)] (.tuple #[.int .u64 (s1 : Nat), .int .u64 (k1 : Nat)]) ∧
     CallP Try.prog 48 #[.int .u64 (s1 : Nat), .int .u64 ce, .int .u64 (0 : Int)] (.tuple #[.int .u64 (s2 : Nat), .int .u64 (k2 : Nat)])) ∧
    IntKind.u64.wrap (IntKind.u64.wrap ((h : Int) + (k1 : Int)) + (k2 : Int)) = (r : Nat) ∧ r < B ∧ s2 < B ∧ s2 + B * r = o + a * b + c := by
  subst hoe hce
  have m := mac ha hb ho hc rfl rfl rfl rfl rfl rfl
  exact ⟨_, _, _, _, _, _, _, ⟨mul64_c a b _ _ ha hb rfl rfl, call_add_c _ o 0 _ _ (by omega) rfl rfl, call_add_c _ c 0 _ _ (by omega) rfl rfl⟩, wrap3 m.1, m.1, m.2.1, m.2.2⟩

set_option maxHeartbeats 4000000 in
theorem limb_mul (x : Nat) (y : Nat) (hx : x < N) (hy : y < N) (w : World) : Calls Try.prog 32 #[.agg #[.int .u64 (lm x 0), .int .u64 (lm x 1), .int .u64 (lm x 2), .int .u64 (lm x 3)], .agg #[.int .u64 (lm y 0), .int .u64 (lm y 1), .int .u64 (lm y 2), .int .u64 (lm y 3)]] w fun e w' => e = .returned (.agg #[.int .u64 (lm (x * y) 0), .int .u64 (lm (x * y) 1), .int .u64 (lm (x * y) 2), .int .u64 (lm (x * y) 3), .int .u64 (lm (x * y) 4), .int .u64 (lm (x * y) 5), .int .u64 (lm (x * y) 6), .int .u64 (lm (x * y) 7)]) ∧ Below w.heap.size w w' := by
  obtain ⟨h0, l0, p0, j0, s0, k0, r0, C0, w0, b_r0, b_s0, e0⟩ := mac_ex (lm x 0) (lm y 0) 0 0 (0 : Int) (0 : Int) (lm_lt _ _) (lm_lt _ _) B_pos B_pos rfl rfl
  obtain ⟨h1, l1, p1, j1, s1, k1, r1, C1, w1, b_r1, b_s1, e1⟩ := mac_ex (lm x 0) (lm y 1) 0 r0 (0 : Int) (IntKind.u64.wrap ((IntKind.u64.wrap (((h0 : Nat) : Int) + ((j0 : Nat) : Int))) + ((k0 : Nat) : Int))) (lm_lt _ _) (lm_lt _ _) B_pos b_r0 rfl w0
  obtain ⟨h2, l2, p2, j2, s2, k2, r2, C2, w2, b_r2, b_s2, e2⟩ := mac_ex (lm x 0) (lm y 2) 0 r1 (0 : Int) (IntKind.u64.wrap ((IntKind.u64.wrap (((h1 : Nat) : Int) + ((j1 : Nat) : Int))) + ((k1 : Nat) : Int))) (lm_lt _ _) (lm_lt _ _) B_pos b_r1 rfl w1
  obtain ⟨h3, l3, p3, j3, s3, k3, r3, C3, w3, b_r3, b_s3, e3⟩ := mac_ex (lm x 0) (lm y 3) 0 r2 (0 : Int) (IntKind.u64.wrap ((IntKind.u64.wrap (((h2 : Nat) : Int) + ((j2 : Nat) : Int))) + ((k2 : Nat) : Int))) (lm_lt _ _) (lm_lt _ _) B_pos b_r2 rfl w2
  obtain ⟨h4, l4, p4, j4, s4, k4, r4, C4, w4, b_r4, b_s4, e4⟩ := mac_ex (lm x 1) (lm y 0) s1 0 ((s1 : Nat) : Int) (0 : Int) (lm_lt _ _) (lm_lt _ _) b_s1 B_pos rfl rfl
  obtain ⟨h5, l5, p5, j5, s5, k5, r5, C5, w5, b_r5, b_s5, e5⟩ := mac_ex (lm x 1) (lm y 1) s2 r4 ((s2 : Nat) : Int) (IntKind.u64.wrap ((IntKind.u64.wrap (((h4 : Nat) : Int) + ((j4 : Nat) : Int))) + ((k4 : Nat) : Int))) (lm_lt _ _) (lm_lt _ _) b_s2 b_r4 rfl w4
  obtain ⟨h6, l6, p6, j6, s6, k6, r6, C6, w6, b_r6, b_s6, e6⟩ := mac_ex (lm x 1) (lm y 2) s3 r5 ((s3 : Nat) : Int) (IntKind.u64.wrap ((IntKind.u64.wrap (((h5 : Nat) : Int) + ((j5 : Nat) : Int))) + ((k5 : Nat) : Int))) (lm_lt _ _) (lm_lt _ _) b_s3 b_r5 rfl w5
  obtain ⟨h7, l7, p7, j7, s7, k7, r7, C7, w7, b_r7, b_s7, e7⟩ := mac_ex (lm x 1) (lm y 3) r3 r6 (IntKind.u64.wrap ((IntKind.u64.wrap (((h3 : Nat) : Int) + ((j3 : Nat) : Int))) + ((k3 : Nat) : Int))) (IntKind.u64.wrap ((IntKind.u64.wrap (((h6 : Nat) : Int) + ((j6 : Nat) : Int))) + ((k6 : Nat) : Int))) (lm_lt _ _) (lm_lt _ _) b_r3 b_r6 w3 w6
  obtain ⟨h8, l8, p8, j8, s8, k8, r8, C8, w8, b_r8, b_s8, e8⟩ := mac_ex (lm x 2) (lm y 0) s5 0 ((s5 : Nat) : Int) (0 : Int) (lm_lt _ _) (lm_lt _ _) b_s5 B_pos rfl rfl
  obtain ⟨h9, l9, p9, j9, s9, k9, r9, C9, w9, b_r9, b_s9, e9⟩ := mac_ex (lm x 2) (lm y 1) s6 r8 ((s6 : Nat) : Int) (IntKind.u64.wrap ((IntKind.u64.wrap (((h8 : Nat) : Int) + ((j8 : Nat) : Int))) + ((k8 : Nat) : Int))) (lm_lt _ _) (lm_lt _ _) b_s6 b_r8 rfl w8
  obtain ⟨h10, l10, p10, j10, s10, k10, r10, C10, w10, b_r10, b_s10, e10⟩ := mac_ex (lm x 2) (lm y 2) s7 r9 ((s7 : Nat) : Int) (IntKind.u64.wrap ((IntKind.u64.wrap (((h9 : Nat) : Int) + ((j9 : Nat) : Int))) + ((k9 : Nat) : Int))) (lm_lt _ _) (lm_lt _ _) b_s7 b_r9 rfl w9
  obtain ⟨h11, l11, p11, j11, s11, k11, r11, C11, w11, b_r11, b_s11, e11⟩ := mac_ex (lm x 2) (lm y 3) r7 r10 (IntKind.u64.wrap ((IntKind.u64.wrap (((h7 : Nat) : Int) + ((j7 : Nat) : Int))) + ((k7 : Nat) : Int))) (IntKind.u64.wrap ((IntKind.u64.wrap (((h10 : Nat) : Int) + ((j10 : Nat) : Int))) + ((k10 : Nat) : Int))) (lm_lt _ _) (lm_lt _ _) b_r7 b_r10 w7 w10
  obtain ⟨h12, l12, p12, j12, s12, k12, r12, C12, w12, b_r12, b_s12, e12⟩ := mac_ex (lm x 3) (lm y 0) s9 0 ((s9 : Nat) : Int) (0 : Int) (lm_lt _ _) (lm_lt _ _) b_s9 B_pos rfl rfl
  obtain ⟨h13, l13, p13, j13, s13, k13, r13, C13, w13, b_r13, b_s13, e13⟩ := mac_ex (lm x 3) (lm y 1) s10 r12 ((s10 : Nat) : Int) (IntKind.u64.wrap ((IntKind.u64.wrap (((h12 : Nat) : Int) + ((j12 : Nat) : Int))) + ((k12 : Nat) : Int))) (lm_lt _ _) (lm_lt _ _) b_s10 b_r12 rfl w12
  obtain ⟨h14, l14, p14, j14, s14, k14, r14, C14, w14, b_r14, b_s14, e14⟩ := mac_ex (lm x 3) (lm y 2) s11 r13 ((s11 : Nat) : Int) (IntKind.u64.wrap ((IntKind.u64.wrap (((h13 : Nat) : Int) + ((j13 : Nat) : Int))) + ((k13 : Nat) : Int))) (lm_lt _ _) (lm_lt _ _) b_s11 b_r13 rfl w13
  obtain ⟨h15, l15, p15, j15, s15, k15, r15, C15, w15, b_r15, b_s15, e15⟩ := mac_ex (lm x 3) (lm y 3) r11 r14 (IntKind.u64.wrap ((IntKind.u64.wrap (((h11 : Nat) : Int) + ((j11 : Nat) : Int))) + ((k11 : Nat) : Int))) (IntKind.u64.wrap ((IntKind.u64.wrap (((h14 : Nat) : Int) + ((j14 : Nat) : Int))) + ((k14 : Nat) : Int))) (lm_lt _ _) (lm_lt _ _) b_r11 b_r14 w11 w14
  have q0 := row4 e0 e1 e2 e3
  have q1 := row4 e4 e5 e6 e7
  have q2 := row4 e8 e9 e10 e11
  have q3 := row4 e12 e13 e14 e15
  have q := rows4 q0 q1 q2 q3
  rw [num_lm hx, num_lm hy] at q
  obtain ⟨z0, z1, z2, z3, z4, z5, z6, z7⟩ := lm_num8 b_s0 b_s4 b_s8 b_s12 b_s13 b_s14 b_s15 b_r15
  rw [q] at z0 z1 z2 z3 z4 z5 z6 z7
  have hrun := calls_of_run (P := Try.prog) (i := fun n => ([((lm x 0 : Nat) : Int), ((lm x 1 : Nat) : Int), ((lm x 2 : Nat) : Int), ((lm x 3 : Nat) : Int), ((lm y 0 : Nat) : Int), ((lm y 1 : Nat) : Int), ((lm y 2 : Nat) : Int), ((lm y 3 : Nat) : Int), ((h0 : Nat) : Int), ((l0 : Nat) : Int), ((p0 : Nat) : Int), ((j0 : Nat) : Int), ((s0 : Nat) : Int), ((k0 : Nat) : Int), ((h1 : Nat) : Int), ((l1 : Nat) : Int), ((p1 : Nat) : Int), ((j1 : Nat) : Int), ((s1 : Nat) : Int), ((k1 : Nat) : Int), ((h2 : Nat) : Int), ((l2 : Nat) : Int), ((p2 : Nat) : Int), ((j2 : Nat) : Int), ((s2 : Nat) : Int), ((k2 : Nat) : Int), ((h3 : Nat) : Int), ((l3 : Nat) : Int), ((p3 : Nat) : Int), ((j3 : Nat) : Int), ((s3 : Nat) : Int), ((k3 : Nat) : Int), ((h4 : Nat) : Int), ((l4 : Nat) : Int), ((p4 : Nat) : Int), ((j4 : Nat) : Int), ((s4 : Nat) : Int), ((k4 : Nat) : Int), ((h5 : Nat) : Int), ((l5 : Nat) : Int), ((p5 : Nat) : Int), ((j5 : Nat) : Int), ((s5 : Nat) : Int), ((k5 : Nat) : Int), ((h6 : Nat) : Int), ((l6 : Nat) : Int), ((p6 : Nat) : Int), ((j6 : Nat) : Int), ((s6 : Nat) : Int), ((k6 : Nat) : Int), ((h7 : Nat) : Int), ((l7 : Nat) : Int), ((p7 : Nat) : Int), ((j7 : Nat) : Int), ((s7 : Nat) : Int), ((k7 : Nat) : Int), ((h8 : Nat) : Int), ((l8 : Nat) : Int), ((p8 : Nat) : Int), ((j8 : Nat) : Int), ((s8 : Nat) : Int), ((k8 : Nat) : Int), ((h9 : Nat) : Int), ((l9 : Nat) : Int), ((p9 : Nat) : Int), ((j9 : Nat) : Int), ((s9 : Nat) : Int), ((k9 : Nat) : Int), ((h10 : Nat) : Int), ((l10 : Nat) : Int), ((p10 : Nat) : Int), ((j10 : Nat) : Int), ((s10 : Nat) : Int), ((k10 : Nat) : Int), ((h11 : Nat) : Int), ((l11 : Nat) : Int), ((p11 : Nat) : Int), ((j11 : Nat) : Int), ((s11 : Nat) : Int), ((k11 : Nat) : Int), ((h12 : Nat) : Int), ((l12 : Nat) : Int), ((p12 : Nat) : Int), ((j12 : Nat) : Int), ((s12 : Nat) : Int), ((k12 : Nat) : Int), ((h13 : Nat) : Int), ((l13 : Nat) : Int), ((p13 : Nat) : Int), ((j13 : Nat) : Int), ((s13 : Nat) : Int), ((k13 : Nat) : Int), ((h14 : Nat) : Int), ((l14 : Nat) : Int), ((p14 : Nat) : Int), ((j14 : Nat) : Int), ((s14 : Nat) : Int), ((k14 : Nat) : Int), ((h15 : Nat) : Int), ((l15 : Nat) : Int), ((p15 : Nat) : Int), ((j15 : Nat) : Int), ((s15 : Nat) : Int), ((k15 : Nat) : Int)] : List Int).getD n 0) (b := fun n => ([] : List Bool).getD n false) (fuel := 3000) (nv := 8) (args := [(.agg [.int .u64 (.var 0), .int .u64 (.var 1), .int .u64 (.var 2), .int .u64 (.var 3)]), (.agg [.int .u64 (.var 4), .int .u64 (.var 5), .int .u64 (.var 6), .int .u64 (.var 7)])]) (ora := []) (sums := []) (r := ⟨(.one (.agg [.int .u64 (.var 12), .int .u64 (.var 36), .int .u64 (.var 60), .int .u64 (.var 84), .int .u64 (.var 90), .int .u64 (.var 96), .int .u64 (.var 102), .int .u64 (.add .u64 (.add .u64 (.var 98) (.var 101)) (.var 103))])), [.call 53 [(.sc (.int .u64 (.var 0))), (.sc (.int .u64 (.var 4)))] (.tup [(.sc (.int .u64 (.var 8))), (.sc (.int .u64 (.var 9)))]), .call 48 [(.sc (.int .u64 (.var 9))), (.sc (.int .u64 (.lit 0))), (.sc (.int .u64 (.lit 0)))] (.tup [(.sc (.int .u64 (.var 10))), (.sc (.int .u64 (.var 11)))]), .call 48 [(.sc (.int .u64 (.var 10))), (.sc (.int .u64 (.lit 0))), (.sc (.int .u64 (.lit 0)))] (.tup [(.sc (.int .u64 (.var 12))), (.sc (.int .u64 (.var 13)))]), .call 53 [(.sc (.int .u64 (.var 0))), (.sc (.int .u64 (.var 5)))] (.tup [(.sc (.int .u64 (.var 14))), (.sc (.int .u64 (.var 15)))]), .call 48 [(.sc (.int .u64 (.var 15))), (.sc (.int .u64 (.lit 0))), (.sc (.int .u64 (.lit 0)))] (.tup [(.sc (.int .u64 (.var 16))), (.sc (.int .u64 (.var 17)))]), .call 48 [(.sc (.int .u64 (.var 16))), (.sc (.int .u64 (.add .u64 (.add .u64 (.var 8) (.var 11)) (.var 13)))), (.sc (.int .u64 (.lit 0)))] (.tup [(.sc (.int .u64 (.var 18))), (.sc (.int .u64 (.var 19)))]), .call 53 [(.sc (.int .u64 (.var 0))), (.sc (.int .u64 (.var 6)))] (.tup [(.sc (.int .u64 (.var 20))), (.sc (.int .u64 (.var 21)))]), .call 48 [(.sc (.int .u64 (.var 21))), (.sc (.int .u64 (.lit 0))), (.sc (.int .u64 (.lit 0)))] (.tup [(.sc (.int .u64 (.var 22))), (.sc (.int .u64 (.var 23)))]), .call 48 [(.sc (.int .u64 (.var 22))), (.sc (.int .u64 (.add .u64 (.add .u64 (.var 14) (.var 17)) (.var 19)))), (.sc (.int .u64 (.lit 0)))] (.tup [(.sc (.int .u64 (.var 24))), (.sc (.int .u64 (.var 25)))]), .call 53 [(.sc (.int .u64 (.var 0))), (.sc (.int .u64 (.var 7)))] (.tup [(.sc (.int .u64 (.var 26))), (.sc (.int .u64 (.var 27)))]), .call 48 [(.sc (.int .u64 (.var 27))), (.sc (.int .u64 (.lit 0))), (.sc (.int .u64 (.lit 0)))] (.tup [(.sc (.int .u64 (.var 28))), (.sc (.int .u64 (.var 29)))]), .call 48 [(.sc (.int .u64 (.var 28))), (.sc (.int .u64 (.add .u64 (.add .u64 (.var 20) (.var 23)) (.var 25)))), (.sc (.int .u64 (.lit 0)))] (.tup [(.sc (.int .u64 (.var 30))), (.sc (.int .u64 (.var 31)))]), .call 53 [(.sc (.int .u64 (.var 1))), (.sc (.int .u64 (.var 4)))] (.tup [(.sc (.int .u64 (.var 32))), (.sc (.int .u64 (.var 33)))]), .call 48 [(.sc (.int .u64 (.var 33))), (.sc (.int .u64 (.var 18))), (.sc (.int .u64 (.lit 0)))] (.tup [(.sc (.int .u64 (.var 34))), (.sc (.int .u64 (.var 35)))]), .call 48 [(.sc (.int .u64 (.var 34))), (.sc (.int .u64 (.lit 0))), (.sc (.int .u64 (.lit 0)))] (.tup [(.sc (.int .u64 (.var 36))), (.sc (.int .u64 (.var 37)))]), .call 53 [(.sc (.int .u64 (.var 1))), (.sc (.int .u64 (.var 5)))] (.tup [(.sc (.int .u64 (.var 38))), (.sc (.int .u64 (.var 39)))]), .call 48 [(.sc (.int .u64 (.var 39))), (.sc (.int .u64 (.var 24))), (.sc (.int .u64 (.lit 0)))] (.tup [(.sc (.int .u64 (.var 40))), (.sc (.int .u64 (.var 41)))]), .call 48 [(.sc (.int .u64 (.var 40))), (.sc (.int .u64 (.add .u64 (.add .u64 (.var 32) (.var 35)) (.var 37)))), (.sc (.int .u64 (.lit 0)))] (.tup [(.sc (.int .u64 (.var 42))), (.sc (.int .u64 (.var 43)))]), .call 53 [(.sc (.int .u64 (.var 1))), (.sc (.int .u64 (.var 6)))] (.tup [(.sc (.int .u64 (.var 44))), (.sc (.int .u64 (.var 45)))]), .call 48 [(.sc (.int .u64 (.var 45))), (.sc (.int .u64 (.var 30))), (.sc (.int .u64 (.lit 0)))] (.tup [(.sc (.int .u64 (.var 46))), (.sc (.int .u64 (.var 47)))]), .call 48 [(.sc (.int .u64 (.var 46))), (.sc (.int .u64 (.add .u64 (.add .u64 (.var 38) (.var 41)) (.var 43)))), (.sc (.int .u64 (.lit 0)))] (.tup [(.sc (.int .u64 (.var 48))), (.sc (.int .u64 (.var 49)))]), .call 53 [(.sc (.int .u64 (.var 1))), (.sc (.int .u64 (.var 7)))] (.tup [(.sc (.int .u64 (.var 50))), (.sc (.int .u64 (.var 51)))]), .call 48 [(.sc (.int .u64 (.var 51))), (.sc (.int .u64 (.add .u64 (.add .u64 (.var 26) (.var 29)) (.var 31)))), (.sc (.int .u64 (.lit 0)))] (.tup [(.sc (.int .u64 (.var 52))), (.sc (.int .u64 (.var 53)))]), .call 48 [(.sc (.int .u64 (.var 52))), (.sc (.int .u64 (.add .u64 (.add .u64 (.var 44) (.var 47)) (.var 49)))), (.sc (.int .u64 (.lit 0)))] (.tup [(.sc (.int .u64 (.var 54))), (.sc (.int .u64 (.var 55)))]), .call 53 [(.sc (.int .u64 (.var 2))), (.sc (.int .u64 (.var 4)))] (.tup [(.sc (.int .u64 (.var 56))), (.sc (.int .u64 (.var 57)))]), .call 48 [(.sc (.int .u64 (.var 57))), (.sc (.int .u64 (.var 42))), (.sc (.int .u64 (.lit 0)))] (.tup [(.sc (.int .u64 (.var 58))), (.sc (.int .u64 (.var 59)))]), .call 48 [(.sc (.int .u64 (.var 58))), (.sc (.int .u64 (.lit 0))), (.sc (.int .u64 (.lit 0)))] (.tup [(.sc (.int .u64 (.var 60))), (.sc (.int .u64 (.var 61)))]), .call 53 [(.sc (.int .u64 (.var 2))), (.sc (.int .u64 (.var 5)))] (.tup [(.sc (.int .u64 (.var 62))), (.sc (.int .u64 (.var 63)))]), .call 48 [(.sc (.int .u64 (.var 63))), (.sc (.int .u64 (.var 48))), (.sc (.int .u64 (.lit 0)))] (.tup [(.sc (.int .u64 (.var 64))), (.sc (.int .u64 (.var 65)))]), .call 48 [(.sc (.int .u64 (.var 64))), (.sc (.int .u64 (.add .u64 (.add .u64 (.var 56) (.var 59)) (.var 61)))), (.sc (.int .u64 (.lit 0)))] (.tup [(.sc (.int .u64 (.var 66))), (.sc (.int .u64 (.var 67)))]), .call 53 [(.sc (.int .u64 (.var 2))), (.sc (.int .u64 (.var 6)))] (.tup [(.sc (.int .u64 (.var 68))), (.sc (.int .u64 (.var 69)))]), .call 48 [(.sc (.int .u64 (.var 69))), (.sc (.int .u64 (.var 54))), (.sc (.int .u64 (.lit 0)))] (.tup [(.sc (.int .u64 (.var 70))), (.sc (.int .u64 (.var 71)))]), .call 48 [(.sc (.int .u64 (.var 70))), (.sc (.int .u64 (.add .u64 (.add .u64 (.var 62) (.var 65)) (.var 67)))), (.sc (.int .u64 (.lit 0)))] (.tup [(.sc (.int .u64 (.var 72))), (.sc (.int .u64 (.var 73)))]), .call 53 [(.sc (.int .u64 (.var 2))), (.sc (.int .u64 (.var 7)))] (.tup [(.sc (.int .u64 (.var 74))), (.sc (.int .u64 (.var 75)))]), .call 48 [(.sc (.int .u64 (.var 75))), (.sc (.int .u64 (.add .u64 (.add .u64 (.var 50) (.var 53)) (.var 55)))), (.sc (.int .u64 (.lit 0)))] (.tup [(.sc (.int .u64 (.var 76))), (.sc (.int .u64 (.var 77)))]), .call 48 [(.sc (.int .u64 (.var 76))), (.sc (.int .u64 (.add .u64 (.add .u64 (.var 68) (.var 71)) (.var 73)))), (.sc (.int .u64 (.lit 0)))] (.tup [(.sc (.int .u64 (.var 78))), (.sc (.int .u64 (.var 79)))]), .call 53 [(.sc (.int .u64 (.var 3))), (.sc (.int .u64 (.var 4)))] (.tup [(.sc (.int .u64 (.var 80))), (.sc (.int .u64 (.var 81)))]), .call 48 [(.sc (.int .u64 (.var 81))), (.sc (.int .u64 (.var 66))), (.sc (.int .u64 (.lit 0)))] (.tup [(.sc (.int .u64 (.var 82))), (.sc (.int .u64 (.var 83)))]), .call 48 [(.sc (.int .u64 (.var 82))), (.sc (.int .u64 (.lit 0))), (.sc (.int .u64 (.lit 0)))] (.tup [(.sc (.int .u64 (.var 84))), (.sc (.int .u64 (.var 85)))]), .call 53 [(.sc (.int .u64 (.var 3))), (.sc (.int .u64 (.var 5)))] (.tup [(.sc (.int .u64 (.var 86))), (.sc (.int .u64 (.var 87)))]), .call 48 [(.sc (.int .u64 (.var 87))), (.sc (.int .u64 (.var 72))), (.sc (.int .u64 (.lit 0)))] (.tup [(.sc (.int .u64 (.var 88))), (.sc (.int .u64 (.var 89)))]), .call 48 [(.sc (.int .u64 (.var 88))), (.sc (.int .u64 (.add .u64 (.add .u64 (.var 80) (.var 83)) (.var 85)))), (.sc (.int .u64 (.lit 0)))] (.tup [(.sc (.int .u64 (.var 90))), (.sc (.int .u64 (.var 91)))]), .call 53 [(.sc (.int .u64 (.var 3))), (.sc (.int .u64 (.var 6)))] (.tup [(.sc (.int .u64 (.var 92))), (.sc (.int .u64 (.var 93)))]), .call 48 [(.sc (.int .u64 (.var 93))), (.sc (.int .u64 (.var 78))), (.sc (.int .u64 (.lit 0)))] (.tup [(.sc (.int .u64 (.var 94))), (.sc (.int .u64 (.var 95)))]), .call 48 [(.sc (.int .u64 (.var 94))), (.sc (.int .u64 (.add .u64 (.add .u64 (.var 86) (.var 89)) (.var 91)))), (.sc (.int .u64 (.lit 0)))] (.tup [(.sc (.int .u64 (.var 96))), (.sc (.int .u64 (.var 97)))]), .call 53 [(.sc (.int .u64 (.var 3))), (.sc (.int .u64 (.var 7)))] (.tup [(.sc (.int .u64 (.var 98))), (.sc (.int .u64 (.var 99)))]), .call 48 [(.sc (.int .u64 (.var 99))), (.sc (.int .u64 (.add .u64 (.add .u64 (.var 74) (.var 77)) (.var 79)))), (.sc (.int .u64 (.lit 0)))] (.tup [(.sc (.int .u64 (.var 100))), (.sc (.int .u64 (.var 101)))]), .call 48 [(.sc (.int .u64 (.var 100))), (.sc (.int .u64 (.add .u64 (.add .u64 (.var 92) (.var 95)) (.var 97)))), (.sc (.int .u64 (.lit 0)))] (.tup [(.sc (.int .u64 (.var 102))), (.sc (.int .u64 (.var 103)))])], []⟩) Try.func32 (by kernel_rfl)
    (evs_of ⟨?_, ?_, ?_, ?_, ?_, ?_, ?_, ?_, ?_, ?_, ?_, ?_, ?_, ?_, ?_, ?_, ?_, ?_, ?_, ?_, ?_, ?_, ?_, ?_, ?_, ?_, ?_, ?_, ?_, ?_, ?_, ?_, ?_, ?_, ?_, ?_, ?_, ?_, ?_, ?_, ?_, ?_, ?_, ?_, ?_, ?_, ?_, ?_, trivial⟩) (by simp) w
  · (refine calls_eq hrun ?_; show Value.agg #[.int .u64 _, .int .u64 _, .int .u64 _, .int .u64 _, .int .u64 _, .int .u64 _, .int .u64 _, .int .u64 _] = _; rw [z0, z1, z2, z3, z4, z5, z6, z7, ← w15]; rfl)
  · exact CallP.g (C0.1)
  · exact CallP.g (C0.2.1)
  · exact CallP.g (C0.2.2)
  · exact CallP.g (C1.1)
  · exact CallP.g (C1.2.1)
  · exact CallP.g (C1.2.2)
  · exact CallP.g (C2.1)
  · exact CallP.g (C2.2.1)
  · exact CallP.g (C2.2.2)
  · exact CallP.g (C3.1)
  · exact CallP.g (C3.2.1)
  · exact CallP.g (C3.2.2)
  · exact CallP.g (C4.1)
  · exact CallP.g (C4.2.1)
  · exact CallP.g (C4.2.2)
  · exact CallP.g (C5.1)
  · exact CallP.g (C5.2.1)
  · exact CallP.g (C5.2.2)
  · exact CallP.g (C6.1)
  · exact CallP.g (C6.2.1)
  · exact CallP.g (C6.2.2)
  · exact CallP.g (C7.1)
  · exact CallP.g (C7.2.1)
  · exact CallP.g (C7.2.2)
  · exact CallP.g (C8.1)
  · exact CallP.g (C8.2.1)
  · exact CallP.g (C8.2.2)
  · exact CallP.g (C9.1)
  · exact CallP.g (C9.2.1)
  · exact CallP.g (C9.2.2)
  · exact CallP.g (C10.1)
  · exact CallP.g (C10.2.1)
  · exact CallP.g (C10.2.2)
  · exact CallP.g (C11.1)
  · exact CallP.g (C11.2.1)
  · exact CallP.g (C11.2.2)
  · exact CallP.g (C12.1)
  · exact CallP.g (C12.2.1)
  · exact CallP.g (C12.2.2)
  · exact CallP.g (C13.1)
  · exact CallP.g (C13.2.1)
  · exact CallP.g (C13.2.2)
  · exact CallP.g (C14.1)
  · exact CallP.g (C14.2.1)
  · exact CallP.g (C14.2.2)
  · exact CallP.g (C15.1)
  · exact CallP.g (C15.2.1)
  · exact CallP.g (C15.2.2)

theorem limb_mul_c (x y : Nat) (hx : x < N) (hy : y < N) : CallP Try.prog 32 #[.agg #[.int .u64 (lm x 0), .int .u64 (lm x 1), .int .u64 (lm x 2), .int .u64 (lm x 3)], .agg #[.int .u64 (lm y 0), .int .u64 (lm y 1), .int .u64 (lm y 2), .int .u64 (lm y 3)]] (.agg #[.int .u64 (lm (x * y) 0), .int .u64 (lm (x * y) 1), .int .u64 (lm (x * y) 2), .int .u64 (lm (x * y) 3), .int .u64 (lm (x * y) 4), .int .u64 (lm (x * y) 5), .int .u64 (lm (x * y) 6), .int .u64 (lm (x * y) 7)]) :=
  callP_of Try.func32 (by kernel_rfl) (by kernel_rfl) (fun w => limb_mul x y hx hy w)

end Go.Proofs.Ytgmbgidcgdammaa
