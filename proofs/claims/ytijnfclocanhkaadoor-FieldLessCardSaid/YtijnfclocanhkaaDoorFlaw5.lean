/- FieldLess, walked. -/
import Derived.Test.YtijnfclocanhkaaDoorFlaw0
import Derived.Test.YtijnfclocanhkaaDoorField5
import Derived.Test.YtijnfclocanhkaaDoorLimb6
namespace Go.Proofs.YtijnfclocanhkaaDoor
open Go.RowKit Go.Num Go.Sx

theorem ref_mul_l (x y : Nat) (hx : x < N) (hy : y < N) {r : Nat} (hr : r = x * y) : CallP Tryd.prog 32 #[.agg #[.int .u64 (lm x 0), .int .u64 (lm x 1), .int .u64 (lm x 2), .int .u64 (lm x 3)], .agg #[.int .u64 (lm y 0), .int .u64 (lm y 1), .int .u64 (lm y 2), .int .u64 (lm y 3)]] (.agg #[.int .u64 (lm r 0), .int .u64 (lm r 1), .int .u64 (lm r 2), .int .u64 (lm r 3), .int .u64 (lm r 4), .int .u64 (lm r 5), .int .u64 (lm r 6), .int .u64 (lm r 7)]) := by
  subst hr
  exact ref_mul_c x y hx hy

set_option maxHeartbeats 4000000 in
theorem wFieldLess (k : Nat) (a : Nat) (b : Nat) (T : TypeId) (hk : k < 256) (ha : a < N) (hb : b < N) (w : World) (hK : (LF T).K ≤ w.heap.size) (hG : (LF T).G w) : Calls Tryd.prog 10 #[.int .u8 (k : Nat), .agg #[.int .u64 (lm a 0), .int .u64 (lm a 1), .int .u64 (lm a 2), .int .u64 (lm a 3)], .agg #[.int .u64 (lm b 0), .int .u64 (lm b 1), .int .u64 (lm b 2), .int .u64 (lm b 3)]] w fun e w' => e = .returned (.bool true) ∧ Below w.heap.size w w' := by
  have h0 := kk_lo k hk
  have h3 := kk_hi k hk
  obtain ⟨m, hm⟩ : ∃ m, m = Mo (IntKind.i64.wrap (Int.tmod ((k : Nat) : Int) (4 : Int))) := ⟨_, rfl⟩
  obtain ⟨g1, gN⟩ := m_gt h0 h3 hm
  obtain ⟨r1, hr1⟩ : ∃ r : Nat, r = a * b % m := ⟨_, rfl⟩
  have br1 : r1 < m := (by rw [hr1]; exact Nat.mod_lt _ (by omega))
  obtain ⟨r2, hr2⟩ : ∃ r : Nat, r = a * b := ⟨_, rfl⟩
  have br2 : r2 < N * N := (by rw [hr2]; exact Nat.mul_lt_mul'' ha hb)
  obtain ⟨r3, hr3⟩ : ∃ r : Nat, r = r2 % m := ⟨_, rfl⟩
  have br3 : r3 < m := (by rw [hr3]; exact Nat.mod_lt _ (by omega))
  obtain ⟨r4, hr4⟩ : ∃ r : Bool, r = decide (r1 < m) := ⟨_, rfl⟩
  obtain ⟨r5, hr5⟩ : ∃ r : Nat, r = (a + b) % m := ⟨_, rfl⟩
  have br5 : r5 < m := (by rw [hr5]; exact Nat.mod_lt _ (by omega))
  obtain ⟨r6, hr6⟩ : ∃ r : Bool, r = decide (r5 < m) := ⟨_, rfl⟩
  obtain ⟨r7, hr7⟩ : ∃ r : Nat, r = sb m a b := ⟨_, rfl⟩
  have br7 : r7 < m := (by rw [hr7]; exact sb_lt g1 _ _)
  obtain ⟨r8, hr8⟩ : ∃ r : Bool, r = decide (r7 < m) := ⟨_, rfl⟩
  obtain ⟨r9, hr9⟩ : ∃ r : Nat, r = a % m := ⟨_, rfl⟩
  have br9 : r9 < m := (by rw [hr9]; exact Nat.mod_lt _ (by omega))
  obtain ⟨r10, hr10⟩ : ∃ r : Bool, r = decide (r9 < m) := ⟨_, rfl⟩
  have E1 : r1 = r3 := (by rw [hr1, hr3, hr2])
  have T4 : r4 = true := (by rw [hr4]; exact decide_eq_true (by assumption))
  have T6 : r6 = true := (by rw [hr6]; exact decide_eq_true (by assumption))
  have T8 : r8 = true := (by rw [hr8]; exact decide_eq_true (by assumption))
  have T10 : r10 = true := (by rw [hr10]; exact decide_eq_true (by assumption))
  have hrun := calls_of_runG (P := Tryd.prog) (v := ⟨fun n => ([((k : Nat) : Int), ((lm a 0 : Nat) : Int), ((lm a 1 : Nat) : Int), ((lm a 2 : Nat) : Int), ((lm a 3 : Nat) : Int), ((lm b 0 : Nat) : Int), ((lm b 1 : Nat) : Int), ((lm b 2 : Nat) : Int), ((lm b 3 : Nat) : Int), ((lm m 0 : Nat) : Int), ((lm m 1 : Nat) : Int), ((lm m 2 : Nat) : Int), ((lm m 3 : Nat) : Int), ((lm r1 0 : Nat) : Int), ((lm r1 1 : Nat) : Int), ((lm r1 2 : Nat) : Int), ((lm r1 3 : Nat) : Int), 0, ((lm r2 0 : Nat) : Int), ((lm r2 1 : Nat) : Int), ((lm r2 2 : Nat) : Int), ((lm r2 3 : Nat) : Int), ((lm r2 4 : Nat) : Int), ((lm r2 5 : Nat) : Int), ((lm r2 6 : Nat) : Int), ((lm r2 7 : Nat) : Int), ((lm r3 0 : Nat) : Int), ((lm r3 1 : Nat) : Int), ((lm r3 2 : Nat) : Int), ((lm r3 3 : Nat) : Int), 0, ((lm r5 0 : Nat) : Int), ((lm r5 1 : Nat) : Int), ((lm r5 2 : Nat) : Int), ((lm r5 3 : Nat) : Int), 0, ((lm r7 0 : Nat) : Int), ((lm r7 1 : Nat) : Int), ((lm r7 2 : Nat) : Int), ((lm r7 3 : Nat) : Int), 0, ((lm r9 0 : Nat) : Int), ((lm r9 1 : Nat) : Int), ((lm r9 2 : Nat) : Int), ((lm r9 3 : Nat) : Int)] : List Int).getD n 0, fun n => ([false, false, false, false, false, false, false, false, false, false, false, false, false, false, false, false, false, true, false, false, false, false, false, false, false, false, false, false, false, false, r4, false, false, false, false, r6, false, false, false, false, r8, false, false, false, false, r10] : List Bool).getD n false, LF T⟩) (gs := []) (fuel := 3000) (nv := 9) (args := [(.sc (.int .u8 (.var 0))), (.agg [.int .u64 (.var 1), .int .u64 (.var 2), .int .u64 (.var 3), .int .u64 (.var 4)]), (.agg [.int .u64 (.var 5), .int .u64 (.var 6), .int .u64 (.var 7), .int .u64 (.var 8)])]) (ora := [some true, some false, some true, some true, some true, some true]) (sums := []) (r := ⟨(.one (.sc (.bool (.lit true)))), [.call 31 [(.sc (.int .i64 (.conv .i64 (.rem (.var 0) (.lit 4)))))] (.one (.agg [.int .u64 (.var 9), .int .u64 (.var 10), .int .u64 (.var 11), .int .u64 (.var 12)])), .call 24 [(.sc (.int .i64 (.conv .i64 (.rem (.var 0) (.lit 4))))), (.agg [.int .u64 (.var 1), .int .u64 (.var 2), .int .u64 (.var 3), .int .u64 (.var 4)]), (.agg [.int .u64 (.var 5), .int .u64 (.var 6), .int .u64 (.var 7), .int .u64 (.var 8)])] (.one (.agg [.int .u64 (.var 13), .int .u64 (.var 14), .int .u64 (.var 15), .int .u64 (.var 16)])), .call 20 [] (.one (.sc (.bool (.var 17)))), .dec (.var 17) true, .call 32 [(.agg [.int .u64 (.var 1), .int .u64 (.var 2), .int .u64 (.var 3), .int .u64 (.var 4)]), (.agg [.int .u64 (.var 5), .int .u64 (.var 6), .int .u64 (.var 7), .int .u64 (.var 8)])] (.one (.agg [.int .u64 (.var 18), .int .u64 (.var 19), .int .u64 (.var 20), .int .u64 (.var 21), .int .u64 (.var 22), .int .u64 (.var 23), .int .u64 (.var 24), .int .u64 (.var 25)])), .call 21 [(.sc (.int .i64 (.conv .i64 (.rem (.var 0) (.lit 4))))), (.agg [.int .u64 (.var 18), .int .u64 (.var 19), .int .u64 (.var 20), .int .u64 (.var 21), .int .u64 (.var 22), .int .u64 (.var 23), .int .u64 (.var 24), .int .u64 (.var 25)])] (.one (.agg [.int .u64 (.var 26), .int .u64 (.var 27), .int .u64 (.var 28), .int .u64 (.var 29)])), .dec (.not (.and (.cmp .eql (.var 13) (.var 26)) (.and (.cmp .eql (.var 14) (.var 27)) (.and (.cmp .eql (.var 15) (.var 28)) (.cmp .eql (.var 16) (.var 29)))))) false, .call 33 [(.agg [.int .u64 (.var 13), .int .u64 (.var 14), .int .u64 (.var 15), .int .u64 (.var 16)]), (.agg [.int .u64 (.var 9), .int .u64 (.var 10), .int .u64 (.var 11), .int .u64 (.var 12)])] (.one (.sc (.bool (.var 30)))), .dec (.var 30) true, .call 29 [(.sc (.int .i64 (.conv .i64 (.rem (.var 0) (.lit 4))))), (.agg [.int .u64 (.var 1), .int .u64 (.var 2), .int .u64 (.var 3), .int .u64 (.var 4)]), (.agg [.int .u64 (.var 5), .int .u64 (.var 6), .int .u64 (.var 7), .int .u64 (.var 8)])] (.one (.agg [.int .u64 (.var 31), .int .u64 (.var 32), .int .u64 (.var 33), .int .u64 (.var 34)])), .call 33 [(.agg [.int .u64 (.var 31), .int .u64 (.var 32), .int .u64 (.var 33), .int .u64 (.var 34)]), (.agg [.int .u64 (.var 9), .int .u64 (.var 10), .int .u64 (.var 11), .int .u64 (.var 12)])] (.one (.sc (.bool (.var 35)))), .dec (.var 35) true, .call 30 [(.sc (.int .i64 (.conv .i64 (.rem (.var 0) (.lit 4))))), (.agg [.int .u64 (.var 1), .int .u64 (.var 2), .int .u64 (.var 3), .int .u64 (.var 4)]), (.agg [.int .u64 (.var 5), .int .u64 (.var 6), .int .u64 (.var 7), .int .u64 (.var 8)])] (.one (.agg [.int .u64 (.var 36), .int .u64 (.var 37), .int .u64 (.var 38), .int .u64 (.var 39)])), .call 33 [(.agg [.int .u64 (.var 36), .int .u64 (.var 37), .int .u64 (.var 38), .int .u64 (.var 39)]), (.agg [.int .u64 (.var 9), .int .u64 (.var 10), .int .u64 (.var 11), .int .u64 (.var 12)])] (.one (.sc (.bool (.var 40)))), .dec (.var 40) true, .call 25 [(.sc (.int .i64 (.conv .i64 (.rem (.var 0) (.lit 4))))), (.agg [.int .u64 (.var 1), .int .u64 (.var 2), .int .u64 (.var 3), .int .u64 (.var 4)])] (.one (.agg [.int .u64 (.var 41), .int .u64 (.var 42), .int .u64 (.var 43), .int .u64 (.var 44)])), .call 33 [(.agg [.int .u64 (.var 41), .int .u64 (.var 42), .int .u64 (.var 43), .int .u64 (.var 44)]), (.agg [.int .u64 (.var 9), .int .u64 (.var 10), .int .u64 (.var 11), .int .u64 (.var 12)])] (.one (.sc (.bool (.var 45)))), .dec (.var 45) true], []⟩) Tryd.func10 (by kernel_rfl)
    (evs_of ⟨?_, ?_, ?_, ?_, ?_, ?_, ?_, ?_, ?_, ?_, ?_, ?_, ?_, ?_, ?_, ?_, ?_, ?_, trivial⟩) (by simp) (GsOk.nil _) w hK hG
  · exact hrun
  · exact ymodulus_g T h0 h3 hm
  · exact ymul_g T h0 h3 hm a b (by first | assumption | exact Nat.lt_trans (by assumption) gN | decide) (by first | assumption | exact Nat.lt_trans (by assumption) gN | decide) hr1
  · exact awake02_g T
  · simp [Ev.holds, Bx.den, cmpD, I.den, lm_z, lm_10, lm_11, lm_12, lm_13, E1, T4, T6, T8, T10]
  · exact CallP.g (ref_mul_l a b (by first | assumption | exact Nat.lt_trans (by assumption) gN | decide) (by first | assumption | exact Nat.lt_trans (by assumption) gN | decide) hr2)
  · exact yreduce_g T h0 h3 hm r2 (by assumption) hr3
  · simp [Ev.holds, Bx.den, cmpD, I.den, lm_z, lm_10, lm_11, lm_12, lm_13, E1, T4, T6, T8, T10]
  · exact CallP.g (ref_less_l r1 m (by first | assumption | exact Nat.lt_trans (by assumption) gN | decide) (by first | assumption | exact Nat.lt_trans (by assumption) gN | decide) hr4)
  · simp [Ev.holds, Bx.den, cmpD, I.den, lm_z, lm_10, lm_11, lm_12, lm_13, E1, T4, T6, T8, T10]
  · exact yadd_g T h0 h3 hm a b (by first | assumption | exact Nat.lt_trans (by assumption) gN | decide) (by first | assumption | exact Nat.lt_trans (by assumption) gN | decide) hr5
  · exact CallP.g (ref_less_l r5 m (by first | assumption | exact Nat.lt_trans (by assumption) gN | decide) (by first | assumption | exact Nat.lt_trans (by assumption) gN | decide) hr6)
  · simp [Ev.holds, Bx.den, cmpD, I.den, lm_z, lm_10, lm_11, lm_12, lm_13, E1, T4, T6, T8, T10]
  · exact ysub_g T h0 h3 hm a b (by first | assumption | exact Nat.lt_trans (by assumption) gN | decide) (by first | assumption | exact Nat.lt_trans (by assumption) gN | decide) hr7
  · exact CallP.g (ref_less_l r7 m (by first | assumption | exact Nat.lt_trans (by assumption) gN | decide) (by first | assumption | exact Nat.lt_trans (by assumption) gN | decide) hr8)
  · simp [Ev.holds, Bx.den, cmpD, I.den, lm_z, lm_10, lm_11, lm_12, lm_13, E1, T4, T6, T8, T10]
  · exact yfold_g T h0 h3 hm a (by first | assumption | exact Nat.lt_trans (by assumption) gN | decide) hr9
  · exact CallP.g (ref_less_l r9 m (by first | assumption | exact Nat.lt_trans (by assumption) gN | decide) (by first | assumption | exact Nat.lt_trans (by assumption) gN | decide) hr10)
  · simp [Ev.holds, Bx.den, cmpD, I.den, lm_z, lm_10, lm_11, lm_12, lm_13, E1, T4, T6, T8, T10]

end Go.Proofs.YtijnfclocanhkaaDoor
