/- FieldPower, walked. -/
import Derived.Test.YtijnfclocanhkaaDoorFlaw0
namespace Go.Proofs.YtijnfclocanhkaaDoor
open Go.RowKit Go.Num Go.Sx

set_option maxHeartbeats 4000000 in
theorem wFieldPower (k : Nat) (a : Nat) (x y : Nat) (T : TypeId) (hk : k < 256) (ha : a < N) (hx : x < 4294967296) (hy : y < 4294967296) (w : World) (hK : (LF T).K ≤ w.heap.size) (hG : (LF T).G w) : Calls Tryd.prog 5 #[.int .u8 (k : Nat), .agg #[.int .u64 (lm a 0), .int .u64 (lm a 1), .int .u64 (lm a 2), .int .u64 (lm a 3)], .agg #[.int .u32 (x : Nat), .int .u32 (y : Nat)]] w fun e w' => e = .returned (.bool true) ∧ Below w.heap.size w w' := by
  have h0 := kk_lo k hk
  have h3 := kk_hi k hk
  obtain ⟨m, hm⟩ : ∃ m, m = Mo (IntKind.i64.wrap (Int.tmod ((k : Nat) : Int) (4 : Int))) := ⟨_, rfl⟩
  obtain ⟨g1, gN⟩ := m_gt h0 h3 hm
  obtain ⟨r1, hr1⟩ : ∃ r : Nat, r = a ^ (x + y) % m := ⟨_, rfl⟩
  have br1 : r1 < m := (by rw [hr1]; exact Nat.mod_lt _ (by omega))
  obtain ⟨r2, hr2⟩ : ∃ r : Nat, r = a ^ x % m := ⟨_, rfl⟩
  have br2 : r2 < m := (by rw [hr2]; exact Nat.mod_lt _ (by omega))
  obtain ⟨r3, hr3⟩ : ∃ r : Nat, r = a ^ y % m := ⟨_, rfl⟩
  have br3 : r3 < m := (by rw [hr3]; exact Nat.mod_lt _ (by omega))
  obtain ⟨r4, hr4⟩ : ∃ r : Nat, r = r2 * r3 % m := ⟨_, rfl⟩
  have br4 : r4 < m := (by rw [hr4]; exact Nat.mod_lt _ (by omega))
  obtain ⟨r5, hr5⟩ : ∃ r : Nat, r = a ^ 2 % m := ⟨_, rfl⟩
  have br5 : r5 < m := (by rw [hr5]; exact Nat.mod_lt _ (by omega))
  obtain ⟨r6, hr6⟩ : ∃ r : Nat, r = a * a % m := ⟨_, rfl⟩
  have br6 : r6 < m := (by rw [hr6]; exact Nat.mod_lt _ (by omega))
  obtain ⟨r7, hr7⟩ : ∃ r : Nat, r = a ^ 1 % m := ⟨_, rfl⟩
  have br7 : r7 < m := (by rw [hr7]; exact Nat.mod_lt _ (by omega))
  obtain ⟨r8, hr8⟩ : ∃ r : Nat, r = a % m := ⟨_, rfl⟩
  have br8 : r8 < m := (by rw [hr8]; exact Nat.mod_lt _ (by omega))
  have E1 : r1 = r4 := (by rw [hr1, hr4, hr2, hr3, ← Nat.mul_mod, Nat.pow_add])
  have E2 : r5 = r6 := (by rw [hr5, hr6, Nat.pow_two])
  have E3 : r7 = r8 := (by rw [hr7, hr8, Nat.pow_one])
  have hrun := calls_of_runG (P := Tryd.prog) (v := ⟨fun n => ([((k : Nat) : Int), ((lm a 0 : Nat) : Int), ((lm a 1 : Nat) : Int), ((lm a 2 : Nat) : Int), ((lm a 3 : Nat) : Int), ((x : Nat) : Int), ((y : Nat) : Int), 0, ((lm r1 0 : Nat) : Int), ((lm r1 1 : Nat) : Int), ((lm r1 2 : Nat) : Int), ((lm r1 3 : Nat) : Int), ((lm r2 0 : Nat) : Int), ((lm r2 1 : Nat) : Int), ((lm r2 2 : Nat) : Int), ((lm r2 3 : Nat) : Int), ((lm r3 0 : Nat) : Int), ((lm r3 1 : Nat) : Int), ((lm r3 2 : Nat) : Int), ((lm r3 3 : Nat) : Int), ((lm r4 0 : Nat) : Int), ((lm r4 1 : Nat) : Int), ((lm r4 2 : Nat) : Int), ((lm r4 3 : Nat) : Int), ((lm r5 0 : Nat) : Int), ((lm r5 1 : Nat) : Int), ((lm r5 2 : Nat) : Int), ((lm r5 3 : Nat) : Int), ((lm r6 0 : Nat) : Int), ((lm r6 1 : Nat) : Int), ((lm r6 2 : Nat) : Int), ((lm r6 3 : Nat) : Int), ((lm r7 0 : Nat) : Int), ((lm r7 1 : Nat) : Int), ((lm r7 2 : Nat) : Int), ((lm r7 3 : Nat) : Int), ((lm r8 0 : Nat) : Int), ((lm r8 1 : Nat) : Int), ((lm r8 2 : Nat) : Int), ((lm r8 3 : Nat) : Int)] : List Int).getD n 0, fun n => ([false, false, false, false, false, false, false, true] : List Bool).getD n false, LF T⟩) (gs := []) (fuel := 3000) (nv := 7) (args := [(.sc (.int .u8 (.var 0))), (.agg [.int .u64 (.var 1), .int .u64 (.var 2), .int .u64 (.var 3), .int .u64 (.var 4)]), (.agg [.int .u32 (.var 5), .int .u32 (.var 6)])]) (ora := [some true, some true, some true, some true]) (sums := []) (r := ⟨(.one (.sc (.bool (.lit true)))), [.call 20 [] (.one (.sc (.bool (.var 7)))), .dec (.var 7) true, .call 23 [(.sc (.int .i64 (.conv .i64 (.rem (.var 0) (.lit 4))))), (.agg [.int .u64 (.var 1), .int .u64 (.var 2), .int .u64 (.var 3), .int .u64 (.var 4)]), (.agg [.int .u64 (.add .u64 (.conv .u64 (.var 5)) (.conv .u64 (.var 6))), .int .u64 (.lit 0), .int .u64 (.lit 0), .int .u64 (.lit 0)])] (.one (.agg [.int .u64 (.var 8), .int .u64 (.var 9), .int .u64 (.var 10), .int .u64 (.var 11)])), .call 23 [(.sc (.int .i64 (.conv .i64 (.rem (.var 0) (.lit 4))))), (.agg [.int .u64 (.var 1), .int .u64 (.var 2), .int .u64 (.var 3), .int .u64 (.var 4)]), (.agg [.int .u64 (.conv .u64 (.var 5)), .int .u64 (.lit 0), .int .u64 (.lit 0), .int .u64 (.lit 0)])] (.one (.agg [.int .u64 (.var 12), .int .u64 (.var 13), .int .u64 (.var 14), .int .u64 (.var 15)])), .call 23 [(.sc (.int .i64 (.conv .i64 (.rem (.var 0) (.lit 4))))), (.agg [.int .u64 (.var 1), .int .u64 (.var 2), .int .u64 (.var 3), .int .u64 (.var 4)]), (.agg [.int .u64 (.conv .u64 (.var 6)), .int .u64 (.lit 0), .int .u64 (.lit 0), .int .u64 (.lit 0)])] (.one (.agg [.int .u64 (.var 16), .int .u64 (.var 17), .int .u64 (.var 18), .int .u64 (.var 19)])), .call 24 [(.sc (.int .i64 (.conv .i64 (.rem (.var 0) (.lit 4))))), (.agg [.int .u64 (.var 12), .int .u64 (.var 13), .int .u64 (.var 14), .int .u64 (.var 15)]), (.agg [.int .u64 (.var 16), .int .u64 (.var 17), .int .u64 (.var 18), .int .u64 (.var 19)])] (.one (.agg [.int .u64 (.var 20), .int .u64 (.var 21), .int .u64 (.var 22), .int .u64 (.var 23)])), .dec (.and (.cmp .eql (.var 8) (.var 20)) (.and (.cmp .eql (.var 9) (.var 21)) (.and (.cmp .eql (.var 10) (.var 22)) (.cmp .eql (.var 11) (.var 23))))) true, .call 23 [(.sc (.int .i64 (.conv .i64 (.rem (.var 0) (.lit 4))))), (.agg [.int .u64 (.var 1), .int .u64 (.var 2), .int .u64 (.var 3), .int .u64 (.var 4)]), (.agg [.int .u64 (.lit 2), .int .u64 (.lit 0), .int .u64 (.lit 0), .int .u64 (.lit 0)])] (.one (.agg [.int .u64 (.var 24), .int .u64 (.var 25), .int .u64 (.var 26), .int .u64 (.var 27)])), .call 24 [(.sc (.int .i64 (.conv .i64 (.rem (.var 0) (.lit 4))))), (.agg [.int .u64 (.var 1), .int .u64 (.var 2), .int .u64 (.var 3), .int .u64 (.var 4)]), (.agg [.int .u64 (.var 1), .int .u64 (.var 2), .int .u64 (.var 3), .int .u64 (.var 4)])] (.one (.agg [.int .u64 (.var 28), .int .u64 (.var 29), .int .u64 (.var 30), .int .u64 (.var 31)])), .dec (.and (.cmp .eql (.var 24) (.var 28)) (.and (.cmp .eql (.var 25) (.var 29)) (.and (.cmp .eql (.var 26) (.var 30)) (.cmp .eql (.var 27) (.var 31))))) true, .call 23 [(.sc (.int .i64 (.conv .i64 (.rem (.var 0) (.lit 4))))), (.agg [.int .u64 (.var 1), .int .u64 (.var 2), .int .u64 (.var 3), .int .u64 (.var 4)]), (.agg [.int .u64 (.lit 1), .int .u64 (.lit 0), .int .u64 (.lit 0), .int .u64 (.lit 0)])] (.one (.agg [.int .u64 (.var 32), .int .u64 (.var 33), .int .u64 (.var 34), .int .u64 (.var 35)])), .call 25 [(.sc (.int .i64 (.conv .i64 (.rem (.var 0) (.lit 4))))), (.agg [.int .u64 (.var 1), .int .u64 (.var 2), .int .u64 (.var 3), .int .u64 (.var 4)])] (.one (.agg [.int .u64 (.var 36), .int .u64 (.var 37), .int .u64 (.var 38), .int .u64 (.var 39)])), .dec (.and (.cmp .eql (.var 32) (.var 36)) (.and (.cmp .eql (.var 33) (.var 37)) (.and (.cmp .eql (.var 34) (.var 38)) (.cmp .eql (.var 35) (.var 39))))) true], []⟩) Tryd.func5 (by kernel_rfl)
    (evs_of ⟨?_, ?_, ?_, ?_, ?_, ?_, ?_, ?_, ?_, ?_, ?_, ?_, ?_, trivial⟩) (by simp) (GsOk.nil _) w hK hG
  · exact hrun
  · exact awake02_g T
  · simp [Ev.holds, Bx.den, cmpD, I.den, lm_z, lm_10, lm_11, lm_12, lm_13, E1, E2, E3]
  · exact ypow1_g T h0 h3 hm a (x + y) (IntKind.u64.wrap ((IntKind.u64.wrap ((x : Nat) : Int)) + (IntKind.u64.wrap ((y : Nat) : Int)))) (by first | assumption | exact Nat.lt_trans (by assumption) gN | decide) (by simp only [IntKind.wrap_u64]; omega) (by unfold B; omega) hr1
  · exact ypow1_g T h0 h3 hm a x (IntKind.u64.wrap ((x : Nat) : Int)) (by first | assumption | exact Nat.lt_trans (by assumption) gN | decide) (by simp only [IntKind.wrap_u64]; omega) (by unfold B; omega) hr2
  · exact ypow1_g T h0 h3 hm a y (IntKind.u64.wrap ((y : Nat) : Int)) (by first | assumption | exact Nat.lt_trans (by assumption) gN | decide) (by simp only [IntKind.wrap_u64]; omega) (by unfold B; omega) hr3
  · exact ymul_g T h0 h3 hm r2 r3 (by first | assumption | exact Nat.lt_trans (by assumption) gN | decide) (by first | assumption | exact Nat.lt_trans (by assumption) gN | decide) hr4
  · simp [Ev.holds, Bx.den, cmpD, I.den, lm_z, lm_10, lm_11, lm_12, lm_13, E1, E2, E3]
  · exact ypow_g T h0 h3 hm a 2 (by first | assumption | exact Nat.lt_trans (by assumption) gN | decide) (by first | assumption | exact Nat.lt_trans (by assumption) gN | decide) hr5
  · exact ymul_g T h0 h3 hm a a (by first | assumption | exact Nat.lt_trans (by assumption) gN | decide) (by first | assumption | exact Nat.lt_trans (by assumption) gN | decide) hr6
  · simp [Ev.holds, Bx.den, cmpD, I.den, lm_z, lm_10, lm_11, lm_12, lm_13, E1, E2, E3]
  · exact ypow_g T h0 h3 hm a 1 (by first | assumption | exact Nat.lt_trans (by assumption) gN | decide) (by first | assumption | exact Nat.lt_trans (by assumption) gN | decide) hr7
  · exact yfold_g T h0 h3 hm a (by first | assumption | exact Nat.lt_trans (by assumption) gN | decide) hr8
  · simp [Ev.holds, Bx.den, cmpD, I.den, lm_z, lm_10, lm_11, lm_12, lm_13, E1, E2, E3]

end Go.Proofs.YtijnfclocanhkaaDoor
