/- FieldMinus, walked. -/
import Derived.Test.YtijnfclocanhkaaDoorFlaw0
namespace Go.Proofs.YtijnfclocanhkaaDoor
open Go.RowKit Go.Num Go.Sx

set_option maxHeartbeats 4000000 in
theorem wFieldMinus (k : Nat) (a : Nat) (b : Nat) (T : TypeId) (hk : k < 256) (ha : a < N) (hb : b < N) (w : World) (hK : (LF T).K ≤ w.heap.size) (hG : (LF T).G w) : Calls Tryd.prog 9 #[.int .u8 (k : Nat), .agg #[.int .u64 (lm a 0), .int .u64 (lm a 1), .int .u64 (lm a 2), .int .u64 (lm a 3)], .agg #[.int .u64 (lm b 0), .int .u64 (lm b 1), .int .u64 (lm b 2), .int .u64 (lm b 3)]] w fun e w' => e = .returned (.bool true) ∧ Below w.heap.size w w' := by
  have h0 := kk_lo k hk
  have h3 := kk_hi k hk
  obtain ⟨m, hm⟩ : ∃ m, m = Mo (IntKind.i64.wrap (Int.tmod ((k : Nat) : Int) (4 : Int))) := ⟨_, rfl⟩
  obtain ⟨g1, gN⟩ := m_gt h0 h3 hm
  obtain ⟨r1, hr1⟩ : ∃ r : Nat, r = sb m 0 a := ⟨_, rfl⟩
  have br1 : r1 < m := (by rw [hr1]; exact sb_lt g1 _ _)
  obtain ⟨r2, hr2⟩ : ∃ r : Nat, r = (a + r1) % m := ⟨_, rfl⟩
  have br2 : r2 < m := (by rw [hr2]; exact Nat.mod_lt _ (by omega))
  obtain ⟨r3, hr3⟩ : ∃ r : Nat, r = sb m 0 r1 := ⟨_, rfl⟩
  have br3 : r3 < m := (by rw [hr3]; exact sb_lt g1 _ _)
  obtain ⟨r4, hr4⟩ : ∃ r : Nat, r = a % m := ⟨_, rfl⟩
  have br4 : r4 < m := (by rw [hr4]; exact Nat.mod_lt _ (by omega))
  obtain ⟨r5, hr5⟩ : ∃ r : Nat, r = r1 * b % m := ⟨_, rfl⟩
  have br5 : r5 < m := (by rw [hr5]; exact Nat.mod_lt _ (by omega))
  obtain ⟨r6, hr6⟩ : ∃ r : Nat, r = a * b % m := ⟨_, rfl⟩
  have br6 : r6 < m := (by rw [hr6]; exact Nat.mod_lt _ (by omega))
  obtain ⟨r7, hr7⟩ : ∃ r : Nat, r = sb m 0 r6 := ⟨_, rfl⟩
  have br7 : r7 < m := (by rw [hr7]; exact sb_lt g1 _ _)
  obtain ⟨r8, hr8⟩ : ∃ r : Nat, r = sb m a b := ⟨_, rfl⟩
  have br8 : r8 < m := (by rw [hr8]; exact sb_lt g1 _ _)
  obtain ⟨r9, hr9⟩ : ∃ r : Nat, r = sb m 0 b := ⟨_, rfl⟩
  have br9 : r9 < m := (by rw [hr9]; exact sb_lt g1 _ _)
  obtain ⟨r10, hr10⟩ : ∃ r : Nat, r = (a + r9) % m := ⟨_, rfl⟩
  have br10 : r10 < m := (by rw [hr10]; exact Nat.mod_lt _ (by omega))
  have E1 : r2 = 0 := (by rw [hr2, hr1]; exact minus1 g1 a)
  have E2 : r3 = r4 := (by rw [hr3, hr4, hr1]; exact minus2 g1 a)
  have E3 : r5 = r7 := (by rw [hr5, hr7, hr6, hr1]; exact minus3 g1 a b)
  have E4 : r8 = r10 := (by rw [hr8, hr10, hr9]; exact minus4 g1 a b)
  have hrun := calls_of_runG (P := Tryd.prog) (v := ⟨fun n => ([((k : Nat) : Int), ((lm a 0 : Nat) : Int), ((lm a 1 : Nat) : Int), ((lm a 2 : Nat) : Int), ((lm a 3 : Nat) : Int), ((lm b 0 : Nat) : Int), ((lm b 1 : Nat) : Int), ((lm b 2 : Nat) : Int), ((lm b 3 : Nat) : Int), ((lm r1 0 : Nat) : Int), ((lm r1 1 : Nat) : Int), ((lm r1 2 : Nat) : Int), ((lm r1 3 : Nat) : Int), 0, ((lm r2 0 : Nat) : Int), ((lm r2 1 : Nat) : Int), ((lm r2 2 : Nat) : Int), ((lm r2 3 : Nat) : Int), ((lm r3 0 : Nat) : Int), ((lm r3 1 : Nat) : Int), ((lm r3 2 : Nat) : Int), ((lm r3 3 : Nat) : Int), ((lm r4 0 : Nat) : Int), ((lm r4 1 : Nat) : Int), ((lm r4 2 : Nat) : Int), ((lm r4 3 : Nat) : Int), ((lm r5 0 : Nat) : Int), ((lm r5 1 : Nat) : Int), ((lm r5 2 : Nat) : Int), ((lm r5 3 : Nat) : Int), ((lm r6 0 : Nat) : Int), ((lm r6 1 : Nat) : Int), ((lm r6 2 : Nat) : Int), ((lm r6 3 : Nat) : Int), ((lm r7 0 : Nat) : Int), ((lm r7 1 : Nat) : Int), ((lm r7 2 : Nat) : Int), ((lm r7 3 : Nat) : Int), ((lm r8 0 : Nat) : Int), ((lm r8 1 : Nat) : Int), ((lm r8 2 : Nat) : Int), ((lm r8 3 : Nat) : Int), ((lm r9 0 : Nat) : Int), ((lm r9 1 : Nat) : Int), ((lm r9 2 : Nat) : Int), ((lm r9 3 : Nat) : Int), ((lm r10 0 : Nat) : Int), ((lm r10 1 : Nat) : Int), ((lm r10 2 : Nat) : Int), ((lm r10 3 : Nat) : Int)] : List Int).getD n 0, fun n => ([false, false, false, false, false, false, false, false, false, false, false, false, false, true] : List Bool).getD n false, LF T⟩) (gs := []) (fuel := 3000) (nv := 9) (args := [(.sc (.int .u8 (.var 0))), (.agg [.int .u64 (.var 1), .int .u64 (.var 2), .int .u64 (.var 3), .int .u64 (.var 4)]), (.agg [.int .u64 (.var 5), .int .u64 (.var 6), .int .u64 (.var 7), .int .u64 (.var 8)])]) (ora := [some true, some true, some true, some true, some true]) (sums := []) (r := ⟨(.one (.sc (.bool (.lit true)))), [.call 30 [(.sc (.int .i64 (.conv .i64 (.rem (.var 0) (.lit 4))))), (.agg [.int .u64 (.lit 0), .int .u64 (.lit 0), .int .u64 (.lit 0), .int .u64 (.lit 0)]), (.agg [.int .u64 (.var 1), .int .u64 (.var 2), .int .u64 (.var 3), .int .u64 (.var 4)])] (.one (.agg [.int .u64 (.var 9), .int .u64 (.var 10), .int .u64 (.var 11), .int .u64 (.var 12)])), .call 20 [] (.one (.sc (.bool (.var 13)))), .dec (.var 13) true, .call 29 [(.sc (.int .i64 (.conv .i64 (.rem (.var 0) (.lit 4))))), (.agg [.int .u64 (.var 1), .int .u64 (.var 2), .int .u64 (.var 3), .int .u64 (.var 4)]), (.agg [.int .u64 (.var 9), .int .u64 (.var 10), .int .u64 (.var 11), .int .u64 (.var 12)])] (.one (.agg [.int .u64 (.var 14), .int .u64 (.var 15), .int .u64 (.var 16), .int .u64 (.var 17)])), .dec (.and (.cmp .eql (.var 14) (.lit 0)) (.and (.cmp .eql (.var 15) (.lit 0)) (.and (.cmp .eql (.var 16) (.lit 0)) (.cmp .eql (.var 17) (.lit 0))))) true, .call 30 [(.sc (.int .i64 (.conv .i64 (.rem (.var 0) (.lit 4))))), (.agg [.int .u64 (.lit 0), .int .u64 (.lit 0), .int .u64 (.lit 0), .int .u64 (.lit 0)]), (.agg [.int .u64 (.var 9), .int .u64 (.var 10), .int .u64 (.var 11), .int .u64 (.var 12)])] (.one (.agg [.int .u64 (.var 18), .int .u64 (.var 19), .int .u64 (.var 20), .int .u64 (.var 21)])), .call 25 [(.sc (.int .i64 (.conv .i64 (.rem (.var 0) (.lit 4))))), (.agg [.int .u64 (.var 1), .int .u64 (.var 2), .int .u64 (.var 3), .int .u64 (.var 4)])] (.one (.agg [.int .u64 (.var 22), .int .u64 (.var 23), .int .u64 (.var 24), .int .u64 (.var 25)])), .dec (.and (.cmp .eql (.var 18) (.var 22)) (.and (.cmp .eql (.var 19) (.var 23)) (.and (.cmp .eql (.var 20) (.var 24)) (.cmp .eql (.var 21) (.var 25))))) true, .call 24 [(.sc (.int .i64 (.conv .i64 (.rem (.var 0) (.lit 4))))), (.agg [.int .u64 (.var 9), .int .u64 (.var 10), .int .u64 (.var 11), .int .u64 (.var 12)]), (.agg [.int .u64 (.var 5), .int .u64 (.var 6), .int .u64 (.var 7), .int .u64 (.var 8)])] (.one (.agg [.int .u64 (.var 26), .int .u64 (.var 27), .int .u64 (.var 28), .int .u64 (.var 29)])), .call 24 [(.sc (.int .i64 (.conv .i64 (.rem (.var 0) (.lit 4))))), (.agg [.int .u64 (.var 1), .int .u64 (.var 2), .int .u64 (.var 3), .int .u64 (.var 4)]), (.agg [.int .u64 (.var 5), .int .u64 (.var 6), .int .u64 (.var 7), .int .u64 (.var 8)])] (.one (.agg [.int .u64 (.var 30), .int .u64 (.var 31), .int .u64 (.var 32), .int .u64 (.var 33)])), .call 30 [(.sc (.int .i64 (.conv .i64 (.rem (.var 0) (.lit 4))))), (.agg [.int .u64 (.lit 0), .int .u64 (.lit 0), .int .u64 (.lit 0), .int .u64 (.lit 0)]), (.agg [.int .u64 (.var 30), .int .u64 (.var 31), .int .u64 (.var 32), .int .u64 (.var 33)])] (.one (.agg [.int .u64 (.var 34), .int .u64 (.var 35), .int .u64 (.var 36), .int .u64 (.var 37)])), .dec (.and (.cmp .eql (.var 26) (.var 34)) (.and (.cmp .eql (.var 27) (.var 35)) (.and (.cmp .eql (.var 28) (.var 36)) (.cmp .eql (.var 29) (.var 37))))) true, .call 30 [(.sc (.int .i64 (.conv .i64 (.rem (.var 0) (.lit 4))))), (.agg [.int .u64 (.var 1), .int .u64 (.var 2), .int .u64 (.var 3), .int .u64 (.var 4)]), (.agg [.int .u64 (.var 5), .int .u64 (.var 6), .int .u64 (.var 7), .int .u64 (.var 8)])] (.one (.agg [.int .u64 (.var 38), .int .u64 (.var 39), .int .u64 (.var 40), .int .u64 (.var 41)])), .call 30 [(.sc (.int .i64 (.conv .i64 (.rem (.var 0) (.lit 4))))), (.agg [.int .u64 (.lit 0), .int .u64 (.lit 0), .int .u64 (.lit 0), .int .u64 (.lit 0)]), (.agg [.int .u64 (.var 5), .int .u64 (.var 6), .int .u64 (.var 7), .int .u64 (.var 8)])] (.one (.agg [.int .u64 (.var 42), .int .u64 (.var 43), .int .u64 (.var 44), .int .u64 (.var 45)])), .call 29 [(.sc (.int .i64 (.conv .i64 (.rem (.var 0) (.lit 4))))), (.agg [.int .u64 (.var 1), .int .u64 (.var 2), .int .u64 (.var 3), .int .u64 (.var 4)]), (.agg [.int .u64 (.var 42), .int .u64 (.var 43), .int .u64 (.var 44), .int .u64 (.var 45)])] (.one (.agg [.int .u64 (.var 46), .int .u64 (.var 47), .int .u64 (.var 48), .int .u64 (.var 49)])), .dec (.and (.cmp .eql (.var 38) (.var 46)) (.and (.cmp .eql (.var 39) (.var 47)) (.and (.cmp .eql (.var 40) (.var 48)) (.cmp .eql (.var 41) (.var 49))))) true], []⟩) Tryd.func9 (by kernel_rfl)
    (evs_of ⟨?_, ?_, ?_, ?_, ?_, ?_, ?_, ?_, ?_, ?_, ?_, ?_, ?_, ?_, ?_, ?_, trivial⟩) (by simp) (GsOk.nil _) w hK hG
  · exact hrun
  · exact ysub_g T h0 h3 hm 0 a (by first | assumption | exact Nat.lt_trans (by assumption) gN | decide) (by first | assumption | exact Nat.lt_trans (by assumption) gN | decide) hr1
  · exact awake02_g T
  · simp [Ev.holds, Bx.den, cmpD, I.den, lm_z, lm_10, lm_11, lm_12, lm_13, E1, E2, E3, E4]
  · exact yadd_g T h0 h3 hm a r1 (by first | assumption | exact Nat.lt_trans (by assumption) gN | decide) (by first | assumption | exact Nat.lt_trans (by assumption) gN | decide) hr2
  · simp [Ev.holds, Bx.den, cmpD, I.den, lm_z, lm_10, lm_11, lm_12, lm_13, E1, E2, E3, E4]
  · exact ysub_g T h0 h3 hm 0 r1 (by first | assumption | exact Nat.lt_trans (by assumption) gN | decide) (by first | assumption | exact Nat.lt_trans (by assumption) gN | decide) hr3
  · exact yfold_g T h0 h3 hm a (by first | assumption | exact Nat.lt_trans (by assumption) gN | decide) hr4
  · simp [Ev.holds, Bx.den, cmpD, I.den, lm_z, lm_10, lm_11, lm_12, lm_13, E1, E2, E3, E4]
  · exact ymul_g T h0 h3 hm r1 b (by first | assumption | exact Nat.lt_trans (by assumption) gN | decide) (by first | assumption | exact Nat.lt_trans (by assumption) gN | decide) hr5
  · exact ymul_g T h0 h3 hm a b (by first | assumption | exact Nat.lt_trans (by assumption) gN | decide) (by first | assumption | exact Nat.lt_trans (by assumption) gN | decide) hr6
  · exact ysub_g T h0 h3 hm 0 r6 (by first | assumption | exact Nat.lt_trans (by assumption) gN | decide) (by first | assumption | exact Nat.lt_trans (by assumption) gN | decide) hr7
  · simp [Ev.holds, Bx.den, cmpD, I.den, lm_z, lm_10, lm_11, lm_12, lm_13, E1, E2, E3, E4]
  · exact ysub_g T h0 h3 hm a b (by first | assumption | exact Nat.lt_trans (by assumption) gN | decide) (by first | assumption | exact Nat.lt_trans (by assumption) gN | decide) hr8
  · exact ysub_g T h0 h3 hm 0 b (by first | assumption | exact Nat.lt_trans (by assumption) gN | decide) (by first | assumption | exact Nat.lt_trans (by assumption) gN | decide) hr9
  · exact yadd_g T h0 h3 hm a r9 (by first | assumption | exact Nat.lt_trans (by assumption) gN | decide) (by first | assumption | exact Nat.lt_trans (by assumption) gN | decide) hr10
  · simp [Ev.holds, Bx.den, cmpD, I.den, lm_z, lm_10, lm_11, lm_12, lm_13, E1, E2, E3, E4]

end Go.Proofs.YtijnfclocanhkaaDoor
