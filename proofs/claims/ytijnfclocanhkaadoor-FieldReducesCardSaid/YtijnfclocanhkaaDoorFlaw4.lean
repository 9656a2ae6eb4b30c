/- FieldInverse, walked. -/
import Derived.Test.YtijnfclocanhkaaDoorFlaw0
import Derived.Test.YtijnfclocanhkaaDoorPrimes
set_option linter.unusedVariables false
set_option linter.unusedSimpArgs false
namespace Go.Proofs.YtijnfclocanhkaaDoor
open Go.RowKit Go.Num Go.Sx

theorem mo_prime {n : Int} (h0 : 0 ≤ n) (h3 : n ≤ 3) : IsPrime (Mo n) := by
  obtain rfl | rfl | rfl | rfl := four h0 h3
  · rw [show Mo 0 = 115792089210356248762697446949407573530086143415290314195533631308867097853951 by decide +kernel]; exact prime0
  · rw [show Mo 1 = 115792089210356248762697446949407573529996955224135760342422259061068512044369 by decide +kernel]; exact prime1
  · rw [show Mo 2 = 57896044618658097711785492504343953926634992332820282019728792003956564819949 by decide +kernel]; exact prime2
  · rw [show Mo 3 = 7237005577332262213973186563042994240857116359379907606001950938285454250989 by decide +kernel]; exact prime3
theorem mo_gt2 {n : Int} (h0 : 0 ≤ n) (h3 : n ≤ 3) : 2 < Mo n := by
  obtain rfl | rfl | rfl | rfl := four h0 h3 <;> decide +kernel
theorem lm_zero_all {r : Nat} (hr : r < N) (h0 : lm r 0 = 0) (h1 : lm r 1 = 0) (h2 : lm r 2 = 0) (h3 : lm r 3 = 0) : r = 0 := by
  have h := num_lm hr
  rw [h0, h1, h2, h3] at h
  rw [← h]
  rfl
theorem inv_mul {m a : Nat} (hp : IsPrime m) (h2 : 2 < m) (hnz : a % m ≠ 0) : a * (a ^ (m - 2) % m) % m = 1 := by
  have hd : ¬ m ∣ a := fun h => hnz (Nat.mod_eq_zero_of_dvd h)
  have h := hp.fermat hd
  rw [Nat.mul_mod, Nat.mod_mod, ← Nat.mul_mod, Nat.mul_comm, ← Nat.pow_succ, show (m - 2).succ = m - 1 by omega]
  exact h
theorem inv_inv {m a : Nat} (hp : IsPrime m) (h2 : 2 < m) (hnz : a % m ≠ 0) : (a ^ (m - 2) % m) ^ (m - 2) % m = a % m := by
  have h1 := inv_mul hp h2 hnz
  have hi : (a ^ (m - 2) % m) % m ≠ 0 := by
    intro h
    rw [Nat.mod_mod] at h
    rw [h, Nat.mul_zero, Nat.zero_mod] at h1
    exact absurd h1 (by decide)
  have hd : ¬ m ∣ a ^ (m - 2) % m := fun h => hi (Nat.mod_eq_zero_of_dvd h)
  refine hp.mul_cancel hd ?_
  rw [h1]
  have h3 := inv_mul hp h2 hi
  generalize a ^ (m - 2) % m = i at *
  rw [Nat.mul_mod, Nat.mod_mod, ← Nat.mul_mod, Nat.mul_comm] at h3
  exact h3
theorem inv_zero {m a : Nat} (h2 : 2 < m) (hz : a % m = 0) : a ^ (m - 2) % m = 0 := by
  rw [Nat.pow_mod, hz, Nat.zero_pow (by omega), Nat.zero_mod]

set_option maxHeartbeats 4000000 in
theorem inv_nil (k : Nat) (a : Nat) (T : TypeId) (hk : k < 256) (ha : a < N) (hz : a % Mo (IntKind.i64.wrap (Int.tmod ((k : Nat) : Int) (4 : Int))) = 0) (w : World) (hK : (LF T).K ≤ w.heap.size) (hG : (LF T).G w) : Calls Tryd.prog 7 #[.int .u8 (k : Nat), .agg #[.int .u64 (lm a 0), .int .u64 (lm a 1), .int .u64 (lm a 2), .int .u64 (lm a 3)]] w fun e w' => e = .returned (.bool true) ∧ Below w.heap.size w w' := by
  have h0 := kk_lo k hk
  have h3 := kk_hi k hk
  obtain ⟨m, hm⟩ : ∃ m, m = Mo (IntKind.i64.wrap (Int.tmod ((k : Nat) : Int) (4 : Int))) := ⟨_, rfl⟩
  obtain ⟨g1, gN⟩ := m_gt h0 h3 hm
  have hp : IsPrime m := (by rw [hm]; exact mo_prime h0 h3)
  have h2 : 2 < m := (by rw [hm]; exact mo_gt2 h0 h3)
  rw [← hm] at hz
  obtain ⟨r1, hr1⟩ : ∃ r : Nat, r = a % m := ⟨_, rfl⟩
  have br1 : r1 < m := (by rw [hr1]; exact Nat.mod_lt _ (by omega))
  obtain ⟨r2, hr2⟩ : ∃ r : Nat, r = a ^ (m - 2) % m := ⟨_, rfl⟩
  have br2 : r2 < m := (by rw [hr2]; exact Nat.mod_lt _ (by omega))
  have E1 : r1 = 0 := (by rw [hr1, hz])
  have E2 : r2 = 0 := (by rw [hr2]; exact inv_zero h2 hz)
  have hrun := calls_of_runG (P := Tryd.prog) (v := ⟨fun n => ([((k : Nat) : Int), ((lm a 0 : Nat) : Int), ((lm a 1 : Nat) : Int), ((lm a 2 : Nat) : Int), ((lm a 3 : Nat) : Int), ((lm r1 0 : Nat) : Int), ((lm r1 1 : Nat) : Int), ((lm r1 2 : Nat) : Int), ((lm r1 3 : Nat) : Int), ((lm r2 0 : Nat) : Int), ((lm r2 1 : Nat) : Int), ((lm r2 2 : Nat) : Int), ((lm r2 3 : Nat) : Int)] : List Int).getD n 0, fun n => ([false, false, false, false, false, false, false, false, false, false, false, false, false, true] : List Bool).getD n false, LF T⟩) (gs := []) (fuel := 3000) (nv := 5) (args := [(.sc (.int .u8 (.var 0))), (.agg [.int .u64 (.var 1), .int .u64 (.var 2), .int .u64 (.var 3), .int .u64 (.var 4)])]) (ora := [some true, some true, some true]) (sums := []) (r := ⟨(.one (.sc (.bool (.lit true)))), [.call 25 [(.sc (.int .i64 (.conv .i64 (.rem (.var 0) (.lit 4))))), (.agg [.int .u64 (.var 1), .int .u64 (.var 2), .int .u64 (.var 3), .int .u64 (.var 4)])] (.one (.agg [.int .u64 (.var 5), .int .u64 (.var 6), .int .u64 (.var 7), .int .u64 (.var 8)])), .call 27 [(.sc (.int .i64 (.conv .i64 (.rem (.var 0) (.lit 4))))), (.agg [.int .u64 (.var 1), .int .u64 (.var 2), .int .u64 (.var 3), .int .u64 (.var 4)])] (.one (.agg [.int .u64 (.var 9), .int .u64 (.var 10), .int .u64 (.var 11), .int .u64 (.var 12)])), .dec (.and (.cmp .eql (.var 5) (.lit 0)) (.and (.cmp .eql (.var 6) (.lit 0)) (.and (.cmp .eql (.var 7) (.lit 0)) (.cmp .eql (.var 8) (.lit 0))))) true, .call 20 [] (.one (.sc (.bool (.var 13)))), .dec (.var 13) true, .dec (.and (.cmp .eql (.var 9) (.lit 0)) (.and (.cmp .eql (.var 10) (.lit 0)) (.and (.cmp .eql (.var 11) (.lit 0)) (.cmp .eql (.var 12) (.lit 0))))) true], []⟩) Tryd.func7 (by kernel_rfl)
    (evs_of ⟨?_, ?_, ?_, ?_, ?_, ?_, trivial⟩) (by simp) (GsOk.nil _) w hK hG
  · exact hrun
  · exact yfold_g T h0 h3 hm a (by first | assumption | exact Nat.lt_trans (by assumption) gN | decide) hr1
  · exact yinv_g T h0 h3 hm a (by first | assumption | exact Nat.lt_trans (by assumption) gN | decide) hr2
  · simp [Ev.holds, Bx.den, cmpD, I.den, lm_z, lm_10, lm_11, lm_12, lm_13, E1, E2]
  · exact awake02_g T
  · simp [Ev.holds, Bx.den, cmpD, I.den, lm_z, lm_10, lm_11, lm_12, lm_13, E1, E2]
  · simp [Ev.holds, Bx.den, cmpD, I.den, lm_z, lm_10, lm_11, lm_12, lm_13, E1, E2]

set_option maxHeartbeats 4000000 in
theorem inv_one (k : Nat) (a : Nat) (T : TypeId) (hk : k < 256) (ha : a < N) (hnz : a % Mo (IntKind.i64.wrap (Int.tmod ((k : Nat) : Int) (4 : Int))) ≠ 0) (w : World) (hK : (LF T).K ≤ w.heap.size) (hG : (LF T).G w) : Calls Tryd.prog 7 #[.int .u8 (k : Nat), .agg #[.int .u64 (lm a 0), .int .u64 (lm a 1), .int .u64 (lm a 2), .int .u64 (lm a 3)]] w fun e w' => e = .returned (.bool true) ∧ Below w.heap.size w w' := by
  have h0 := kk_lo k hk
  have h3 := kk_hi k hk
  obtain ⟨m, hm⟩ : ∃ m, m = Mo (IntKind.i64.wrap (Int.tmod ((k : Nat) : Int) (4 : Int))) := ⟨_, rfl⟩
  obtain ⟨g1, gN⟩ := m_gt h0 h3 hm
  have hp : IsPrime m := (by rw [hm]; exact mo_prime h0 h3)
  have h2 : 2 < m := (by rw [hm]; exact mo_gt2 h0 h3)
  rw [← hm] at hnz
  obtain ⟨r1, hr1⟩ : ∃ r : Nat, r = a % m := ⟨_, rfl⟩
  have br1 : r1 < m := (by rw [hr1]; exact Nat.mod_lt _ (by omega))
  obtain ⟨r2, hr2⟩ : ∃ r : Nat, r = a ^ (m - 2) % m := ⟨_, rfl⟩
  have br2 : r2 < m := (by rw [hr2]; exact Nat.mod_lt _ (by omega))
  obtain ⟨r3, hr3⟩ : ∃ r : Nat, r = a * r2 % m := ⟨_, rfl⟩
  have br3 : r3 < m := (by rw [hr3]; exact Nat.mod_lt _ (by omega))
  obtain ⟨r4, hr4⟩ : ∃ r : Nat, r = r2 ^ (m - 2) % m := ⟨_, rfl⟩
  have br4 : r4 < m := (by rw [hr4]; exact Nat.mod_lt _ (by omega))
  have E1 : r3 = 1 := (by rw [hr3, hr2]; exact inv_mul hp h2 hnz)
  have E2 : r4 = r1 := (by rw [hr4, hr2, hr1]; exact inv_inv hp h2 hnz)
  have hrun := calls_of_runG (P := Tryd.prog) (v := ⟨fun n => ([((k : Nat) : Int), ((lm a 0 : Nat) : Int), ((lm a 1 : Nat) : Int), ((lm a 2 : Nat) : Int), ((lm a 3 : Nat) : Int), ((lm r1 0 : Nat) : Int), ((lm r1 1 : Nat) : Int), ((lm r1 2 : Nat) : Int), ((lm r1 3 : Nat) : Int), ((lm r2 0 : Nat) : Int), ((lm r2 1 : Nat) : Int), ((lm r2 2 : Nat) : Int), ((lm r2 3 : Nat) : Int), 0, ((lm r3 0 : Nat) : Int), ((lm r3 1 : Nat) : Int), ((lm r3 2 : Nat) : Int), ((lm r3 3 : Nat) : Int), ((lm r4 0 : Nat) : Int), ((lm r4 1 : Nat) : Int), ((lm r4 2 : Nat) : Int), ((lm r4 3 : Nat) : Int)] : List Int).getD n 0, fun n => ([false, false, false, false, false, false, false, false, false, false, false, false, false, true] : List Bool).getD n false, LF T⟩) (gs := []) (fuel := 3000) (nv := 5) (args := [(.sc (.int .u8 (.var 0))), (.agg [.int .u64 (.var 1), .int .u64 (.var 2), .int .u64 (.var 3), .int .u64 (.var 4)])]) (ora := [some false, some true, some true, some true]) (sums := []) (r := ⟨(.one (.sc (.bool (.lit true)))), [.call 25 [(.sc (.int .i64 (.conv .i64 (.rem (.var 0) (.lit 4))))), (.agg [.int .u64 (.var 1), .int .u64 (.var 2), .int .u64 (.var 3), .int .u64 (.var 4)])] (.one (.agg [.int .u64 (.var 5), .int .u64 (.var 6), .int .u64 (.var 7), .int .u64 (.var 8)])), .call 27 [(.sc (.int .i64 (.conv .i64 (.rem (.var 0) (.lit 4))))), (.agg [.int .u64 (.var 1), .int .u64 (.var 2), .int .u64 (.var 3), .int .u64 (.var 4)])] (.one (.agg [.int .u64 (.var 9), .int .u64 (.var 10), .int .u64 (.var 11), .int .u64 (.var 12)])), .dec (.and (.cmp .eql (.var 5) (.lit 0)) (.and (.cmp .eql (.var 6) (.lit 0)) (.and (.cmp .eql (.var 7) (.lit 0)) (.cmp .eql (.var 8) (.lit 0))))) false, .call 20 [] (.one (.sc (.bool (.var 13)))), .dec (.var 13) true, .call 24 [(.sc (.int .i64 (.conv .i64 (.rem (.var 0) (.lit 4))))), (.agg [.int .u64 (.var 1), .int .u64 (.var 2), .int .u64 (.var 3), .int .u64 (.var 4)]), (.agg [.int .u64 (.var 9), .int .u64 (.var 10), .int .u64 (.var 11), .int .u64 (.var 12)])] (.one (.agg [.int .u64 (.var 14), .int .u64 (.var 15), .int .u64 (.var 16), .int .u64 (.var 17)])), .dec (.and (.cmp .eql (.var 14) (.lit 1)) (.and (.cmp .eql (.var 15) (.lit 0)) (.and (.cmp .eql (.var 16) (.lit 0)) (.cmp .eql (.var 17) (.lit 0))))) true, .call 27 [(.sc (.int .i64 (.conv .i64 (.rem (.var 0) (.lit 4))))), (.agg [.int .u64 (.var 9), .int .u64 (.var 10), .int .u64 (.var 11), .int .u64 (.var 12)])] (.one (.agg [.int .u64 (.var 18), .int .u64 (.var 19), .int .u64 (.var 20), .int .u64 (.var 21)])), .dec (.and (.cmp .eql (.var 18) (.var 5)) (.and (.cmp .eql (.var 19) (.var 6)) (.and (.cmp .eql (.var 20) (.var 7)) (.cmp .eql (.var 21) (.var 8))))) true], []⟩) Tryd.func7 (by kernel_rfl)
    (evs_of ⟨?_, ?_, ?_, ?_, ?_, ?_, ?_, ?_, ?_, trivial⟩) (by simp) (GsOk.nil _) w hK hG
  · exact hrun
  · exact yfold_g T h0 h3 hm a (by first | assumption | exact Nat.lt_trans (by assumption) gN | decide) hr1
  · exact yinv_g T h0 h3 hm a (by first | assumption | exact Nat.lt_trans (by assumption) gN | decide) hr2
  · (show _ = false; rw [Bool.eq_false_iff]; intro hh; simp [Bx.den, cmpD, I.den] at hh; exact hnz (by rw [← hr1]; exact lm_zero_all (Nat.lt_trans br1 gN) hh.1 hh.2.1 hh.2.2.1 hh.2.2.2))
  · exact awake02_g T
  · simp [Ev.holds, Bx.den, cmpD, I.den, lm_z, lm_10, lm_11, lm_12, lm_13, E1, E2]
  · exact ymul_g T h0 h3 hm a r2 (by first | assumption | exact Nat.lt_trans (by assumption) gN | decide) (by first | assumption | exact Nat.lt_trans (by assumption) gN | decide) hr3
  · simp [Ev.holds, Bx.den, cmpD, I.den, lm_z, lm_10, lm_11, lm_12, lm_13, E1, E2]
  · exact yinv_g T h0 h3 hm r2 (by first | assumption | exact Nat.lt_trans (by assumption) gN | decide) hr4
  · simp [Ev.holds, Bx.den, cmpD, I.den, lm_z, lm_10, lm_11, lm_12, lm_13, E1, E2]

theorem wFieldInverse (k a : Nat) (T : TypeId) (hk : k < 256) (ha : a < N) (w : World) (hK : (LF T).K ≤ w.heap.size) (hG : (LF T).G w) :
    Calls Tryd.prog 7 #[.int .u8 (k : Nat), .agg #[.int .u64 (lm a 0), .int .u64 (lm a 1), .int .u64 (lm a 2), .int .u64 (lm a 3)]] w fun e w' => e = .returned (.bool true) ∧ Below w.heap.size w w' := by
  by_cases h : a % Mo (IntKind.i64.wrap (Int.tmod ((k : Nat) : Int) (4 : Int))) = 0
  · exact inv_nil k a T hk ha h w hK hG
  · exact inv_one k a T hk ha h w hK hG

end Go.Proofs.YtijnfclocanhkaaDoor
