/- FieldPowers, walked. -/
import Derived.Test.YtijnfclocanhkaaDoorFlaw0
import Derived.Test.YtijnfclocanhkaaDoorRef02c
set_option linter.unusedVariables false
set_option linter.unusedSimpArgs false
namespace Go.Proofs.YtijnfclocanhkaaDoor
open Go.RowKit Go.Num Go.Sx

set_option maxHeartbeats 4000000 in
theorem wFieldPowers (k : Nat) (a : Nat) (e : Nat) (T : TypeId) (hk : k < 256) (ha : a < N) (he : e < N) (w : World) (hK : (LF T).K ≤ w.heap.size) (hG : (LF T).G w) : Calls Tryd.prog 6 #[.int .u8 (k : Nat), .agg #[.int .u64 (lm a 0), .int .u64 (lm a 1), .int .u64 (lm a 2), .int .u64 (lm a 3)], .agg #[.int .u64 (lm e 0), .int .u64 (lm e 1), .int .u64 (lm e 2), .int .u64 (lm e 3)]] w fun e w' => e = .returned (.bool true) ∧ Below w.heap.size w w' := by
  have h0 := kk_lo k hk
  have h3 := kk_hi k hk
  obtain ⟨m, hm⟩ : ∃ m, m = Mo (IntKind.i64.wrap (Int.tmod ((k : Nat) : Int) (4 : Int))) := ⟨_, rfl⟩
  obtain ⟨g1, gN⟩ := m_gt h0 h3 hm
  have hmod := rmod_c h0 h3 hm
  have hmul : ∀ x y r : Nat, x < N → y < N → r = x * y % m → CallP Tryd.prog 38 #[.int .i64 (IntKind.i64.wrap (Int.tmod ((k : Nat) : Int) (4 : Int))), .agg #[.int .u64 (lm x 0), .int .u64 (lm x 1), .int .u64 (lm x 2), .int .u64 (lm x 3)], .agg #[.int .u64 (lm y 0), .int .u64 (lm y 1), .int .u64 (lm y 2), .int .u64 (lm y 3)]] (.agg #[.int .u64 (lm r 0), .int .u64 (lm r 1), .int .u64 (lm r 2), .int .u64 (lm r 3)]) := fun x y r hx hy hr => rmul_l gN g1 hmod x y hx hy hr
  obtain ⟨r1, hr1⟩ : ∃ r : Nat, r = a ^ e % m := ⟨_, rfl⟩
  have br1 : r1 < m := (by rw [hr1]; exact Nat.mod_lt _ (by omega))
  obtain ⟨r2, hr2⟩ : ∃ r : Nat, r = a ^ (m - 2) % m := ⟨_, rfl⟩
  have br2 : r2 < m := (by rw [hr2]; exact Nat.mod_lt _ (by omega))
  have hrun := calls_of_runG (P := Tryd.prog) (v := ⟨fun n => ([((k : Nat) : Int), ((lm a 0 : Nat) : Int), ((lm a 1 : Nat) : Int), ((lm a 2 : Nat) : Int), ((lm a 3 : Nat) : Int), ((lm e 0 : Nat) : Int), ((lm e 1 : Nat) : Int), ((lm e 2 : Nat) : Int), ((lm e 3 : Nat) : Int), 0, ((lm r1 0 : Nat) : Int), ((lm r1 1 : Nat) : Int), ((lm r1 2 : Nat) : Int), ((lm r1 3 : Nat) : Int), ((lm r1 0 : Nat) : Int), ((lm r1 1 : Nat) : Int), ((lm r1 2 : Nat) : Int), ((lm r1 3 : Nat) : Int), ((lm r2 0 : Nat) : Int), ((lm r2 1 : Nat) : Int), ((lm r2 2 : Nat) : Int), ((lm r2 3 : Nat) : Int), ((lm r2 0 : Nat) : Int), ((lm r2 1 : Nat) : Int), ((lm r2 2 : Nat) : Int), ((lm r2 3 : Nat) : Int)] : List Int).getD n 0, fun n => ([false, false, false, false, false, false, false, false, false, true] : List Bool).getD n false, LF T⟩) (gs := []) (fuel := 3000) (nv := 9) (args := [(.sc (.int .u8 (.var 0))), (.agg [.int .u64 (.var 1), .int .u64 (.var 2), .int .u64 (.var 3), .int .u64 (.var 4)]), (.agg [.int .u64 (.var 5), .int .u64 (.var 6), .int .u64 (.var 7), .int .u64 (.var 8)])]) (ora := [some true, some true, some true]) (sums := []) (r := ⟨(.one (.sc (.bool (.lit true)))), [.call 20 [] (.one (.sc (.bool (.var 9)))), .dec (.var 9) true, .call 23 [(.sc (.int .i64 (.conv .i64 (.rem (.var 0) (.lit 4))))), (.agg [.int .u64 (.var 1), .int .u64 (.var 2), .int .u64 (.var 3), .int .u64 (.var 4)]), (.agg [.int .u64 (.var 5), .int .u64 (.var 6), .int .u64 (.var 7), .int .u64 (.var 8)])] (.one (.agg [.int .u64 (.var 10), .int .u64 (.var 11), .int .u64 (.var 12), .int .u64 (.var 13)])), .call 26 [(.sc (.int .i64 (.conv .i64 (.rem (.var 0) (.lit 4))))), (.agg [.int .u64 (.var 1), .int .u64 (.var 2), .int .u64 (.var 3), .int .u64 (.var 4)]), (.agg [.int .u64 (.var 5), .int .u64 (.var 6), .int .u64 (.var 7), .int .u64 (.var 8)])] (.one (.agg [.int .u64 (.var 14), .int .u64 (.var 15), .int .u64 (.var 16), .int .u64 (.var 17)])), .dec (.and (.cmp .eql (.var 10) (.var 14)) (.and (.cmp .eql (.var 11) (.var 15)) (.and (.cmp .eql (.var 12) (.var 16)) (.cmp .eql (.var 13) (.var 17))))) true, .call 27 [(.sc (.int .i64 (.conv .i64 (.rem (.var 0) (.lit 4))))), (.agg [.int .u64 (.var 1), .int .u64 (.var 2), .int .u64 (.var 3), .int .u64 (.var 4)])] (.one (.agg [.int .u64 (.var 18), .int .u64 (.var 19), .int .u64 (.var 20), .int .u64 (.var 21)])), .call 28 [(.sc (.int .i64 (.conv .i64 (.rem (.var 0) (.lit 4))))), (.agg [.int .u64 (.var 1), .int .u64 (.var 2), .int .u64 (.var 3), .int .u64 (.var 4)])] (.one (.agg [.int .u64 (.var 22), .int .u64 (.var 23), .int .u64 (.var 24), .int .u64 (.var 25)])), .dec (.and (.cmp .eql (.var 18) (.var 22)) (.and (.cmp .eql (.var 19) (.var 23)) (.and (.cmp .eql (.var 20) (.var 24)) (.cmp .eql (.var 21) (.var 25))))) true], []⟩) Tryd.func6 (by kernel_rfl)
    (evs_of ⟨?_, ?_, ?_, ?_, ?_, ?_, ?_, ?_, trivial⟩) (by simp) (GsOk.nil _) w hK hG
  · exact hrun
  · exact awake02_g T
  · simp [Ev.holds, Bx.den, cmpD, I.den, lm_z, lm_10, lm_11, lm_12, lm_13]
  · exact ypow_g T h0 h3 hm a e (by first | assumption | exact Nat.lt_trans (by assumption) gN | decide) (by first | assumption | exact Nat.lt_trans (by assumption) gN | decide) hr1
  · exact CallP.g (rpow_l gN g1 hmod hmul a e (by first | assumption | exact Nat.lt_trans (by assumption) gN | decide) (by first | assumption | exact Nat.lt_trans (by assumption) gN | decide) hr1)
  · simp [Ev.holds, Bx.den, cmpD, I.den, lm_z, lm_10, lm_11, lm_12, lm_13]
  · exact yinv_g T h0 h3 hm a (by first | assumption | exact Nat.lt_trans (by assumption) gN | decide) hr2
  · exact CallP.g (rinv_l gN g1 hmod hmul a (by first | assumption | exact Nat.lt_trans (by assumption) gN | decide) hr2)
  · simp [Ev.holds, Bx.den, cmpD, I.den, lm_z, lm_10, lm_11, lm_12, lm_13]

end Go.Proofs.YtijnfclocanhkaaDoor
