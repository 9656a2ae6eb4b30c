/- FieldReduces, walked. -/
import Derived.Test.YtijnfclocanhkaaDoorFlaw0
import Derived.Test.YtijnfclocanhkaaDoorRef02d
import Derived.Test.YtijnfclocanhkaaDoorField5
set_option linter.unusedVariables false
set_option linter.unusedSimpArgs false
namespace Go.Proofs.YtijnfclocanhkaaDoor
open Go.RowKit Go.Num Go.Sx

set_option maxHeartbeats 4000000 in
theorem wFieldReduces (k : Nat) (w_ : Nat) (T : TypeId) (hk : k < 256) (hw : w_ < N * N) (w : World) (hK : (LF T).K ≤ w.heap.size) (hG : (LF T).G w) : Calls Tryd.prog 4 #[.int .u8 (k : Nat), .agg #[.int .u64 (lm w_ 0), .int .u64 (lm w_ 1), .int .u64 (lm w_ 2), .int .u64 (lm w_ 3), .int .u64 (lm w_ 4), .int .u64 (lm w_ 5), .int .u64 (lm w_ 6), .int .u64 (lm w_ 7)]] w fun e w' => e = .returned (.bool true) ∧ Below w.heap.size w w' := by
  have h0 := kk_lo k hk
  have h3 := kk_hi k hk
  obtain ⟨m, hm⟩ : ∃ m, m = Mo (IntKind.i64.wrap (Int.tmod ((k : Nat) : Int) (4 : Int))) := ⟨_, rfl⟩
  obtain ⟨g1, gN⟩ := m_gt h0 h3 hm
  have hmod := rmod_c h0 h3 hm
  obtain ⟨r1, hr1⟩ : ∃ r : Nat, r = w_ % m := ⟨_, rfl⟩
  have br1 : r1 < m := (by rw [hr1]; exact Nat.mod_lt _ (by omega))
  have hrun := calls_of_runG (P := Tryd.prog) (v := ⟨fun n => ([((k : Nat) : Int), ((lm w_ 0 : Nat) : Int), ((lm w_ 1 : Nat) : Int), ((lm w_ 2 : Nat) : Int), ((lm w_ 3 : Nat) : Int), ((lm w_ 4 : Nat) : Int), ((lm w_ 5 : Nat) : Int), ((lm w_ 6 : Nat) : Int), ((lm w_ 7 : Nat) : Int), 0, ((lm r1 0 : Nat) : Int), ((lm r1 1 : Nat) : Int), ((lm r1 2 : Nat) : Int), ((lm r1 3 : Nat) : Int), ((lm r1 0 : Nat) : Int), ((lm r1 1 : Nat) : Int), ((lm r1 2 : Nat) : Int), ((lm r1 3 : Nat) : Int)] : List Int).getD n 0, fun n => ([false, false, false, false, false, false, false, false, false, true] : List Bool).getD n false, LF T⟩) (gs := []) (fuel := 3000) (nv := 9) (args := [(.sc (.int .u8 (.var 0))), (.agg [.int .u64 (.var 1), .int .u64 (.var 2), .int .u64 (.var 3), .int .u64 (.var 4), .int .u64 (.var 5), .int .u64 (.var 6), .int .u64 (.var 7), .int .u64 (.var 8)])]) (ora := [some true, some true]) (sums := []) (r := ⟨(.one (.sc (.bool (.lit true)))), [.call 20 [] (.one (.sc (.bool (.var 9)))), .dec (.var 9) true, .call 21 [(.sc (.int .i64 (.conv .i64 (.rem (.var 0) (.lit 4))))), (.agg [.int .u64 (.var 1), .int .u64 (.var 2), .int .u64 (.var 3), .int .u64 (.var 4), .int .u64 (.var 5), .int .u64 (.var 6), .int .u64 (.var 7), .int .u64 (.var 8)])] (.one (.agg [.int .u64 (.var 10), .int .u64 (.var 11), .int .u64 (.var 12), .int .u64 (.var 13)])), .call 22 [(.sc (.int .i64 (.conv .i64 (.rem (.var 0) (.lit 4))))), (.agg [.int .u64 (.var 1), .int .u64 (.var 2), .int .u64 (.var 3), .int .u64 (.var 4), .int .u64 (.var 5), .int .u64 (.var 6), .int .u64 (.var 7), .int .u64 (.var 8)])] (.one (.agg [.int .u64 (.var 14), .int .u64 (.var 15), .int .u64 (.var 16), .int .u64 (.var 17)])), .dec (.and (.cmp .eql (.var 10) (.var 14)) (.and (.cmp .eql (.var 11) (.var 15)) (.and (.cmp .eql (.var 12) (.var 16)) (.cmp .eql (.var 13) (.var 17))))) true], []⟩) Tryd.func4 (by kernel_rfl)
    (evs_of ⟨?_, ?_, ?_, ?_, ?_, trivial⟩) (by simp) (GsOk.nil _) w hK hG
  · exact hrun
  · exact awake02_g T
  · simp [Ev.holds, Bx.den, cmpD, I.den, lm_z, lm_10, lm_11, lm_12, lm_13]
  · exact yreduce_g T h0 h3 hm w_ (by assumption) hr1
  · exact CallP.g (rreduce_l gN g1 hmod w_ hw hr1)
  · simp [Ev.holds, Bx.den, cmpD, I.den, lm_z, lm_10, lm_11, lm_12, lm_13]

end Go.Proofs.YtijnfclocanhkaaDoor
