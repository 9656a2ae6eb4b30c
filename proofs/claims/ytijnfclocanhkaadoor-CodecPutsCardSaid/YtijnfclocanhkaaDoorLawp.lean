/- CodecPuts, run. -/
import Derived.Test.YtijnfclocanhkaaDoorFout
import Derived.Test.YtijnfclocanhkaaDoorCodec2
set_option linter.unusedVariables false
set_option linter.unusedSimpArgs false
namespace Go.Proofs.YtijnfclocanhkaaDoor
open Go.RowKit Go.Num Go.Sx

set_option maxHeartbeats 4000000 in
theorem awake03_run   (w : World) : Calls Tryd.prog 12 #[] w fun e w' => e = .returned (.bool true) ∧ Below w.heap.size w w' := by
  obtain ⟨r1, hr1⟩ : ∃ r : List Int, r = (putN 32 0).reverse := ⟨_, rfl⟩
  have len1 : r1.length = 32 := by rw [hr1, List.length_reverse, putN_length]
  have hrun := calls_of_runG (P := Tryd.prog) (v := ⟨fun n => ([] : List Int).getD n 0, fun n => ([] : List Bool).getD n false, fun n => ([r1] : List (List Int)).getD n [], fun n => ([] : List (List (List Int))).getD n [], L0, w⟩) (gs := []) (fuel := 3000) (nv := 0) (args := []) (ora := []) (sums := []) (res := [(.sc (.bool (.cmp .eql (.len (.lvar 0)) (.lit 32))))]) (ev := [.callS 14 [(.val (.agg [.int .u64 (.lit 0), .int .u64 (.lit 0), .int .u64 (.lit 0), .int .u64 (.lit 0)]))] [(.fresh 5 (.lvar 0) (.lit 0) (.len (.lvar 0)) true)]]) (lev := []) Tryd.func12 (by kernel_rfl) (by kernel_rfl)
    (evs_of ⟨?_, trivial⟩) (by simp) (GsOk.nil _) (Nat.zero_le _) trivial
  · (refine hrun.mono fun e w' h => ⟨h.1.trans (congrArg (fun z => Ending.returned (Value.bool z)) (show (((r1.length : Nat) : Int) == (32 : Int)) = true from ?_)), h.2⟩; simp [len1])
  · exact CallS.g (putb_s 0 hr1)

theorem awake03_c : CallP Tryd.prog 12 #[] (.bool true) := callP_of Tryd.func12 (by kernel_rfl) (by kernel_rfl) (fun w => awake03_run w)

set_option maxHeartbeats 4000000 in
theorem codecPuts_walk (nn : Int) (a : Nat) (T : TypeId) (hk : -9223372036854775808 ≤ nn ∧ nn ≤ 9223372036854775807) (ha : a < N) (w : World) (hK : (LF T).K ≤ w.heap.size) (hG : (LF T).G w) : Calls Tryd.prog 3 #[.int .i64 nn, .agg #[.int .u64 (lm a 0), .int .u64 (lm a 1), .int .u64 (lm a 2), .int .u64 (lm a 3)]] w fun e w' => e = .returned (.bool true) ∧ Below w.heap.size w w' := by
  obtain ⟨r1, hr1⟩ : ∃ r : List Int, r = (putN 32 a).reverse := ⟨_, rfl⟩
  obtain ⟨r2, hr2⟩ : ∃ r : List Int, r = (putN 32 a).reverse := ⟨_, rfl⟩
  obtain ⟨r3, hr3⟩ : ∃ r : Bool, r = decide (r1 = r2) := ⟨_, rfl⟩
  obtain ⟨r4, hr4⟩ : ∃ r : List Int, r = putN 32 a := ⟨_, rfl⟩
  obtain ⟨r5, hr5⟩ : ∃ r : List Int, r = putN 32 a := ⟨_, rfl⟩
  obtain ⟨r6, hr6⟩ : ∃ r : Bool, r = decide (r4 = r5) := ⟨_, rfl⟩
  obtain ⟨r7, hr7⟩ : ∃ r : Bool, r = decide (a < Mz nn) := ⟨_, rfl⟩
  obtain ⟨r8, hr8⟩ : ∃ r : Bool, r = decide (a < Mz nn) := ⟨_, rfl⟩
  have len1 : r1.length = 32 := by rw [hr1, List.length_reverse, putN_length]
  have len4 : r4.length = 32 := by rw [hr4, putN_length]
  have e3 : r3 = true := by rw [hr3]; exact decide_eq_true (by rw [hr1, hr2])
  have e6 : r6 = true := by rw [hr6]; exact decide_eq_true (by rw [hr4, hr5])
  have e7 : r7 = r8 := by rw [hr7, hr8]
  have hrun := calls_of_runG (P := Tryd.prog) (v := ⟨fun n => ([nn, ((lm a 0 : Nat) : Int), ((lm a 1 : Nat) : Int), ((lm a 2 : Nat) : Int), ((lm a 3 : Nat) : Int)] : List Int).getD n 0, fun n => ([false, false, false, false, false, true, false, false, r3, false, false, r6, r7, r8] : List Bool).getD n false, fun n => ([[], [], [], [], [], [], r1, r2, [], r4, r5] : List (List Int)).getD n [], fun n => ([] : List (List (List Int))).getD n [], LF T, w⟩) (gs := []) (fuel := 3000) (nv := 5) (args := [(.sc (.int .i64 (.var 0))), (.agg [.int .u64 (.var 1), .int .u64 (.var 2), .int .u64 (.var 3), .int .u64 (.var 4)])]) (ora := [some true, some true, some true]) (sums := []) (res := [(.sc (.bool (.beq (.var 12) (.var 13))))]) (ev := [.call 12 [] (.one (.sc (.bool (.var 5)))), .dec (.var 5) true, .callS 14 [(.val (.agg [.int .u64 (.var 1), .int .u64 (.var 2), .int .u64 (.var 3), .int .u64 (.var 4)]))] [(.fresh 5 (.lvar 6) (.lit 0) (.len (.lvar 6)) true)], .callS 15 [(.val (.agg [.int .u64 (.var 1), .int .u64 (.var 2), .int .u64 (.var 3), .int .u64 (.var 4)]))] [(.fresh 5 (.lvar 7) (.lit 0) (.len (.lvar 7)) true)], .callS 13 [(.bytes (.lvar 6)), (.bytes (.lvar 7))] [(.val (.sc (.bool (.var 8))))], .dec (.var 8) true, .callS 16 [(.val (.agg [.int .u64 (.var 1), .int .u64 (.var 2), .int .u64 (.var 3), .int .u64 (.var 4)]))] [(.fresh 5 (.lvar 9) (.lit 0) (.len (.lvar 9)) true)], .callS 17 [(.val (.agg [.int .u64 (.var 1), .int .u64 (.var 2), .int .u64 (.var 3), .int .u64 (.var 4)]))] [(.fresh 5 (.lvar 10) (.lit 0) (.len (.lvar 10)) true)], .callS 13 [(.bytes (.lvar 9)), (.bytes (.lvar 10))] [(.val (.sc (.bool (.var 11))))], .dec (.var 11) true, .call 18 [(.sc (.int .i64 (.var 0))), (.agg [.int .u64 (.var 1), .int .u64 (.var 2), .int .u64 (.var 3), .int .u64 (.var 4)])] (.one (.sc (.bool (.var 12)))), .call 19 [(.sc (.int .i64 (.var 0))), (.agg [.int .u64 (.var 1), .int .u64 (.var 2), .int .u64 (.var 3), .int .u64 (.var 4)])] (.one (.sc (.bool (.var 13))))]) (lev := []) Tryd.func3 (by kernel_rfl) (by kernel_rfl)
    (evs_of ⟨?_, ?_, ?_, ?_, ?_, ?_, ?_, ?_, ?_, ?_, ?_, ?_, trivial⟩) (by simp) (GsOk.nil _) hK hG
  · (refine hrun.mono fun e w' h => ⟨h.1.trans (congrArg (fun z => Ending.returned (Value.bool z)) (show (r7 == r8) = true from ?_)), h.2⟩; simp [e7])
  · exact CallP.g (awake03_c)
  · first | (simp [Ev.holds, Bx.den, cmpD, I.den, I.ldn]; done) | (simp [Ev.holds, Bx.den, cmpD, I.den, I.ldn]; omega)
  · exact CallS.g (putb_s a hr1)
  · exact CallS.g (rputb_s a hr2)
  · exact CallS.g (same_s r1 r2 (by first | assumption | omega | (simp; omega) | (simp only [List.length_take, List.length_drop, List.length_append]; omega)) hr3)
  · (show r3 = true; exact e3)
  · exact CallS.g (putl_s a hr4)
  · exact CallS.g (rputl_s a hr5)
  · exact CallS.g (same_s r4 r5 (by first | assumption | omega | (simp; omega) | (simp only [List.length_take, List.length_drop, List.length_append]; omega)) hr6)
  · (show r6 = true; exact e6)
  · exact below_g T nn a ha hr7
  · exact rbelow_g T nn a ha hr8

end Go.Proofs.YtijnfclocanhkaaDoor
