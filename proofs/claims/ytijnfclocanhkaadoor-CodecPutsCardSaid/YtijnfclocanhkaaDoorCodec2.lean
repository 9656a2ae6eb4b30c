/- Numbers out of bytes, run. -/
import Derived.Test.YtijnfclocanhkaaDoorCodec1
set_option linter.unusedVariables false
set_option linter.unusedSimpArgs false
namespace Go.Proofs.YtijnfclocanhkaaDoor
open Go.RowKit Go.Num Go.Sx

theorem arr8 {a0 b0 a1 b1 a2 b2 a3 b3 a4 b4 a5 b5 a6 b6 a7 b7 : Value} (h0 : a0 = b0) (h1 : a1 = b1) (h2 : a2 = b2) (h3 : a3 = b3) (h4 : a4 = b4) (h5 : a5 = b5) (h6 : a6 = b6) (h7 : a7 = b7) : (#[a0, a1, a2, a3, a4, a5, a6, a7] : Array Value) = #[b0, b1, b2, b3, b4, b5, b6, b7] := by
  subst h0 h1 h2 h3 h4 h5 h6 h7
  rfl

theorem arr4 {a0 b0 a1 b1 a2 b2 a3 b3 : Value} (h0 : a0 = b0) (h1 : a1 = b1) (h2 : a2 = b2) (h3 : a3 = b3) : (#[a0, a1, a2, a3] : Array Value) = #[b0, b1, b2, b3] := by
  subst h0 h1 h2 h3
  rfl

set_option maxHeartbeats 4000000 in
theorem putb_s (x : Nat) {r : List Int} (hr : r = (putN 32 x).reverse) : CallS Tryd.prog (L0) 14 [.val (.agg #[.int .u64 (lm x 0), .int .u64 (lm x 1), .int .u64 (lm x 2), .int .u64 (lm x 3)])] [.fresh 5 r 0 r.length true] := by
  refine callS_of Tryd.func14 (by kernel_rfl) (by kernel_rfl) (fun w us hK hG ha => ?_)
  obtain ⟨_, _, rfl, rfl, rfl⟩ := ha
  obtain ⟨r1, hr1⟩ : ∃ r : List Int, r = putN 32 x := ⟨_, rfl⟩
  have len1 : r1.length = 32 := by rw [hr1, putN_length]
  have hrun := calls_of_runS (P := Tryd.prog) (v := ⟨fun n => ([((lm x 0 : Nat) : Int), ((lm x 1 : Nat) : Int), ((lm x 2 : Nat) : Int), ((lm x 3 : Nat) : Int)] : List Int).getD n 0, fun n => ([] : List Bool).getD n false, fun n => ([[], [], [], [], r1] : List (List Int)).getD n [], fun n => ([] : List (List (List Int))).getD n [], L0, w⟩) (gs := []) (fuel := 3000) (nv := 4) (args := [(.agg [.int .u64 (.var 0), .int .u64 (.var 1), .int .u64 (.var 2), .int .u64 (.var 3)])]) (ora := []) (sums := []) (r := ⟨[(.fresh 5 (.rev (.lvar 4)) (.lit 0) (.len (.lvar 4)) true)], [.callS 16 [(.val (.agg [.int .u64 (.var 0), .int .u64 (.var 1), .int .u64 (.var 2), .int .u64 (.var 3)]))] [(.fresh 5 (.lvar 4) (.lit 0) (.len (.lvar 4)) true)], .rev 39], []⟩) Tryd.func14 (by kernel_rfl)
    (evs_of ⟨?_, ?_, trivial⟩) (by simp) (GsOk.nil _) hK hG _ (⟨_, _, rfl, rfl, rfl⟩)
  · exact runS_eq hrun (by (show [SRes.fresh 5 _ _ _ true] = [SRes.fresh 5 r 0 r.length true]; have E : r = (r1.reverse) := (by rw [hr, hr1]); subst E; first | rfl | (refine congrArg (fun z => [SRes.fresh _ _ 0 z true]) ?_; exact List.length_reverse.symm)))
  · exact CallS.g (putl_s x hr1)
  · exact reverser

set_option maxHeartbeats 4000000 in
theorem rputb_s (x : Nat) {r : List Int} (hr : r = (putN 32 x).reverse) : CallS Tryd.prog (L0) 15 [.val (.agg #[.int .u64 (lm x 0), .int .u64 (lm x 1), .int .u64 (lm x 2), .int .u64 (lm x 3)])] [.fresh 5 r 0 r.length true] := by
  refine callS_of Tryd.func15 (by kernel_rfl) (by kernel_rfl) (fun w us hK hG ha => ?_)
  obtain ⟨_, _, rfl, rfl, rfl⟩ := ha
  obtain ⟨r1, hr1⟩ : ∃ r : List Int, r = putN 32 x := ⟨_, rfl⟩
  obtain ⟨r2, hr2⟩ : ∃ r : List Int, r = r1.reverse := ⟨_, rfl⟩
  have len1 : r1.length = 32 := by rw [hr1, putN_length]
  have hrun := calls_of_runS (P := Tryd.prog) (v := ⟨fun n => ([((lm x 0 : Nat) : Int), ((lm x 1 : Nat) : Int), ((lm x 2 : Nat) : Int), ((lm x 3 : Nat) : Int)] : List Int).getD n 0, fun n => ([] : List Bool).getD n false, fun n => ([[], [], [], [], r1, r2] : List (List Int)).getD n [], fun n => ([] : List (List (List Int))).getD n [], L0, w⟩) (gs := []) (fuel := 3000) (nv := 4) (args := [(.agg [.int .u64 (.var 0), .int .u64 (.var 1), .int .u64 (.var 2), .int .u64 (.var 3)])]) (ora := []) (sums := []) (r := ⟨[(.fresh 5 (.lvar 5) (.lit 0) (.len (.lvar 5)) true)], [.callS 17 [(.val (.agg [.int .u64 (.var 0), .int .u64 (.var 1), .int .u64 (.var 2), .int .u64 (.var 3)]))] [(.fresh 5 (.lvar 4) (.lit 0) (.len (.lvar 4)) true)], .callS 40 [(.bytes (.lvar 4))] [(.fresh 5 (.lvar 5) (.lit 0) (.len (.lvar 5)) true)]], []⟩) Tryd.func15 (by kernel_rfl)
    (evs_of ⟨?_, ?_, trivial⟩) (by simp) (GsOk.nil _) hK hG _ (⟨_, _, rfl, rfl, rfl⟩)
  · exact runS_eq hrun (by (show [SRes.fresh 5 _ _ _ true] = [SRes.fresh 5 r 0 r.length true]; have E : r = r2 := (by rw [hr, hr2, hr1]); subst E; first | rfl | (refine congrArg (fun z => [SRes.fresh _ _ 0 z true]) ?_; exact List.length_reverse.symm)))
  · exact CallS.g (rputl_s x hr1)
  · exact CallS.g (turned_s r1 (by first | assumption | omega | (simp; omega) | (simp [*, putN_length]; done)) hr2)


abbrev same_env (w : World) (l : List Int) (m : List Int) (i : Int) : Env := ⟨fun n => ([0, 0, i] : List Int).getD n 0, fun n => ([] : List Bool).getD n false, fun n => ([l, m] : List (List Int)).getD n [], fun n => ([] : List (List (List Int))).getD n [], L0, w⟩
abbrev same_head : Fm := ⟨[(.one (.imm (.lvar 0) none)), (.one (.imm (.lvar 1) none)), .undef, .undef, (.one (.sc (.bool (.lit false)))), (.one (.sc (.int .i64 (.var 2)))), (.one (.imm (.lvar 0) none)), (.one (.sc (.int .i64 (.len (.lvar 0))))), (.one (.imm (.lvar 1) none)), (.one (.sc (.int .i64 (.len (.lvar 1))))), (.one (.sc (.bool (.lit false)))), .undef, .undef, .undef, .undef, .undef, .undef, .undef, .undef, .undef, .undef, .undef, .undef, .undef, .undef, .undef], [], []⟩
abbrev same_pre : Fm := ⟨[(.one (.imm (.lvar 0) none)), (.one (.imm (.lvar 1) none)), .undef, .undef, (.one (.sc (.bool (.lit false)))), (.one (.sc (.int .i64 (.lit 0)))), (.one (.imm (.lvar 0) none)), (.one (.sc (.int .i64 (.len (.lvar 0))))), (.one (.imm (.lvar 1) none)), (.one (.sc (.int .i64 (.len (.lvar 1))))), (.one (.sc (.bool (.lit false)))), .undef, .undef, .undef, .undef, .undef, .undef, .undef, .undef, .undef, .undef, .undef, .undef, .undef, .undef, .undef], [], []⟩
set_option maxHeartbeats 4000000 in
theorem same_more (w : World) (l : List Int) (m : List Int)  (i : Int) (h0 : 0 ≤ i) (h1 : i < l.length) (hm : l.length = m.length) (hl : l.length ≤ 1099511627776) (he : l.getD i.toNat 0 = m.getD i.toNat 0) : Round Tryd.prog (loopOf Tryd.f13 0) same_head (same_env w l m i) .normal same_head (same_env w l m (i + 1)) := by
  refine Round.mk (⟨fun n => ([0, 0, i] : List Int).getD n 0, fun n => ([] : List Bool).getD n false, fun n => ([l, m] : List (List Int)).getD n [], fun n => ([] : List (List (List Int))).getD n [], L0, w⟩) [] [] 3000 3 [some true, some false] [] ⟨⟨[(.one (.imm (.lvar 0) none)), (.one (.imm (.lvar 1) none)), .undef, .undef, (.one (.sc (.bool (.lit false)))), (.one (.sc (.int .i64 (.add .i64 (.var 2) (.lit 1))))), (.one (.imm (.lvar 0) none)), (.one (.sc (.int .i64 (.len (.lvar 0))))), (.one (.imm (.lvar 1) none)), (.one (.sc (.int .i64 (.len (.lvar 1))))), (.one (.sc (.bool (.lit false)))), (.one (.sc (.int .i64 (.var 2)))), (.one (.imm (.lvar 0) none)), (.one (.sc (.int .i64 (.len (.lvar 0))))), (.one (.sc (.bool (.lit true)))), (.one (.sc (.int .i64 (.var 2)))), (.one (.sc (.int .i64 (.add .i64 (.var 2) (.lit 1))))), (.one (.imm (.lvar 0) none)), (.one (.sc (.int .i64 (.var 2)))), (.one (.immp (.get (.lvar 0) (.var 2)))), (.one (.sc (.int .u8 (.get (.lvar 0) (.var 2))))), (.one (.imm (.lvar 1) none)), (.one (.sc (.int .i64 (.var 2)))), (.one (.immp (.get (.lvar 1) (.var 2)))), (.one (.sc (.int .u8 (.get (.lvar 1) (.var 2))))), (.one (.sc (.bool (.lit false))))], [], []⟩, 3, [], [], [.dec (.cmp .lss (.var 2) (.len (.lvar 0))) true, .dec (.cmp .leq (.lit 0) (.var 2)) true, .dec (.cmp .lss (.var 2) (.len (.lvar 0))) true, .dec (.cmp .leq (.lit 0) (.var 2)) true, .dec (.cmp .lss (.var 2) (.len (.lvar 1))) true, .dec (.cmp .neq (.get (.lvar 0) (.var 2)) (.get (.lvar 1) (.var 2))) false], []⟩ (by (refine And.intro ?_ (And.intro ?_ (And.intro rfl (And.intro (by decide) (And.intro rfl rfl)))) <;> (repeat' (first | exact trivial | with_reducible rfl | refine And.intro ?_ ?_ | (show rn _ _ _; exact rfl) | (refine fun h => ?_; first | exact rfl | exact h) | simp only [I.den, I.ldn, Bx.den, List.getD_cons_succ, List.getD_cons_zero, List.getD_nil] | exact rfl)))) (by kernel_rfl) ⟨evs_of ⟨?_, ?_, ?_, ?_, ?_, ?_, trivial⟩, by simp⟩ ?_
  · first | exact dec_lt_t (a := i) (b := ((l.length : Nat) : Int)) rfl rfl (by omega) | (first | (simp [Ev.holds, Bx.den, cmpD, I.den, I.ldn]; done) | (simp [Ev.holds, Bx.den, cmpD, I.den, I.ldn]; omega))
  · first | exact dec_le_t (a := (0 : Int)) (b := i) rfl rfl (by omega) | (first | (simp [Ev.holds, Bx.den, cmpD, I.den, I.ldn]; done) | (simp [Ev.holds, Bx.den, cmpD, I.den, I.ldn]; omega))
  · first | exact dec_lt_t (a := i) (b := ((l.length : Nat) : Int)) rfl rfl (by omega) | (first | (simp [Ev.holds, Bx.den, cmpD, I.den, I.ldn]; done) | (simp [Ev.holds, Bx.den, cmpD, I.den, I.ldn]; omega))
  · first | exact dec_le_t (a := (0 : Int)) (b := i) rfl rfl (by omega) | (first | (simp [Ev.holds, Bx.den, cmpD, I.den, I.ldn]; done) | (simp [Ev.holds, Bx.den, cmpD, I.den, I.ldn]; omega))
  · first | exact dec_lt_t (a := i) (b := ((m.length : Nat) : Int)) rfl rfl (by omega) | (first | (simp [Ev.holds, Bx.den, cmpD, I.den, I.ldn]; done) | (simp [Ev.holds, Bx.den, cmpD, I.den, I.ldn]; omega))
  · first | exact dec_ne_f (a := (l.getD (i).toNat 0)) (b := (m.getD (i).toNat 0)) rfl rfl (by omega) | (first | (simp [Ev.holds, Bx.den, cmpD, I.den, I.ldn]; done) | (simp [Ev.holds, Bx.den, cmpD, I.den, I.ldn]; omega))
  · (refine And.intro ?_ (And.intro ?_ (And.intro rfl (And.intro (by decide) (And.intro rfl rfl)))) <;> (repeat' (first | exact trivial | with_reducible rfl | refine And.intro ?_ ?_ | (show rn _ _ _; exact rfl) | (refine fun h => ?_; first | exact rfl | exact h) | simp only [I.den, I.ldn, Bx.den, List.getD_cons_succ, List.getD_cons_zero, List.getD_nil] | exact rfl)))
    all_goals (rw [IntKind.wrap_i64]; omega)
set_option maxHeartbeats 4000000 in
theorem same_diff (w : World) (l : List Int) (m : List Int)  (i : Int) (h0 : 0 ≤ i) (h1 : i < l.length) (hm : l.length = m.length) (he : ¬ l.getD i.toNat 0 = m.getD i.toNat 0) : Round Tryd.prog (loopOf Tryd.f13 0) same_head (same_env w l m i) .ret same_head (same_env w l m i) := by
  refine Round.mk (⟨fun n => ([0, 0, i] : List Int).getD n 0, fun n => ([] : List Bool).getD n false, fun n => ([l, m] : List (List Int)).getD n [], fun n => ([] : List (List (List Int))).getD n [], L0, w⟩) [] [] 3000 3 [some true, some true] [] ⟨⟨[(.one (.imm (.lvar 0) none)), (.one (.imm (.lvar 1) none)), .undef, .undef, (.one (.sc (.bool (.lit false)))), (.one (.sc (.int .i64 (.var 2)))), (.one (.imm (.lvar 0) none)), (.one (.sc (.int .i64 (.len (.lvar 0))))), (.one (.imm (.lvar 1) none)), (.one (.sc (.int .i64 (.len (.lvar 1))))), (.one (.sc (.bool (.lit false)))), (.one (.sc (.int .i64 (.var 2)))), (.one (.imm (.lvar 0) none)), (.one (.sc (.int .i64 (.len (.lvar 0))))), (.one (.sc (.bool (.lit true)))), .undef, .undef, (.one (.imm (.lvar 0) none)), (.one (.sc (.int .i64 (.var 2)))), (.one (.immp (.get (.lvar 0) (.var 2)))), (.one (.sc (.int .u8 (.get (.lvar 0) (.var 2))))), (.one (.imm (.lvar 1) none)), (.one (.sc (.int .i64 (.var 2)))), (.one (.immp (.get (.lvar 1) (.var 2)))), (.one (.sc (.int .u8 (.get (.lvar 1) (.var 2))))), (.one (.sc (.bool (.lit true))))], [], []⟩, 3, [], [], [.dec (.cmp .lss (.var 2) (.len (.lvar 0))) true, .dec (.cmp .leq (.lit 0) (.var 2)) true, .dec (.cmp .lss (.var 2) (.len (.lvar 0))) true, .dec (.cmp .leq (.lit 0) (.var 2)) true, .dec (.cmp .lss (.var 2) (.len (.lvar 1))) true, .dec (.cmp .neq (.get (.lvar 0) (.var 2)) (.get (.lvar 1) (.var 2))) true], []⟩ (by (refine And.intro ?_ (And.intro ?_ (And.intro rfl (And.intro (by decide) (And.intro rfl rfl)))) <;> (repeat' (first | exact trivial | with_reducible rfl | refine And.intro ?_ ?_ | (show rn _ _ _; exact rfl) | (refine fun h => ?_; first | exact rfl | exact h) | simp only [I.den, I.ldn, Bx.den, List.getD_cons_succ, List.getD_cons_zero, List.getD_nil] | exact rfl)))) (by kernel_rfl) ⟨evs_of ⟨?_, ?_, ?_, ?_, ?_, ?_, trivial⟩, by simp⟩ ?_
  · first | exact dec_lt_t (a := i) (b := ((l.length : Nat) : Int)) rfl rfl (by omega) | (first | (simp [Ev.holds, Bx.den, cmpD, I.den, I.ldn]; done) | (simp [Ev.holds, Bx.den, cmpD, I.den, I.ldn]; omega))
  · first | exact dec_le_t (a := (0 : Int)) (b := i) rfl rfl (by omega) | (first | (simp [Ev.holds, Bx.den, cmpD, I.den, I.ldn]; done) | (simp [Ev.holds, Bx.den, cmpD, I.den, I.ldn]; omega))
  · first | exact dec_lt_t (a := i) (b := ((l.length : Nat) : Int)) rfl rfl (by omega) | (first | (simp [Ev.holds, Bx.den, cmpD, I.den, I.ldn]; done) | (simp [Ev.holds, Bx.den, cmpD, I.den, I.ldn]; omega))
  · first | exact dec_le_t (a := (0 : Int)) (b := i) rfl rfl (by omega) | (first | (simp [Ev.holds, Bx.den, cmpD, I.den, I.ldn]; done) | (simp [Ev.holds, Bx.den, cmpD, I.den, I.ldn]; omega))
  · first | exact dec_lt_t (a := i) (b := ((m.length : Nat) : Int)) rfl rfl (by omega) | (first | (simp [Ev.holds, Bx.den, cmpD, I.den, I.ldn]; done) | (simp [Ev.holds, Bx.den, cmpD, I.den, I.ldn]; omega))
  · first | exact dec_ne_t (a := (l.getD (i).toNat 0)) (b := (m.getD (i).toNat 0)) rfl rfl (by omega) | (first | (simp [Ev.holds, Bx.den, cmpD, I.den, I.ldn]; done) | (simp [Ev.holds, Bx.den, cmpD, I.den, I.ldn]; omega))
  · (refine And.intro ?_ (And.intro ?_ (And.intro rfl (And.intro (by decide) (And.intro rfl rfl)))) <;> (repeat' (first | exact trivial | with_reducible rfl | refine And.intro ?_ ?_ | (show rn _ _ _; exact rfl) | (refine fun h => ?_; first | exact rfl | exact h) | simp only [I.den, I.ldn, Bx.den, List.getD_cons_succ, List.getD_cons_zero, List.getD_nil] | exact rfl)))
set_option maxHeartbeats 4000000 in
theorem same_last (w : World) (l : List Int) (m : List Int)  (i : Int) (h0 : (l.length : Int) ≤ i) : Round Tryd.prog (loopOf Tryd.f13 0) same_head (same_env w l m i) (.exit 0) same_head (same_env w l m i) := by
  refine Round.mk (⟨fun n => ([0, 0, i] : List Int).getD n 0, fun n => ([] : List Bool).getD n false, fun n => ([l, m] : List (List Int)).getD n [], fun n => ([] : List (List (List Int))).getD n [], L0, w⟩) [] [] 3000 3 [some false] [] ⟨⟨[(.one (.imm (.lvar 0) none)), (.one (.imm (.lvar 1) none)), .undef, .undef, (.one (.sc (.bool (.lit false)))), (.one (.sc (.int .i64 (.var 2)))), (.one (.imm (.lvar 0) none)), (.one (.sc (.int .i64 (.len (.lvar 0))))), (.one (.imm (.lvar 1) none)), (.one (.sc (.int .i64 (.len (.lvar 1))))), (.one (.sc (.bool (.lit false)))), (.one (.sc (.int .i64 (.var 2)))), (.one (.imm (.lvar 0) none)), (.one (.sc (.int .i64 (.len (.lvar 0))))), (.one (.sc (.bool (.lit false)))), .undef, .undef, .undef, .undef, .undef, .undef, .undef, .undef, .undef, .undef, .undef], [], []⟩, 3, [], [], [.dec (.cmp .lss (.var 2) (.len (.lvar 0))) false], []⟩ (by (refine And.intro ?_ (And.intro ?_ (And.intro rfl (And.intro (by decide) (And.intro rfl rfl)))) <;> (repeat' (first | exact trivial | with_reducible rfl | refine And.intro ?_ ?_ | (show rn _ _ _; exact rfl) | (refine fun h => ?_; first | exact rfl | exact h) | simp only [I.den, I.ldn, Bx.den, List.getD_cons_succ, List.getD_cons_zero, List.getD_nil] | exact rfl)))) (by kernel_rfl) ⟨evs_of ⟨?_, trivial⟩, by simp⟩ ?_
  · first | exact dec_lt_f (a := i) (b := ((l.length : Nat) : Int)) rfl rfl (by omega) | (first | (simp [Ev.holds, Bx.den, cmpD, I.den, I.ldn]; done) | (simp [Ev.holds, Bx.den, cmpD, I.den, I.ldn]; omega))
  · (refine And.intro ?_ (And.intro ?_ (And.intro rfl (And.intro (by decide) (And.intro rfl rfl)))) <;> (repeat' (first | exact trivial | with_reducible rfl | refine And.intro ?_ ?_ | (show rn _ _ _; exact rfl) | (refine fun h => ?_; first | exact rfl | exact h) | simp only [I.den, I.ldn, Bx.den, List.getD_cons_succ, List.getD_cons_zero, List.getD_nil] | exact rfl)))

theorem same_rounds_eq (w : World) (l m : List Int) (hm : l = m) (hl : l.length ≤ 1099511627776) (v : Env) {r0 r1 : List (Option Nat)} (start : Fm.to v (same_env w l m 0) r0 same_pre same_head) (fin : Fm.to (same_env w l m ((l.length : Nat) : Int)) v r1 same_head same_head) :
    LEv.holds Tryd.prog v ⟨loopOf Tryd.f13 0, same_pre, same_head, (.exit 0)⟩ := by
  subst hm
  refine loop_rounds (r0 := r0) (n := l.length) (head := same_head) (fun k => same_env w l l (k : Int)) start ?_ (same_env w l l ((l.length : Nat) : Int)) ?_ fin (by decide)
  · intro k hk
    exact same_more w l l (k : Int) (by omega) (by omega) rfl hl rfl
  · exact same_last w l l _ (by omega)
theorem same_rounds_ne (w : World) (l m : List Int) (hm : l.length = m.length) (hl : l.length ≤ 1099511627776) (j : Nat) (hj : j < l.length) (he : ∀ i, i < j → l.getD i 0 = m.getD i 0) (hne : l.getD j 0 ≠ m.getD j 0) (v : Env) {r0 r1 : List (Option Nat)} (start : Fm.to v (same_env w l m 0) r0 same_pre same_head) (fin : Fm.to (same_env w l m (j : Int)) v r1 same_head same_head) :
    LEv.holds Tryd.prog v ⟨loopOf Tryd.f13 0, same_pre, same_head, .ret⟩ := by
  refine loop_rounds (r0 := r0) (n := j) (head := same_head) (fun k => same_env w l m (k : Int)) start ?_ (same_env w l m (j : Int)) ?_ fin (by decide)
  · intro k hk
    exact same_more w l m (k : Int) (by omega) (by omega) hm hl (by rw [Int.toNat_natCast]; exact he k hk)
  · exact same_diff w l m (j : Int) (by omega) (by omega) hm (by rw [Int.toNat_natCast]; exact hne)

set_option maxHeartbeats 4000000 in
theorem same_len (l : List Int) (m : List Int) (hm : ¬ l.length = m.length) : CallS Tryd.prog (L0) 13 [.bytes l, .bytes m] [.val (.bool false)] := by
  refine callS_of Tryd.func13 (by kernel_rfl) (by kernel_rfl) (fun w us hK hG ha => ?_)
  obtain ⟨u0, _, rfl, hu0, u1, _, rfl, hu1, rfl⟩ := ha
  have hrun := calls_of_runS (P := Tryd.prog) (v := ⟨fun n => ([] : List Int).getD n 0, fun n => ([] : List Bool).getD n false, fun n => ([l, m] : List (List Int)).getD n [], fun n => ([] : List (List (List Int))).getD n [], L0, w⟩) (gs := []) (fuel := 3000) (nv := 2) (args := [(.imm (.lvar 0) none), (.imm (.lvar 1) none)]) (ora := [some true]) (sums := []) (r := ⟨[(.val (.sc (.bool (.lit false))))], [.dec (.cmp .neq (.len (.lvar 0)) (.len (.lvar 1))) true], []⟩) Tryd.func13 (by kernel_rfl)
    (evs_of ⟨?_, trivial⟩) (by simp) (GsOk.nil _) hK hG _ (⟨u0, _, rfl, ⟨hu0, fun b hb => by cases hb⟩, u1, _, rfl, ⟨hu1, fun b hb => by cases hb⟩, rfl⟩)
  · exact runS_eq hrun (by rfl)
  · first | exact dec_ne_t (a := ((l.length : Nat) : Int)) (b := ((m.length : Nat) : Int)) rfl rfl (by omega) | (first | (simp [Ev.holds, Bx.den, cmpD, I.den, I.ldn]; done) | (simp [Ev.holds, Bx.den, cmpD, I.den, I.ldn]; omega))

set_option maxHeartbeats 4000000 in
theorem same_eq (l : List Int) (m : List Int) (hm : l = m) (hl : l.length ≤ 1099511627776) : CallS Tryd.prog (L0) 13 [.bytes l, .bytes m] [.val (.bool true)] := by
  refine callS_of Tryd.func13 (by kernel_rfl) (by kernel_rfl) (fun w us hK hG ha => ?_)
  obtain ⟨u0, _, rfl, hu0, u1, _, rfl, hu1, rfl⟩ := ha
  have hlm : l.length = m.length := by rw [hm]
  have hrun := calls_of_runS (P := Tryd.prog) (v := ⟨fun n => ([0, 0, ((l.length : Nat) : Int)] : List Int).getD n 0, fun n => ([] : List Bool).getD n false, fun n => ([l, m] : List (List Int)).getD n [], fun n => ([] : List (List (List Int))).getD n [], L0, w⟩) (gs := []) (fuel := 3000) (nv := 2) (args := [(.imm (.lvar 0) none), (.imm (.lvar 1) none)]) (ora := [some false]) (sums := [some ⟨[(5, (.one (.sc (.int .i64 (.var 2)))))], [], 3, (.exit 0)⟩]) (r := ⟨[(.val (.sc (.bool (.lit true))))], [.dec (.cmp .neq (.len (.lvar 0)) (.len (.lvar 1))) false], [⟨loopOf Tryd.f13 0, same_pre, same_head, (.exit 0)⟩]⟩) Tryd.func13 (by kernel_rfl)
    (evs_of ⟨?_, trivial⟩) (levs_of ⟨?_, trivial⟩) (GsOk.nil _) hK hG _ (⟨u0, _, rfl, ⟨hu0, fun b hb => by cases hb⟩, u1, _, rfl, ⟨hu1, fun b hb => by cases hb⟩, rfl⟩)
  · exact runS_eq hrun (by rfl)
  · first | exact dec_ne_f (a := ((l.length : Nat) : Int)) (b := ((m.length : Nat) : Int)) rfl rfl (by omega) | (first | (simp [Ev.holds, Bx.den, cmpD, I.den, I.ldn]; done) | (simp [Ev.holds, Bx.den, cmpD, I.den, I.ldn]; omega))
  · (refine same_rounds_eq w l m hm hl _ (r0 := []) (r1 := []) ?_ ?_ <;> (refine And.intro ?_ (And.intro ?_ (And.intro rfl (And.intro (by decide) (And.intro rfl rfl)))) <;> (repeat' (first | exact trivial | with_reducible rfl | refine And.intro ?_ ?_ | (show rn _ _ _; exact rfl) | (refine fun h => ?_; first | exact rfl | exact h) | simp only [I.den, I.ldn, Bx.den, List.getD_cons_succ, List.getD_cons_zero, List.getD_nil] | exact rfl))))

set_option maxHeartbeats 4000000 in
theorem same_ne (l : List Int) (m : List Int) (hm : l.length = m.length) (hl : l.length ≤ 1099511627776) (j : Nat) (hj : j < l.length) (he : ∀ i, i < j → l.getD i 0 = m.getD i 0) (hne : l.getD j 0 ≠ m.getD j 0) : CallS Tryd.prog (L0) 13 [.bytes l, .bytes m] [.val (.bool false)] := by
  refine callS_of Tryd.func13 (by kernel_rfl) (by kernel_rfl) (fun w us hK hG ha => ?_)
  obtain ⟨u0, _, rfl, hu0, u1, _, rfl, hu1, rfl⟩ := ha
  have hrun := calls_of_runS (P := Tryd.prog) (v := ⟨fun n => ([0, 0, (j : Int)] : List Int).getD n 0, fun n => ([] : List Bool).getD n false, fun n => ([l, m] : List (List Int)).getD n [], fun n => ([] : List (List (List Int))).getD n [], L0, w⟩) (gs := []) (fuel := 3000) (nv := 2) (args := [(.imm (.lvar 0) none), (.imm (.lvar 1) none)]) (ora := [some false]) (sums := [some ⟨[(5, (.one (.sc (.int .i64 (.var 2)))))], [], 3, .ret⟩]) (r := ⟨[(.val (.sc (.bool (.lit false))))], [.dec (.cmp .neq (.len (.lvar 0)) (.len (.lvar 1))) false], [⟨loopOf Tryd.f13 0, same_pre, same_head, .ret⟩]⟩) Tryd.func13 (by kernel_rfl)
    (evs_of ⟨?_, trivial⟩) (levs_of ⟨?_, trivial⟩) (GsOk.nil _) hK hG _ (⟨u0, _, rfl, ⟨hu0, fun b hb => by cases hb⟩, u1, _, rfl, ⟨hu1, fun b hb => by cases hb⟩, rfl⟩)
  · exact runS_eq hrun (by rfl)
  · first | exact dec_ne_f (a := ((l.length : Nat) : Int)) (b := ((m.length : Nat) : Int)) rfl rfl (by omega) | (first | (simp [Ev.holds, Bx.den, cmpD, I.den, I.ldn]; done) | (simp [Ev.holds, Bx.den, cmpD, I.den, I.ldn]; omega))
  · (refine same_rounds_ne w l m hm hl j hj he hne _ (r0 := []) (r1 := []) ?_ ?_ <;> (refine And.intro ?_ (And.intro ?_ (And.intro rfl (And.intro (by decide) (And.intro rfl rfl)))) <;> (repeat' (first | exact trivial | with_reducible rfl | refine And.intro ?_ ?_ | (show rn _ _ _; exact rfl) | (refine fun h => ?_; first | exact rfl | exact h) | simp only [I.den, I.ldn, Bx.den, List.getD_cons_succ, List.getD_cons_zero, List.getD_nil] | exact rfl))))

theorem same_s (l m : List Int) (hl : l.length ≤ 1099511627776) {k : Bool} (hk : k = decide (l = m)) : CallS Tryd.prog L0 13 [.bytes l, .bytes m] [.val (.bool k)] := by
  by_cases hlen : l.length = m.length
  · by_cases e : l = m
    · rw [hk, decide_eq_true e]; exact same_eq l m e hl
    · obtain ⟨j, h1, h2, h3⟩ := first_diff hlen e
      rw [hk, decide_eq_false e]; exact same_ne l m hlen hl j h1 h2 h3
  · rw [hk, decide_eq_false (fun e => hlen (by rw [e]))]; exact same_len l m hlen
















end Go.Proofs.YtijnfclocanhkaaDoor
