/- CodecTakes, CodecBack, run. -/
import Derived.Test.YtgmbgidcgdammaaLaw03a
set_option linter.unusedVariables false
set_option linter.unusedSimpArgs false
namespace Go.Proofs.Ytgmbgidcgdammaa
open Go.RowKit Go.Num Go.Sx

set_option maxHeartbeats 4000000 in
theorem codecTakes_long (l : List Int) (hl : ¬ l.length ≤ 100) : CallS Try.prog (L0) 11 [.bytes l] [.val (.bool true)] := by
  refine callS_of Try.func11 (by kernel_rfl) (by kernel_rfl) (fun w us hK hG ha => ?_)
  obtain ⟨u0, _, rfl, hu0, rfl⟩ := ha
  have hrun := calls_of_runS (P := Try.prog) (v := ⟨fun n => ([] : List Int).getD n 0, fun n => ([false, true, true] : List Bool).getD n false, fun n => ([l] : List (List Int)).getD n [], fun n => ([] : List (List (List Int))).getD n [], L0, w⟩) (gs := []) (fuel := 3000) (nv := 1) (args := [(.imm (.lvar 0) none)]) (ora := [some true, some true]) (sums := []) (r := ⟨[(.val (.sc (.bool (.var 2))))], [.call 17 [] (.one (.sc (.bool (.var 1)))), .dec (.var 1) true, .dec (.cmp .gtr (.len (.lvar 0)) (.lit 100)) true, .call 17 [] (.one (.sc (.bool (.var 2))))], []⟩) Try.func11 (by kernel_rfl)
    (evs_of ⟨?_, ?_, ?_, ?_, trivial⟩) (by simp) (GsOk.nil _) hK hG _ (⟨u0, _, rfl, ⟨hu0, fun b hb => by cases hb⟩, rfl⟩)
  · exact runS_eq hrun (by rfl)
  · exact CallP.g (awake03_c)
  · first | (simp [Ev.holds, Bx.den, cmpD, I.den, I.ldn]; done) | (simp [Ev.holds, Bx.den, cmpD, I.den, I.ldn]; omega)
  · first | exact dec_gt_t (a := ((l.length : Nat) : Int)) (b := (100 : Int)) rfl rfl (by omega) | (first | (simp [Ev.holds, Bx.den, cmpD, I.den, I.ldn]; done) | (simp [Ev.holds, Bx.den, cmpD, I.den, I.ldn]; omega))
  · exact CallP.g (awake03_c)

set_option maxHeartbeats 4000000 in
theorem codecTakes_some (l : List Int) (hb : IsBytes l) (hl : l.length ≤ 100) : CallS Try.prog (L0) 11 [.bytes l] [.val (.bool true)] := by
  refine callS_of Try.func11 (by kernel_rfl) (by kernel_rfl) (fun w us hK hG ha => ?_)
  obtain ⟨u0, _, rfl, hu0, rfl⟩ := ha
  obtain ⟨r1, hr1⟩ : ∃ r : Nat, r = if l.length = 32 then leN l.reverse else 0 := ⟨_, rfl⟩
  obtain ⟨r2, hr2⟩ : ∃ r : Bool, r = decide (l.length = 32) := ⟨_, rfl⟩
  obtain ⟨r3, hr3⟩ : ∃ r : Nat, r = if l.length = 32 then leN l.reverse else 0 := ⟨_, rfl⟩
  obtain ⟨r4, hr4⟩ : ∃ r : Bool, r = decide (l.length = 32) := ⟨_, rfl⟩
  obtain ⟨r5, hr5⟩ : ∃ r : Nat, r = if l.length = 32 then leN l else 0 := ⟨_, rfl⟩
  obtain ⟨r6, hr6⟩ : ∃ r : Bool, r = decide (l.length = 32) := ⟨_, rfl⟩
  obtain ⟨r7, hr7⟩ : ∃ r : Nat, r = if l.length = 32 then leN l else 0 := ⟨_, rfl⟩
  obtain ⟨r8, hr8⟩ : ∃ r : Bool, r = decide (l.length = 32) := ⟨_, rfl⟩
  obtain ⟨r9, hr9⟩ : ∃ r : Nat, r = if l.length = 64 then leN l else 0 := ⟨_, rfl⟩
  obtain ⟨r10, hr10⟩ : ∃ r : Bool, r = decide (l.length = 64) := ⟨_, rfl⟩
  obtain ⟨r11, hr11⟩ : ∃ r : Nat, r = if l.length = 64 then leN l else 0 := ⟨_, rfl⟩
  obtain ⟨r12, hr12⟩ : ∃ r : Bool, r = decide (l.length = 64) := ⟨_, rfl⟩
  have hl' : l.length ≤ 1099511627776 := by omega
  have e1 : r1 = r3 := by rw [hr1, hr3]
  have e2 : r2 = r4 := by rw [hr2, hr4]
  have e5 : r5 = r7 := by rw [hr5, hr7]
  have e6 : r6 = r8 := by rw [hr6, hr8]
  have e9 : r9 = r11 := by rw [hr9, hr11]
  have e10 : r10 = r12 := by rw [hr10, hr12]
  have hrun := calls_of_runS (P := Try.prog) (v := ⟨fun n => ([0, 0, ((lm r1 0 : Nat) : Int), ((lm r1 1 : Nat) : Int), ((lm r1 2 : Nat) : Int), ((lm r1 3 : Nat) : Int), 0, ((lm r3 0 : Nat) : Int), ((lm r3 1 : Nat) : Int), ((lm r3 2 : Nat) : Int), ((lm r3 3 : Nat) : Int), 0, ((lm r5 0 : Nat) : Int), ((lm r5 1 : Nat) : Int), ((lm r5 2 : Nat) : Int), ((lm r5 3 : Nat) : Int), 0, ((lm r7 0 : Nat) : Int), ((lm r7 1 : Nat) : Int), ((lm r7 2 : Nat) : Int), ((lm r7 3 : Nat) : Int), 0, ((lm r9 0 : Nat) : Int), ((lm r9 1 : Nat) : Int), ((lm r9 2 : Nat) : Int), ((lm r9 3 : Nat) : Int), ((lm r9 4 : Nat) : Int), ((lm r9 5 : Nat) : Int), ((lm r9 6 : Nat) : Int), ((lm r9 7 : Nat) : Int), 0, ((lm r11 0 : Nat) : Int), ((lm r11 1 : Nat) : Int), ((lm r11 2 : Nat) : Int), ((lm r11 3 : Nat) : Int), ((lm r11 4 : Nat) : Int), ((lm r11 5 : Nat) : Int), ((lm r11 6 : Nat) : Int), ((lm r11 7 : Nat) : Int)] : List Int).getD n 0, fun n => ([false, true, false, false, false, false, r2, false, false, false, false, r4, false, false, false, false, r6, false, false, false, false, r8, false, false, false, false, false, false, false, false, r10, false, false, false, false, false, false, false, false, r12] : List Bool).getD n false, fun n => ([l] : List (List Int)).getD n [], fun n => ([] : List (List (List Int))).getD n [], L0, w⟩) (gs := []) (fuel := 3000) (nv := 1) (args := [(.imm (.lvar 0) none)]) (ora := [some true, some false, none, none, none, none, none, none, none, none, none, none, none, none, none, none]) (sums := []) (r := ⟨[(.val (.sc (.bool (.ite (.ite (.ite (.ite (.ite (.and (.cmp .eql (.var 2) (.var 7)) (.and (.cmp .eql (.var 3) (.var 8)) (.and (.cmp .eql (.var 4) (.var 9)) (.cmp .eql (.var 5) (.var 10))))) (.beq (.var 6) (.var 11)) (.lit false)) (.and (.cmp .eql (.var 12) (.var 17)) (.and (.cmp .eql (.var 13) (.var 18)) (.and (.cmp .eql (.var 14) (.var 19)) (.cmp .eql (.var 15) (.var 20))))) (.lit false)) (.beq (.var 16) (.var 21)) (.lit false)) (.and (.cmp .eql (.var 22) (.var 31)) (.and (.cmp .eql (.var 23) (.var 32)) (.and (.cmp .eql (.var 24) (.var 33)) (.and (.cmp .eql (.var 25) (.var 34)) (.and (.cmp .eql (.var 26) (.var 35)) (.and (.cmp .eql (.var 27) (.var 36)) (.and (.cmp .eql (.var 28) (.var 37)) (.cmp .eql (.var 29) (.var 38))))))))) (.lit false)) (.beq (.var 30) (.var 39)) (.lit false)))))], [.call 17 [] (.one (.sc (.bool (.var 1)))), .dec (.var 1) true, .dec (.cmp .gtr (.len (.lvar 0)) (.lit 100)) false, .callS 28 [(.bytes (.lvar 0))] [(.val (.agg [.int .u64 (.var 2), .int .u64 (.var 3), .int .u64 (.var 4), .int .u64 (.var 5)])), (.val (.sc (.bool (.var 6))))], .callS 35 [(.bytes (.lvar 0))] [(.val (.agg [.int .u64 (.var 7), .int .u64 (.var 8), .int .u64 (.var 9), .int .u64 (.var 10)])), (.val (.sc (.bool (.var 11))))], .callS 29 [(.bytes (.lvar 0))] [(.val (.agg [.int .u64 (.var 12), .int .u64 (.var 13), .int .u64 (.var 14), .int .u64 (.var 15)])), (.val (.sc (.bool (.var 16))))], .callS 36 [(.bytes (.lvar 0))] [(.val (.agg [.int .u64 (.var 17), .int .u64 (.var 18), .int .u64 (.var 19), .int .u64 (.var 20)])), (.val (.sc (.bool (.var 21))))], .callS 37 [(.bytes (.lvar 0))] [(.val (.agg [.int .u64 (.var 22), .int .u64 (.var 23), .int .u64 (.var 24), .int .u64 (.var 25), .int .u64 (.var 26), .int .u64 (.var 27), .int .u64 (.var 28), .int .u64 (.var 29)])), (.val (.sc (.bool (.var 30))))], .callS 38 [(.bytes (.lvar 0))] [(.val (.agg [.int .u64 (.var 31), .int .u64 (.var 32), .int .u64 (.var 33), .int .u64 (.var 34), .int .u64 (.var 35), .int .u64 (.var 36), .int .u64 (.var 37), .int .u64 (.var 38)])), (.val (.sc (.bool (.var 39))))]], []⟩) Try.func11 (by kernel_rfl)
    (evs_of ⟨?_, ?_, ?_, ?_, ?_, ?_, ?_, ?_, ?_, trivial⟩) (by simp) (GsOk.nil _) hK hG _ (⟨u0, _, rfl, ⟨hu0, fun b hb => by cases hb⟩, rfl⟩)
  · exact runS_eq hrun (by (simp [ERes.den, A.val, Sc.den, Bx.den, cmpD, I.den, I.ldn, e1, e2, e5, e6, e9, e10]))
  · exact CallP.g (awake03_c)
  · first | (simp [Ev.holds, Bx.den, cmpD, I.den, I.ldn]; done) | (simp [Ev.holds, Bx.den, cmpD, I.den, I.ldn]; omega)
  · first | exact dec_gt_f (a := ((l.length : Nat) : Int)) (b := (100 : Int)) rfl rfl (by omega) | (first | (simp [Ev.holds, Bx.den, cmpD, I.den, I.ldn]; done) | (simp [Ev.holds, Bx.den, cmpD, I.den, I.ldn]; omega))
  · exact CallS.g (big_s l (by first | assumption | (simp only [*]; first | exact putN_bytes _ _ | exact (putN_bytes _ _).reverse | (apply IsBytes.reverse; assumption))) (by first | assumption | omega | (simp; omega) | (simp only [List.length_take, List.length_drop, List.length_append]; omega)) hr1 hr2)
  · exact CallS.g (rbig_s l (by first | assumption | (simp only [*]; first | exact putN_bytes _ _ | exact (putN_bytes _ _).reverse | (apply IsBytes.reverse; assumption))) (by first | assumption | omega | (simp; omega) | (simp only [List.length_take, List.length_drop, List.length_append]; omega)) hr3 hr4)
  · exact CallS.g (little_s l (by first | assumption | (simp only [*]; first | exact putN_bytes _ _ | exact (putN_bytes _ _).reverse | (apply IsBytes.reverse; assumption))) hr5 hr6)
  · exact CallS.g (rlittle_s l (by first | assumption | (simp only [*]; first | exact putN_bytes _ _ | exact (putN_bytes _ _).reverse | (apply IsBytes.reverse; assumption))) hr7 hr8)
  · exact CallS.g (wide_s l (by first | assumption | (simp only [*]; first | exact putN_bytes _ _ | exact (putN_bytes _ _).reverse | (apply IsBytes.reverse; assumption))) hr9 hr10)
  · exact CallS.g (rwide_s l (by first | assumption | (simp only [*]; first | exact putN_bytes _ _ | exact (putN_bytes _ _).reverse | (apply IsBytes.reverse; assumption))) hr11 hr12)

theorem codecTakes_walk (l : List Int) (hb : IsBytes l) : CallS Try.prog L0 11 [.bytes l] [.val (.bool true)] := by
  by_cases h : l.length ≤ 100
  · exact codecTakes_some l hb h
  · exact codecTakes_long l h

set_option maxHeartbeats 4000000 in
theorem codecBack_long (x : Nat) (l : List Int) (hl : ¬ l.length ≤ 100) : CallS Try.prog (L0) 8 [.val (.agg #[.int .u64 (lm x 0), .int .u64 (lm x 1), .int .u64 (lm x 2), .int .u64 (lm x 3)]), .bytes l] [.val (.bool true)] := by
  refine callS_of Try.func8 (by kernel_rfl) (by kernel_rfl) (fun w us hK hG ha => ?_)
  obtain ⟨_, _, rfl, rfl, u1, _, rfl, hu1, rfl⟩ := ha
  have hrun := calls_of_runS (P := Try.prog) (v := ⟨fun n => ([((lm x 0 : Nat) : Int), ((lm x 1 : Nat) : Int), ((lm x 2 : Nat) : Int), ((lm x 3 : Nat) : Int)] : List Int).getD n 0, fun n => ([false, false, false, false, false, true, true] : List Bool).getD n false, fun n => ([[], [], [], [], l] : List (List Int)).getD n [], fun n => ([] : List (List (List Int))).getD n [], L0, w⟩) (gs := []) (fuel := 3000) (nv := 5) (args := [(.agg [.int .u64 (.var 0), .int .u64 (.var 1), .int .u64 (.var 2), .int .u64 (.var 3)]), (.imm (.lvar 4) none)]) (ora := [some true, some true]) (sums := []) (r := ⟨[(.val (.sc (.bool (.var 6))))], [.call 17 [] (.one (.sc (.bool (.var 5)))), .dec (.var 5) true, .dec (.cmp .gtr (.len (.lvar 4)) (.lit 100)) true, .call 17 [] (.one (.sc (.bool (.var 6))))], []⟩) Try.func8 (by kernel_rfl)
    (evs_of ⟨?_, ?_, ?_, ?_, trivial⟩) (by simp) (GsOk.nil _) hK hG _ (⟨_, _, rfl, rfl, u1, _, rfl, ⟨hu1, fun b hb => by cases hb⟩, rfl⟩)
  · exact runS_eq hrun (by rfl)
  · exact CallP.g (awake03_c)
  · first | (simp [Ev.holds, Bx.den, cmpD, I.den, I.ldn]; done) | (simp [Ev.holds, Bx.den, cmpD, I.den, I.ldn]; omega)
  · first | exact dec_gt_t (a := ((l.length : Nat) : Int)) (b := (100 : Int)) rfl rfl (by omega) | (first | (simp [Ev.holds, Bx.den, cmpD, I.den, I.ldn]; done) | (simp [Ev.holds, Bx.den, cmpD, I.den, I.ldn]; omega))
  · exact CallP.g (awake03_c)

set_option maxHeartbeats 4000000 in
theorem codecBack_yes (x : Nat) (l : List Int) (hx : x < N) (hb : IsBytes l) (hl : l.length ≤ 100) (h32 : l.length = 32) : CallS Try.prog (L0) 8 [.val (.agg #[.int .u64 (lm x 0), .int .u64 (lm x 1), .int .u64 (lm x 2), .int .u64 (lm x 3)]), .bytes l] [.val (.bool true)] := by
  refine callS_of Try.func8 (by kernel_rfl) (by kernel_rfl) (fun w us hK hG ha => ?_)
  obtain ⟨_, _, rfl, rfl, u1, _, rfl, hu1, rfl⟩ := ha
  obtain ⟨r1, hr1⟩ : ∃ r : List Int, r = (putN 32 x).reverse := ⟨_, rfl⟩
  obtain ⟨r2, hr2⟩ : ∃ r : Nat, r = if r1.length = 32 then leN r1.reverse else 0 := ⟨_, rfl⟩
  obtain ⟨r3, hr3⟩ : ∃ r : Bool, r = decide (r1.length = 32) := ⟨_, rfl⟩
  obtain ⟨r4, hr4⟩ : ∃ r : List Int, r = putN 32 x := ⟨_, rfl⟩
  obtain ⟨r5, hr5⟩ : ∃ r : Nat, r = if r4.length = 32 then leN r4 else 0 := ⟨_, rfl⟩
  obtain ⟨r6, hr6⟩ : ∃ r : Bool, r = decide (r4.length = 32) := ⟨_, rfl⟩
  obtain ⟨r7, hr7⟩ : ∃ r : List Int, r = (putN 32 x).reverse := ⟨_, rfl⟩
  obtain ⟨r8, hr8⟩ : ∃ r : List Int, r = r7.reverse := ⟨_, rfl⟩
  obtain ⟨r9, hr9⟩ : ∃ r : List Int, r = putN 32 x := ⟨_, rfl⟩
  obtain ⟨r10, hr10⟩ : ∃ r : Bool, r = decide (r8 = r9) := ⟨_, rfl⟩
  obtain ⟨r11, hr11⟩ : ∃ r : Nat, r = if l.length = 32 then leN l.reverse else 0 := ⟨_, rfl⟩
  obtain ⟨r12, hr12⟩ : ∃ r : Bool, r = decide (l.length = 32) := ⟨_, rfl⟩
  obtain ⟨r13, hr13⟩ : ∃ r : Nat, r = if l.length = 32 then leN l else 0 := ⟨_, rfl⟩
  obtain ⟨r14, hr14⟩ : ∃ r : Bool, r = decide (l.length = 32) := ⟨_, rfl⟩
  obtain ⟨r15, hr15⟩ : ∃ r : List Int, r = (putN 32 r11).reverse := ⟨_, rfl⟩
  obtain ⟨r16, hr16⟩ : ∃ r : Bool, r = decide (r15 = l) := ⟨_, rfl⟩
  obtain ⟨r17, hr17⟩ : ∃ r : List Int, r = putN 32 r13 := ⟨_, rfl⟩
  obtain ⟨r18, hr18⟩ : ∃ r : Bool, r = decide (r17 = l) := ⟨_, rfl⟩
  have hl' : l.length ≤ 1099511627776 := by omega
  have len1 : r1.length = 32 := by rw [hr1, List.length_reverse, putN_length]
  have len4 : r4.length = 32 := by rw [hr4, putN_length]
  have hb1 : IsBytes r1 := by rw [hr1]; exact (putN_bytes _ _).reverse
  have hb4 : IsBytes r4 := by rw [hr4]; exact putN_bytes _ _
  have e2 : r2 = x := by rw [hr2, if_pos len1, hr1, List.reverse_reverse, putN32 hx]
  have e3 : r3 = true := by rw [hr3]; exact decide_eq_true len1
  have e5 : r5 = x := by rw [hr5, if_pos len4, hr4, putN32 hx]
  have e6 : r6 = true := by rw [hr6]; exact decide_eq_true len4
  have len7 : r7.length = 32 := by rw [hr7, List.length_reverse, putN_length]
  have len8 : r8.length = 32 := by rw [hr8, List.length_reverse, len7]
  have e10 : r10 = true := by rw [hr10]; exact decide_eq_true (by rw [hr8, hr7, hr9, List.reverse_reverse])
  have e12 : r12 = true := by rw [hr12]; exact decide_eq_true h32
  have e14 : r14 = true := by rw [hr14]; exact decide_eq_true h32
  have len15 : r15.length = 32 := by rw [hr15, List.length_reverse, putN_length]
  have len17 : r17.length = 32 := by rw [hr17, putN_length]
  have e16 : r16 = true := by
    rw [hr16]
    refine decide_eq_true ?_
    rw [hr15, hr11, if_pos h32]
    have := putN_leN hb.reverse
    rw [List.length_reverse, h32] at this
    rw [this, List.reverse_reverse]
  have e18 : r18 = true := by
    rw [hr18]
    refine decide_eq_true ?_
    rw [hr17, hr13, if_pos h32]
    have := putN_leN hb
    rw [h32] at this
    exact this
  have hrun := calls_of_runS (P := Try.prog) (v := ⟨fun n => ([((lm x 0 : Nat) : Int), ((lm x 1 : Nat) : Int), ((lm x 2 : Nat) : Int), ((lm x 3 : Nat) : Int), 0, 0, 0, ((lm r2 0 : Nat) : Int), ((lm r2 1 : Nat) : Int), ((lm r2 2 : Nat) : Int), ((lm r2 3 : Nat) : Int), 0, 0, ((lm r5 0 : Nat) : Int), ((lm r5 1 : Nat) : Int), ((lm r5 2 : Nat) : Int), ((lm r5 3 : Nat) : Int), 0, 0, 0, 0, 0, ((lm r11 0 : Nat) : Int), ((lm r11 1 : Nat) : Int), ((lm r11 2 : Nat) : Int), ((lm r11 3 : Nat) : Int), 0, ((lm r13 0 : Nat) : Int), ((lm r13 1 : Nat) : Int), ((lm r13 2 : Nat) : Int), ((lm r13 3 : Nat) : Int)] : List Int).getD n 0, fun n => ([false, false, false, false, false, true, false, false, false, false, false, r3, false, false, false, false, false, r6, false, false, false, r10, false, false, false, false, r12, false, false, false, false, r14, false, r16, false, r18] : List Bool).getD n false, fun n => ([[], [], [], [], l, [], r1, [], [], [], [], [], r4, [], [], [], [], [], r7, r8, r9, [], [], [], [], [], [], [], [], [], [], [], r15, [], r17] : List (List Int)).getD n [], fun n => ([] : List (List (List Int))).getD n [], L0, w⟩) (gs := []) (fuel := 3000) (nv := 5) (args := [(.agg [.int .u64 (.var 0), .int .u64 (.var 1), .int .u64 (.var 2), .int .u64 (.var 3)]), (.imm (.lvar 4) none)]) (ora := [some true, some false, some true, some true, some false, some false, some true, some true, some true, some true, some true, some true]) (sums := []) (r := ⟨[(.val (.sc (.bool (.lit true))))], [.call 17 [] (.one (.sc (.bool (.var 5)))), .dec (.var 5) true, .dec (.cmp .gtr (.len (.lvar 4)) (.lit 100)) false, .callS 16 [(.val (.agg [.int .u64 (.var 0), .int .u64 (.var 1), .int .u64 (.var 2), .int .u64 (.var 3)]))] [(.fresh 5 (.lvar 6) (.lit 0) (.len (.lvar 6)) true)], .callS 28 [(.bytes (.lvar 6))] [(.val (.agg [.int .u64 (.var 7), .int .u64 (.var 8), .int .u64 (.var 9), .int .u64 (.var 10)])), (.val (.sc (.bool (.var 11))))], .dec (.var 11) true, .callS 30 [(.val (.agg [.int .u64 (.var 0), .int .u64 (.var 1), .int .u64 (.var 2), .int .u64 (.var 3)]))] [(.fresh 5 (.lvar 12) (.lit 0) (.len (.lvar 12)) true)], .callS 29 [(.bytes (.lvar 12))] [(.val (.agg [.int .u64 (.var 13), .int .u64 (.var 14), .int .u64 (.var 15), .int .u64 (.var 16)])), (.val (.sc (.bool (.var 17))))], .dec (.var 17) true, .dec (.not (.and (.cmp .eql (.var 7) (.var 0)) (.and (.cmp .eql (.var 8) (.var 1)) (.and (.cmp .eql (.var 9) (.var 2)) (.cmp .eql (.var 10) (.var 3)))))) false, .dec (.not (.and (.cmp .eql (.var 13) (.var 0)) (.and (.cmp .eql (.var 14) (.var 1)) (.and (.cmp .eql (.var 15) (.var 2)) (.cmp .eql (.var 16) (.var 3)))))) false, .callS 16 [(.val (.agg [.int .u64 (.var 0), .int .u64 (.var 1), .int .u64 (.var 2), .int .u64 (.var 3)]))] [(.fresh 5 (.lvar 18) (.lit 0) (.len (.lvar 18)) true)], .callS 31 [(.bytes (.lvar 18))] [(.fresh 5 (.lvar 19) (.lit 0) (.len (.lvar 19)) true)], .callS 30 [(.val (.agg [.int .u64 (.var 0), .int .u64 (.var 1), .int .u64 (.var 2), .int .u64 (.var 3)]))] [(.fresh 5 (.lvar 20) (.lit 0) (.len (.lvar 20)) true)], .callS 25 [(.bytes (.lvar 19)), (.bytes (.lvar 20))] [(.val (.sc (.bool (.var 21))))], .dec (.var 21) true, .callS 28 [(.bytes (.lvar 4))] [(.val (.agg [.int .u64 (.var 22), .int .u64 (.var 23), .int .u64 (.var 24), .int .u64 (.var 25)])), (.val (.sc (.bool (.var 26))))], .dec (.var 26) true, .callS 29 [(.bytes (.lvar 4))] [(.val (.agg [.int .u64 (.var 27), .int .u64 (.var 28), .int .u64 (.var 29), .int .u64 (.var 30)])), (.val (.sc (.bool (.var 31))))], .dec (.var 31) true, .dec (.cmp .eql (.len (.lvar 4)) (.lit 32)) true, .callS 16 [(.val (.agg [.int .u64 (.var 22), .int .u64 (.var 23), .int .u64 (.var 24), .int .u64 (.var 25)]))] [(.fresh 5 (.lvar 32) (.lit 0) (.len (.lvar 32)) true)], .callS 25 [(.bytes (.lvar 32)), (.bytes (.lvar 4))] [(.val (.sc (.bool (.var 33))))], .dec (.var 33) true, .callS 30 [(.val (.agg [.int .u64 (.var 27), .int .u64 (.var 28), .int .u64 (.var 29), .int .u64 (.var 30)]))] [(.fresh 5 (.lvar 34) (.lit 0) (.len (.lvar 34)) true)], .callS 25 [(.bytes (.lvar 34)), (.bytes (.lvar 4))] [(.val (.sc (.bool (.var 35))))], .dec (.var 35) true], []⟩) Try.func8 (by kernel_rfl)
    (evs_of ⟨?_, ?_, ?_, ?_, ?_, ?_, ?_, ?_, ?_, ?_, ?_, ?_, ?_, ?_, ?_, ?_, ?_, ?_, ?_, ?_, ?_, ?_, ?_, ?_, ?_, ?_, ?_, trivial⟩) (by simp) (GsOk.nil _) hK hG _ (⟨_, _, rfl, rfl, u1, _, rfl, ⟨hu1, fun b hb => by cases hb⟩, rfl⟩)
  · exact runS_eq hrun (by rfl)
  · exact CallP.g (awake03_c)
  · first | (simp [Ev.holds, Bx.den, cmpD, I.den, I.ldn]; done) | (simp [Ev.holds, Bx.den, cmpD, I.den, I.ldn]; omega)
  · first | exact dec_gt_f (a := ((l.length : Nat) : Int)) (b := (100 : Int)) rfl rfl (by omega) | (first | (simp [Ev.holds, Bx.den, cmpD, I.den, I.ldn]; done) | (simp [Ev.holds, Bx.den, cmpD, I.den, I.ldn]; omega))
  · exact CallS.g (putb_s x hr1)
  · exact CallS.g (big_s r1 (by first | assumption | (simp only [*]; first | exact putN_bytes _ _ | exact (putN_bytes _ _).reverse | (apply IsBytes.reverse; assumption))) (by first | assumption | omega | (simp; omega) | (simp only [List.length_take, List.length_drop, List.length_append]; omega)) hr2 hr3)
  · (show r3 = true; exact e3)
  · exact CallS.g (putl_s x hr4)
  · exact CallS.g (little_s r4 (by first | assumption | (simp only [*]; first | exact putN_bytes _ _ | exact (putN_bytes _ _).reverse | (apply IsBytes.reverse; assumption))) hr5 hr6)
  · (show r6 = true; exact e6)
  · (simp [Ev.holds, Bx.den, cmpD, I.den, I.ldn, e2]; done)
  · (simp [Ev.holds, Bx.den, cmpD, I.den, I.ldn, e5]; done)
  · exact CallS.g (putb_s x hr7)
  · exact CallS.g (turned_s r7 (by first | assumption | omega | (simp; omega) | (simp only [List.length_take, List.length_drop, List.length_append]; omega)) hr8)
  · exact CallS.g (putl_s x hr9)
  · exact CallS.g (same_s r8 r9 (by first | assumption | omega | (simp; omega) | (simp only [List.length_take, List.length_drop, List.length_append]; omega)) hr10)
  · (show r10 = true; exact e10)
  · exact CallS.g (big_s l (by first | assumption | (simp only [*]; first | exact putN_bytes _ _ | exact (putN_bytes _ _).reverse | (apply IsBytes.reverse; assumption))) (by first | assumption | omega | (simp; omega) | (simp only [List.length_take, List.length_drop, List.length_append]; omega)) hr11 hr12)
  · (show r12 = true; exact e12)
  · exact CallS.g (little_s l (by first | assumption | (simp only [*]; first | exact putN_bytes _ _ | exact (putN_bytes _ _).reverse | (apply IsBytes.reverse; assumption))) hr13 hr14)
  · (show r14 = true; exact e14)
  · first | exact dec_eq_t (a := ((l.length : Nat) : Int)) (b := (32 : Int)) rfl rfl (by omega) | (first | (simp [Ev.holds, Bx.den, cmpD, I.den, I.ldn]; done) | (simp [Ev.holds, Bx.den, cmpD, I.den, I.ldn]; omega))
  · exact CallS.g (putb_s r11 hr15)
  · exact CallS.g (same_s r15 l (by first | assumption | omega | (simp; omega) | (simp only [List.length_take, List.length_drop, List.length_append]; omega)) hr16)
  · (show r16 = true; exact e16)
  · exact CallS.g (putl_s r13 hr17)
  · exact CallS.g (same_s r17 l (by first | assumption | omega | (simp; omega) | (simp only [List.length_take, List.length_drop, List.length_append]; omega)) hr18)
  · (show r18 = true; exact e18)

set_option maxHeartbeats 4000000 in
theorem codecBack_no (x : Nat) (l : List Int) (hx : x < N) (hb : IsBytes l) (hl : l.length ≤ 100) (h32 : ¬ l.length = 32) : CallS Try.prog (L0) 8 [.val (.agg #[.int .u64 (lm x 0), .int .u64 (lm x 1), .int .u64 (lm x 2), .int .u64 (lm x 3)]), .bytes l] [.val (.bool true)] := by
  refine callS_of Try.func8 (by kernel_rfl) (by kernel_rfl) (fun w us hK hG ha => ?_)
  obtain ⟨_, _, rfl, rfl, u1, _, rfl, hu1, rfl⟩ := ha
  obtain ⟨r1, hr1⟩ : ∃ r : List Int, r = (putN 32 x).reverse := ⟨_, rfl⟩
  obtain ⟨r2, hr2⟩ : ∃ r : Nat, r = if r1.length = 32 then leN r1.reverse else 0 := ⟨_, rfl⟩
  obtain ⟨r3, hr3⟩ : ∃ r : Bool, r = decide (r1.length = 32) := ⟨_, rfl⟩
  obtain ⟨r4, hr4⟩ : ∃ r : List Int, r = putN 32 x := ⟨_, rfl⟩
  obtain ⟨r5, hr5⟩ : ∃ r : Nat, r = if r4.length = 32 then leN r4 else 0 := ⟨_, rfl⟩
  obtain ⟨r6, hr6⟩ : ∃ r : Bool, r = decide (r4.length = 32) := ⟨_, rfl⟩
  obtain ⟨r7, hr7⟩ : ∃ r : List Int, r = (putN 32 x).reverse := ⟨_, rfl⟩
  obtain ⟨r8, hr8⟩ : ∃ r : List Int, r = r7.reverse := ⟨_, rfl⟩
  obtain ⟨r9, hr9⟩ : ∃ r : List Int, r = putN 32 x := ⟨_, rfl⟩
  obtain ⟨r10, hr10⟩ : ∃ r : Bool, r = decide (r8 = r9) := ⟨_, rfl⟩
  obtain ⟨r11, hr11⟩ : ∃ r : Nat, r = if l.length = 32 then leN l.reverse else 0 := ⟨_, rfl⟩
  obtain ⟨r12, hr12⟩ : ∃ r : Bool, r = decide (l.length = 32) := ⟨_, rfl⟩
  obtain ⟨r13, hr13⟩ : ∃ r : Nat, r = if l.length = 32 then leN l else 0 := ⟨_, rfl⟩
  obtain ⟨r14, hr14⟩ : ∃ r : Bool, r = decide (l.length = 32) := ⟨_, rfl⟩
  have hl' : l.length ≤ 1099511627776 := by omega
  have len1 : r1.length = 32 := by rw [hr1, List.length_reverse, putN_length]
  have len4 : r4.length = 32 := by rw [hr4, putN_length]
  have hb1 : IsBytes r1 := by rw [hr1]; exact (putN_bytes _ _).reverse
  have hb4 : IsBytes r4 := by rw [hr4]; exact putN_bytes _ _
  have e2 : r2 = x := by rw [hr2, if_pos len1, hr1, List.reverse_reverse, putN32 hx]
  have e3 : r3 = true := by rw [hr3]; exact decide_eq_true len1
  have e5 : r5 = x := by rw [hr5, if_pos len4, hr4, putN32 hx]
  have e6 : r6 = true := by rw [hr6]; exact decide_eq_true len4
  have len7 : r7.length = 32 := by rw [hr7, List.length_reverse, putN_length]
  have len8 : r8.length = 32 := by rw [hr8, List.length_reverse, len7]
  have e10 : r10 = true := by rw [hr10]; exact decide_eq_true (by rw [hr8, hr7, hr9, List.reverse_reverse])
  have e12 : r12 = false := by rw [hr12]; exact decide_eq_false h32
  have e14 : r14 = false := by rw [hr14]; exact decide_eq_false h32
  have hrun := calls_of_runS (P := Try.prog) (v := ⟨fun n => ([((lm x 0 : Nat) : Int), ((lm x 1 : Nat) : Int), ((lm x 2 : Nat) : Int), ((lm x 3 : Nat) : Int), 0, 0, 0, ((lm r2 0 : Nat) : Int), ((lm r2 1 : Nat) : Int), ((lm r2 2 : Nat) : Int), ((lm r2 3 : Nat) : Int), 0, 0, ((lm r5 0 : Nat) : Int), ((lm r5 1 : Nat) : Int), ((lm r5 2 : Nat) : Int), ((lm r5 3 : Nat) : Int), 0, 0, 0, 0, 0, ((lm r11 0 : Nat) : Int), ((lm r11 1 : Nat) : Int), ((lm r11 2 : Nat) : Int), ((lm r11 3 : Nat) : Int), 0, ((lm r13 0 : Nat) : Int), ((lm r13 1 : Nat) : Int), ((lm r13 2 : Nat) : Int), ((lm r13 3 : Nat) : Int)] : List Int).getD n 0, fun n => ([false, false, false, false, false, true, false, false, false, false, false, r3, false, false, false, false, false, r6, false, false, false, r10, false, false, false, false, r12, false, false, false, false, r14] : List Bool).getD n false, fun n => ([[], [], [], [], l, [], r1, [], [], [], [], [], r4, [], [], [], [], [], r7, r8, r9] : List (List Int)).getD n [], fun n => ([] : List (List (List Int))).getD n [], L0, w⟩) (gs := []) (fuel := 3000) (nv := 5) (args := [(.agg [.int .u64 (.var 0), .int .u64 (.var 1), .int .u64 (.var 2), .int .u64 (.var 3)]), (.imm (.lvar 4) none)]) (ora := [some true, some false, some true, some true, some false, some false, some true, some false, some false, some false]) (sums := []) (r := ⟨[(.val (.sc (.bool (.lit true))))], [.call 17 [] (.one (.sc (.bool (.var 5)))), .dec (.var 5) true, .dec (.cmp .gtr (.len (.lvar 4)) (.lit 100)) false, .callS 16 [(.val (.agg [.int .u64 (.var 0), .int .u64 (.var 1), .int .u64 (.var 2), .int .u64 (.var 3)]))] [(.fresh 5 (.lvar 6) (.lit 0) (.len (.lvar 6)) true)], .callS 28 [(.bytes (.lvar 6))] [(.val (.agg [.int .u64 (.var 7), .int .u64 (.var 8), .int .u64 (.var 9), .int .u64 (.var 10)])), (.val (.sc (.bool (.var 11))))], .dec (.var 11) true, .callS 30 [(.val (.agg [.int .u64 (.var 0), .int .u64 (.var 1), .int .u64 (.var 2), .int .u64 (.var 3)]))] [(.fresh 5 (.lvar 12) (.lit 0) (.len (.lvar 12)) true)], .callS 29 [(.bytes (.lvar 12))] [(.val (.agg [.int .u64 (.var 13), .int .u64 (.var 14), .int .u64 (.var 15), .int .u64 (.var 16)])), (.val (.sc (.bool (.var 17))))], .dec (.var 17) true, .dec (.not (.and (.cmp .eql (.var 7) (.var 0)) (.and (.cmp .eql (.var 8) (.var 1)) (.and (.cmp .eql (.var 9) (.var 2)) (.cmp .eql (.var 10) (.var 3)))))) false, .dec (.not (.and (.cmp .eql (.var 13) (.var 0)) (.and (.cmp .eql (.var 14) (.var 1)) (.and (.cmp .eql (.var 15) (.var 2)) (.cmp .eql (.var 16) (.var 3)))))) false, .callS 16 [(.val (.agg [.int .u64 (.var 0), .int .u64 (.var 1), .int .u64 (.var 2), .int .u64 (.var 3)]))] [(.fresh 5 (.lvar 18) (.lit 0) (.len (.lvar 18)) true)], .callS 31 [(.bytes (.lvar 18))] [(.fresh 5 (.lvar 19) (.lit 0) (.len (.lvar 19)) true)], .callS 30 [(.val (.agg [.int .u64 (.var 0), .int .u64 (.var 1), .int .u64 (.var 2), .int .u64 (.var 3)]))] [(.fresh 5 (.lvar 20) (.lit 0) (.len (.lvar 20)) true)], .callS 25 [(.bytes (.lvar 19)), (.bytes (.lvar 20))] [(.val (.sc (.bool (.var 21))))], .dec (.var 21) true, .callS 28 [(.bytes (.lvar 4))] [(.val (.agg [.int .u64 (.var 22), .int .u64 (.var 23), .int .u64 (.var 24), .int .u64 (.var 25)])), (.val (.sc (.bool (.var 26))))], .dec (.var 26) false, .callS 29 [(.bytes (.lvar 4))] [(.val (.agg [.int .u64 (.var 27), .int .u64 (.var 28), .int .u64 (.var 29), .int .u64 (.var 30)])), (.val (.sc (.bool (.var 31))))], .dec (.var 31) false, .dec (.cmp .eql (.len (.lvar 4)) (.lit 32)) false], []⟩) Try.func8 (by kernel_rfl)
    (evs_of ⟨?_, ?_, ?_, ?_, ?_, ?_, ?_, ?_, ?_, ?_, ?_, ?_, ?_, ?_, ?_, ?_, ?_, ?_, ?_, ?_, ?_, trivial⟩) (by simp) (GsOk.nil _) hK hG _ (⟨_, _, rfl, rfl, u1, _, rfl, ⟨hu1, fun b hb => by cases hb⟩, rfl⟩)
  · exact runS_eq hrun (by rfl)
  · exact CallP.g (awake03_c)
  · first | (simp [Ev.holds, Bx.den, cmpD, I.den, I.ldn]; done) | (simp [Ev.holds, Bx.den, cmpD, I.den, I.ldn]; omega)
  · first | exact dec_gt_f (a := ((l.length : Nat) : Int)) (b := (100 : Int)) rfl rfl (by omega) | (first | (simp [Ev.holds, Bx.den, cmpD, I.den, I.ldn]; done) | (simp [Ev.holds, Bx.den, cmpD, I.den, I.ldn]; omega))
  · exact CallS.g (putb_s x hr1)
  · exact CallS.g (big_s r1 (by first | assumption | (simp only [*]; first | exact putN_bytes _ _ | exact (putN_bytes _ _).reverse | (apply IsBytes.reverse; assumption))) (by first | assumption | omega | (simp; omega) | (simp only [List.length_take, List.length_drop, List.length_append]; omega)) hr2 hr3)
  · (show r3 = true; exact e3)
  · exact CallS.g (putl_s x hr4)
  · exact CallS.g (little_s r4 (by first | assumption | (simp only [*]; first | exact putN_bytes _ _ | exact (putN_bytes _ _).reverse | (apply IsBytes.reverse; assumption))) hr5 hr6)
  · (show r6 = true; exact e6)
  · (simp [Ev.holds, Bx.den, cmpD, I.den, I.ldn, e2]; done)
  · (simp [Ev.holds, Bx.den, cmpD, I.den, I.ldn, e5]; done)
  · exact CallS.g (putb_s x hr7)
  · exact CallS.g (turned_s r7 (by first | assumption | omega | (simp; omega) | (simp only [List.length_take, List.length_drop, List.length_append]; omega)) hr8)
  · exact CallS.g (putl_s x hr9)
  · exact CallS.g (same_s r8 r9 (by first | assumption | omega | (simp; omega) | (simp only [List.length_take, List.length_drop, List.length_append]; omega)) hr10)
  · (show r10 = true; exact e10)
  · exact CallS.g (big_s l (by first | assumption | (simp only [*]; first | exact putN_bytes _ _ | exact (putN_bytes _ _).reverse | (apply IsBytes.reverse; assumption))) (by first | assumption | omega | (simp; omega) | (simp only [List.length_take, List.length_drop, List.length_append]; omega)) hr11 hr12)
  · (show r12 = false; exact e12)
  · exact CallS.g (little_s l (by first | assumption | (simp only [*]; first | exact putN_bytes _ _ | exact (putN_bytes _ _).reverse | (apply IsBytes.reverse; assumption))) hr13 hr14)
  · (show r14 = false; exact e14)
  · first | exact dec_eq_f (a := ((l.length : Nat) : Int)) (b := (32 : Int)) rfl rfl (by omega) | (first | (simp [Ev.holds, Bx.den, cmpD, I.den, I.ldn]; done) | (simp [Ev.holds, Bx.den, cmpD, I.den, I.ldn]; omega))

theorem codecBack_walk (x : Nat) (l : List Int) (hx : x < N) (hb : IsBytes l) : CallS Try.prog L0 8 [.val (.agg #[.int .u64 (lm x 0), .int .u64 (lm x 1), .int .u64 (lm x 2), .int .u64 (lm x 3)]), .bytes l] [.val (.bool true)] := by
  by_cases h : l.length ≤ 100
  · by_cases h32 : l.length = 32
    · exact codecBack_yes x l hx hb h h32
    · exact codecBack_no x l hx hb h h32
  · exact codecBack_long x l h

end Go.Proofs.Ytgmbgidcgdammaa
