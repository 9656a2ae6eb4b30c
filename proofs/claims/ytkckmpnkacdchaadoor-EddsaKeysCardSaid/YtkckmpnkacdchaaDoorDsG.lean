/- EddsaKeys, run. -/
import Derived.Test.YtkckmpnkacdchaaDoorDsC
set_option linter.unusedVariables false
set_option linter.unusedSimpArgs false
set_option maxHeartbeats 4000000
namespace Go.Proofs.YtkckmpnkacdchaaDoor
open Go.RowKit Go.Num Go.Sx
abbrev JQ0 : A := .agg [.int .u8 (.var 0), .int .u8 (.var 1), .int .u8 (.var 2), .int .u8 (.var 3), .int .u8 (.var 4), .int .u8 (.var 5), .int .u8 (.var 6), .int .u8 (.var 7), .int .u8 (.var 8), .int .u8 (.var 9), .int .u8 (.var 10), .int .u8 (.var 11), .int .u8 (.var 12), .int .u8 (.var 13), .int .u8 (.var 14), .int .u8 (.var 15), .int .u8 (.var 16), .int .u8 (.var 17), .int .u8 (.var 18), .int .u8 (.var 19), .int .u8 (.var 20), .int .u8 (.var 21), .int .u8 (.var 22), .int .u8 (.var 23), .int .u8 (.var 24), .int .u8 (.var 25), .int .u8 (.var 26), .int .u8 (.var 27), .int .u8 (.var 28), .int .u8 (.var 29), .int .u8 (.var 30), .int .u8 (.var 31)]
abbrev JQ1 : A := .agg [.v 67, .v 68, .v 69, .v 70, .v 71, .v 72, .v 73, .v 74, .bool (.var 75)]
abbrev JQ2 : Bx := .cmp .leq (.lit 32) (.len (.lvar 66))
theorem dec_encP (p : Ed.Pt) : decL (encP p) = (p.x.val, p.y.val, true) := by
  unfold encP
  rw [decL_enc, if_pos (pt_formed p), if_pos (pt_formed p)]
theorem sig_take (s m : List Int) : (sigL s m).take 32 = sigR s m := by
  unfold sigL
  exact List.take_left' (encP_length _)
theorem sig_drop (s m : List Int) : (sigL s m).drop 32 = putN 32 (sigS s m) := by
  unfold sigL
  exact List.drop_left' (encP_length _)
theorem sigS_lt (s m : List Int) : sigS s m < Mo 3 := Nat.mod_lt _ Mo3_pos
theorem sig_num (s m : List Int) : leN ((sigL s m).drop 32) = sigS s m := by
  rw [sig_drop]
  exact putN32 (Nat.lt_trans (sigS_lt s m) Mo3_N)
theorem kdecq_g (Z : TZ) {l l' : List Int} (e : l' = l) (hb : IsBytes l') {X Y : Nat} {k : Bool} (hd : decL l' = (X, Y, k)) : CallS Tryd.prog (LZ Z) 18 [.bytes l] [.val (.agg #[.int .u64 (lm X 0), .int .u64 (lm X 1), .int .u64 (lm X 2), .int .u64 (lm X 3), .int .u64 (lm Y 0), .int .u64 (lm Y 1), .int .u64 (lm Y 2), .int .u64 (lm Y 3), .bool false]), .val (.bool k)] := by
  subst e
  exact rdecode_g Z.v l' hb hd
theorem klittleq_s {l l' : List Int} (e : l' = l) (hb : IsBytes l') (hl : l'.length = 32) {r : Nat} {k : Bool} (hr : r = leN l') (hk : k = true) : CallS Tryd.prog L0 13 [.bytes l] [.val (.agg #[.int .u64 (lm r 0), .int .u64 (lm r 1), .int .u64 (lm r 2), .int .u64 (lm r 3)]), .val (.bool k)] := by
  subst e
  exact rlittle_s l' hb (by rw [if_pos hl]; exact hr) (by rw [hk, decide_eq_true hl])
theorem kbelow_g (Z : TZ) (a : Nat) (ha : a < N) (hz : a < Mz 3) : CallG Tryd.prog (LZ Z) 19 #[.int .i64 (3 : Int), .agg #[.int .u64 (lm a 0), .int .u64 (lm a 1), .int .u64 (lm a 2), .int .u64 (lm a 3)]] (.bool true) := lf (Ts := Z.v) (rbelow_g _ 3 a ha (decide_eq_true hz).symm)
theorem keys_long (s : List Int) (m : List Int) (Z : TZ) (hl : ¬ m.length ≤ 300) : CallS Tryd.prog (LZ Z) 6 [.val (.agg ((List.range 32).map fun i => Value.int .u8 (s.getD i 0)).toArray), .bytes m] [.val (.bool true)] := by
  refine callS_of Tryd.func6 (by kernel_rfl) (by kernel_rfl) (fun w us hK hG ha => ?_)
  obtain ⟨_, _, rfl, rfl, u1, _, rfl, hu1, rfl⟩ := ha
  have hrun := calls_of_runS (P := Tryd.prog) (v := ⟨envS [(32, s)], fun n => ([true, true] : List Bool).getD (n - 33) false, fun n => ([m] : List (List Int)).getD (n - 32) [], fun n => ([] : List (List (List Int))).getD n [], LZ Z, w⟩) (gs := []) (fuel := 3000) (nv := 33) (args := [JQ0, (.imm (.lvar 32) none)]) (ora := [some true, some true, none]) (sums := []) (r := ⟨[(.val (.sc (.bool (.var 34))))], [.call 8 [] (.one (.sc (.bool (.var 33)))), .dec (.var 33) true, .dec (.cmp .gtr (.len (.lvar 32)) (.lit 300)) true, .call 8 [] (.one (.sc (.bool (.var 34))))], []⟩) Tryd.func6 (by kernel_rfl)
    (evs_of ⟨?_, ?_, ?_, ?_, trivial⟩) (by simp) (GsOk.nil _) hK hG _ (⟨_, _, rfl, rfl, u1, _, rfl, ⟨hu1, fun b hb => by cases hb⟩, rfl⟩)
  · exact runS_eq hrun (by rfl)
  · exact awake12_g Z
  · simp [Ev.holds, Bx.den, cmpD, I.den, I.ldn, envI, envB, envL, envP] <;> omega
  · exact dec_gt_t (a := m.length) (b := 300) rfl rfl (by omega)
  · exact awake12_g Z
theorem keys_all (s : List Int) (m : List Int) (Z : TZ) (hs : s.length = 32) (hb : IsBytes s) (hm : IsBytes m) (hml : m.length ≤ 300) (P : List Int) (hP : P = pubL s) (hP3 : P.length = 32) (g1 : List Int) (h1 : g1 = sigL s m) (R0 S0 : List Int) (hR0 : R0 = g1.take 32) (hR1 : R0 = sigR s m) (hS0 : S0 = g1.drop 32) (ax ay rx ry : Nat) (hd1 : decL P = (ax, ay, true)) (hd2 : decL R0 = (rx, ry, true)) (fa : formedB ax ay false = true) (bax : ax < N) (bay : ay < N) (brx : rx < N) (bry : ry < N) (sv : Nat) (hsv : sv = leN S0) (bsv : sv < N) (hz : sv < Mz 3) : CallS Tryd.prog (LZ Z) 6 [.val (.agg ((List.range 32).map fun i => Value.int .u8 (s.getD i 0)).toArray), .bytes m] [.val (.bool true)] := by
  refine callS_of Tryd.func6 (by kernel_rfl) (by kernel_rfl) (fun w us hK hG ha => ?_)
  obtain ⟨_, _, rfl, rfl, u1, _, rfl, hu1, rfl⟩ := ha
  have h64 : g1.length = 64 := by rw [h1]; exact sig_length s m
  have lS : S0.length = 32 := by rw [hS0, List.length_drop]; omega
  have bS : IsBytes S0 := by rw [hS0, h1]; exact fun x hx => sig_bytes s m x (List.mem_of_mem_drop hx)
  have hrun := calls_of_runS (P := Tryd.prog) (v := ⟨envS [(32, s), (2, [0, 0]), (32, P), (25, [0, lm ax 0, lm ax 1, lm ax 2, lm ax 3, lm ay 0, lm ay 1, lm ay 2, lm ay 3, 0, 0, lm rx 0, lm rx 1, lm rx 2, lm rx 3, lm ry 0, lm ry 1, lm ry 2, lm ry 3, 0, 0, lm sv 0, lm sv 1, lm sv 2, lm sv 3])], fun n => ([true, false, false, false, false, false, false, false, false, false, false, false, false, false, false, false, false, false, false, false, false, false, false, false, false, false, false, false, false, false, false, false, false, false, false, false, false, false, false, false, false, false, false, true, false, false, false, false, false, false, false, false, false, true, false, false, false, false, true, true, true] : List Bool).getD (n - 33) false, fun n => ([m, [], [], [], [], [], [], [], [], [], [], [], [], [], [], [], [], [], [], [], [], [], [], [], [], [], [], [], [], [], [], [], [], [], g1] : List (List Int)).getD (n - 32) [], fun n => ([] : List (List (List Int))).getD n [], LZ Z, w⟩) (gs := []) (fuel := 3000) (nv := 33) (args := [JQ0, (.imm (.lvar 32) none)]) (ora := [some true, some false, none, some true, none, some true, none, some true, some true, none]) (sums := []) (r := ⟨[(.val (.sc (.bool (.var 93))))], [.call 8 [] (.one (.sc (.bool (.var 33)))), .dec (.var 33) true, .dec (.cmp .gtr (.len (.lvar 32)) (.lit 300)) false, .call 10 [JQ0] (.one (.agg [.int .u8 (.var 34), .int .u8 (.var 35), .int .u8 (.var 36), .int .u8 (.var 37), .int .u8 (.var 38), .int .u8 (.var 39), .int .u8 (.var 40), .int .u8 (.var 41), .int .u8 (.var 42), .int .u8 (.var 43), .int .u8 (.var 44), .int .u8 (.var 45), .int .u8 (.var 46), .int .u8 (.var 47), .int .u8 (.var 48), .int .u8 (.var 49), .int .u8 (.var 50), .int .u8 (.var 51), .int .u8 (.var 52), .int .u8 (.var 53), .int .u8 (.var 54), .int .u8 (.var 55), .int .u8 (.var 56), .int .u8 (.var 57), .int .u8 (.var 58), .int .u8 (.var 59), .int .u8 (.var 60), .int .u8 (.var 61), .int .u8 (.var 62), .int .u8 (.var 63), .int .u8 (.var 64), .int .u8 (.var 65)])), .callS 9 [(.val JQ0), (.bytes (.lvar 32))] [(.fresh 5 (.lvar 66) (.lit 0) (.len (.lvar 66)) true)], .callS 18 [(.bytes (.cons (.var 34) (.cons (.var 35) (.cons (.var 36) (.cons (.var 37) (.cons (.var 38) (.cons (.var 39) (.cons (.var 40) (.cons (.var 41) (.cons (.var 42) (.cons (.var 43) (.cons (.var 44) (.cons (.var 45) (.cons (.var 46) (.cons (.var 47) (.cons (.var 48) (.cons (.var 49) (.cons (.var 50) (.cons (.var 51) (.cons (.var 52) (.cons (.var 53) (.cons (.var 54) (.cons (.var 55) (.cons (.var 56) (.cons (.var 57) (.cons (.var 58) (.cons (.var 59) (.cons (.var 60) (.cons (.var 61) (.cons (.var 62) (.cons (.var 63) (.cons (.var 64) (.cons (.var 65) .nil)))))))))))))))))))))))))))))))))] [(.val JQ1), (.val (.sc (.bool (.var 76))))], .dec (.var 76) true, .dec JQ2 true, .dec JQ2 true, .callS 18 [(.bytes (.part (.lvar 66) (.lit 0) (.lit 32)))] [(.val (.agg [.v 77, .v 78, .v 79, .v 80, .v 81, .v 82, .v 83, .v 84, .bool (.var 85)])), (.val (.sc (.bool (.var 86))))], .dec (.var 86) true, .dec JQ2 true, .dec (.cmp .leq (.sum (.lit 32) (.dif (.len (.lvar 66)) (.lit 32))) (.len (.lvar 66))) true, .callS 13 [(.bytes (.part (.lvar 66) (.lit 32) (.dif (.len (.lvar 66)) (.lit 32))))] [(.val (.agg [.v 87, .v 88, .v 89, .v 90])), (.val (.sc (.bool (.var 91))))], .call 19 [(.sc (.int .i64 (.lit 3))), (.agg [.v 87, .v 88, .v 89, .v 90])] (.one (.sc (.bool (.var 92)))), .dec (.var 92) true, .dec (.cmp .eql (.len (.lvar 66)) (.lit 64)) true, .call 20 [JQ1] (.one (.sc (.bool (.var 93))))], []⟩) Tryd.func6 (by kernel_rfl)
    (evs_of ⟨?_, ?_, ?_, ?_, ?_, ?_, ?_, ?_, ?_, ?_, ?_, ?_, ?_, ?_, ?_, ?_, ?_, ?_, trivial⟩) (by simp) (GsOk.nil _) hK hG _ (⟨_, _, rfl, rfl, u1, _, rfl, ⟨hu1, fun b hb => by cases hb⟩, rfl⟩)
  · exact runS_eq hrun (by rfl)
  · exact awake12_g Z
  · simp [Ev.holds, Bx.den, cmpD, I.den, I.ldn, envI, envB, envL, envP] <;> omega
  · exact dec_gt_f (a := m.length) (b := 300) rfl rfl (by omega)
  · exact public_g Z s hs hb hP
  · exact sign_g Z s m hs hb hm hml h1
  · exact kdecq_g Z (l' := P) (list32' hP3).symm (by rw [hP]; exact pub_bytes s) hd1
  · simp [Ev.holds, Bx.den, cmpD, I.den, I.ldn, envI, envB, envL, envP] <;> omega
  · exact dec_le_t (a := 32) (b := g1.length) rfl rfl (by omega)
  · exact dec_le_t (a := 32) (b := g1.length) rfl rfl (by omega)
  · exact kdecq_g Z (l' := R0) (show R0 = ((g1.drop ((0 : Int)).toNat).take ((32 : Int)).toNat) from by rw [hR0]; simp) (by rw [hR1]; exact encP_bytes _) hd2
  · simp [Ev.holds, Bx.den, cmpD, I.den, I.ldn, envI, envB, envL, envP] <;> omega
  · exact dec_le_t (a := 32) (b := g1.length) rfl rfl (by omega)
  · exact dec_le_t (a := ((32 : Int) + (((g1.length : Nat) : Int) - (32 : Int)))) (b := g1.length) rfl rfl (by omega)
  · exact CallS.g (klittleq_s (l' := S0) (show S0 = ((g1.drop ((32 : Int)).toNat).take ((((g1.length : Nat) : Int) - (32 : Int))).toNat) from by rw [hS0]; symm; apply List.take_of_length_le; simp [h64]) bS lS hsv rfl)
  · exact kbelow_g Z sv bsv hz
  · simp [Ev.holds, Bx.den, cmpD, I.den, I.ldn, envI, envB, envL, envP] <;> omega
  · exact dec_eq_t (a := g1.length) (b := 64) rfl rfl (by omega)
  · exact rformed_g Z.q ax ay false bax bay fa.symm
theorem wEddsaKeys (s m : List Int) (Z : TZ) (hs : s.length = 32 ∧ IsBytes s) (hm : IsBytes m) : CallS Tryd.prog (LZ Z) 6 [.val (.agg ((List.range 32).map fun i => Value.int .u8 (s.getD i 0)).toArray), .bytes m] [.val (.bool true)] := by
  by_cases hl : m.length ≤ 300
  · have z3 : Mz 3 = Mo 3 := by decide +kernel
    have hv := sigS_lt s m
    have pv (p : Ed.Pt) : p.x.val < N ∧ p.y.val < N := ⟨Nat.lt_trans p.x.isLt PN, Nat.lt_trans p.y.isLt PN⟩
    exact keys_all s m Z hs.1 hs.2 hm hl _ rfl (pub_length s) _ rfl _ _ rfl (sig_take s m) rfl _ _ _ _ (dec_encP _) ((congrArg decL (sig_take s m)).trans (dec_encP _)) (pt_formed _) (pv _).1 (pv _).2 (pv _).1 (pv _).2 _ rfl (by rw [sig_num]; exact Nat.lt_trans hv Mo3_N) (by rw [sig_num, z3]; exact hv)
  · exact keys_long s m Z hl
end Go.Proofs.YtkckmpnkacdchaaDoor
