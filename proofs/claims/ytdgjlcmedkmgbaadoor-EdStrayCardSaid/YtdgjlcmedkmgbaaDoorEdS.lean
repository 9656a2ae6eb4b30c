/- EdStray, run. -/
import Derived.Test.YtdgjlcmedkmgbaaDoorEdA
import Derived.Test.YtdgjlcmedkmgbaaDoorEdM
import Derived.Test.YtdgjlcmedkmgbaaDoorEdK
set_option linter.unusedVariables false
set_option linter.unusedSimpArgs false
namespace Go.Proofs.YtdgjlcmedkmgbaaDoor
open Go.RowKit Go.Num Go.Sx
theorem enc_one0 : (putN 32 1).getD ((0 : Int)).toNat 0 = 1 := by decide +kernel
theorem enc_one31 : (putN 32 1).getD ((31 : Int)).toNat 0 = 0 := by decide +kernel
set_option maxHeartbeats 4000000 in
theorem stray_formed (x1 y1 : Nat) (b1 : Bool) (k : Nat) (Ts : TQ) (hx1 : x1 < N) (hy1 : y1 < N) (hk : k < N) (hf : formedB x1 y1 b1 = true) (w : World) (hK : (LE Ts).K ≤ w.heap.size) (hG : (LE Ts).G w) : Calls Tryd.prog 9 #[.agg #[.int .u64 (lm x1 0), .int .u64 (lm x1 1), .int .u64 (lm x1 2), .int .u64 (lm x1 3), .int .u64 (lm y1 0), .int .u64 (lm y1 1), .int .u64 (lm y1 2), .int .u64 (lm y1 3), .bool b1], .agg #[.int .u64 (lm k 0), .int .u64 (lm k 1), .int .u64 (lm k 2), .int .u64 (lm k 3)]] w fun e w' => e = .returned (.bool true) ∧ Below w.heap.size w w' := by
  obtain ⟨r1, hr1⟩ : ∃ r : Bool, r = formedB x1 y1 b1 := ⟨_, rfl⟩
  have hrun := calls_of_runG (P := Tryd.prog) (v := ⟨envI [((lm x1 0 : Nat) : Int), ((lm x1 1 : Nat) : Int), ((lm x1 2 : Nat) : Int), ((lm x1 3 : Nat) : Int), ((lm y1 0 : Nat) : Int), ((lm y1 1 : Nat) : Int), ((lm y1 2 : Nat) : Int), ((lm y1 3 : Nat) : Int), 0, ((lm k 0 : Nat) : Int), ((lm k 1 : Nat) : Int), ((lm k 2 : Nat) : Int), ((lm k 3 : Nat) : Int)], envB [false, false, false, false, false, false, false, false, b1, false, false, false, false, r1, true], envL [], envP [], LE Ts, w⟩) (gs := []) (fuel := 3000) (nv := 13) (args := [(.agg [.v 0, .v 1, .v 2, .v 3, .v 4, .v 5, .v 6, .v 7, .bool (.var 8)]), (.agg [.v 9, .v 10, .v 11, .v 12])]) (ora := [some true]) (sums := []) (res := [(.sc (.bool (.var 14)))]) (ev := [.call 12 [(.agg [.v 0, .v 1, .v 2, .v 3, .v 4, .v 5, .v 6, .v 7, .bool (.var 8)])] (.one (.sc (.bool (.var 13)))), .dec (.var 13) true, .call 11 [] (.one (.sc (.bool (.var 14))))]) (lev := []) Tryd.func9 (by kernel_rfl) (by kernel_rfl)
    (evs_of ⟨?_, ?_, ?_, trivial⟩) (by simp) (GsOk.nil _) hK hG
  · (exact hrun)
  · exact eformed_g Ts x1 y1 b1 (by first | assumption | decide) (by first | assumption | decide) hr1
  · (show r1 = true; rw [hr1]; exact hf)
  · exact awake09_g Ts
set_option maxHeartbeats 4000000 in
theorem stray_none (x1 y1 : Nat) (b1 : Bool) (k : Nat) (Ts : TQ) (hx1 : x1 < N) (hy1 : y1 < N) (hk : k < N) (hf : ¬ formedB x1 y1 b1 = true) (l1 : List Int) (hl1 : l1 = putN 32 1) (w : World) (hK : (LE Ts).K ≤ w.heap.size) (hG : (LE Ts).G w) : Calls Tryd.prog 9 #[.agg #[.int .u64 (lm x1 0), .int .u64 (lm x1 1), .int .u64 (lm x1 2), .int .u64 (lm x1 3), .int .u64 (lm y1 0), .int .u64 (lm y1 1), .int .u64 (lm y1 2), .int .u64 (lm y1 3), .bool b1], .agg #[.int .u64 (lm k 0), .int .u64 (lm k 1), .int .u64 (lm k 2), .int .u64 (lm k 3)]] w fun e w' => e = .returned (.bool true) ∧ Below w.heap.size w w' := by
  obtain ⟨r1, hr1⟩ : ∃ r : Bool, r = formedB x1 y1 b1 := ⟨_, rfl⟩
  obtain ⟨U1, V1, hU1, hV1⟩ : ∃ U V : Nat, U = (Ed.base).x.val ∧ V = (Ed.base).y.val := ⟨_, _, rfl, rfl⟩
  have P1 : ptOf U1 V1 false = Ed.base := by rw [hU1, hV1]; exact ptOf_pt _
  have bU1 : U1 < N := by rw [hU1]; exact Nat.lt_trans (Fin.isLt _) PN
  have bV1 : V1 < N := by rw [hV1]; exact Nat.lt_trans (Fin.isLt _) PN
  obtain ⟨U2, V2, hU2, hV2⟩ : ∃ U V : Nat, U = (ptOf x1 y1 b1 + (Ed.base)).x.val ∧ V = (ptOf x1 y1 b1 + (Ed.base)).y.val := ⟨_, _, rfl, rfl⟩
  have P2 : ptOf U2 V2 false = ptOf x1 y1 b1 + (Ed.base) := by rw [hU2, hV2]; exact ptOf_pt _
  have bU2 : U2 < N := by rw [hU2]; exact Nat.lt_trans (Fin.isLt _) PN
  have bV2 : V2 < N := by rw [hV2]; exact Nat.lt_trans (Fin.isLt _) PN
  obtain ⟨U3, V3, hU3, hV3⟩ : ∃ U V : Nat, U = ((Ed.base) + ptOf x1 y1 b1).x.val ∧ V = ((Ed.base) + ptOf x1 y1 b1).y.val := ⟨_, _, rfl, rfl⟩
  have P3 : ptOf U3 V3 false = (Ed.base) + ptOf x1 y1 b1 := by rw [hU3, hV3]; exact ptOf_pt _
  have bU3 : U3 < N := by rw [hU3]; exact Nat.lt_trans (Fin.isLt _) PN
  have bV3 : V3 < N := by rw [hV3]; exact Nat.lt_trans (Fin.isLt _) PN
  obtain ⟨U4, V4, hU4, hV4⟩ : ∃ U V : Nat, U = (Ed.smul k (ptOf x1 y1 b1)).x.val ∧ V = (Ed.smul k (ptOf x1 y1 b1)).y.val := ⟨_, _, rfl, rfl⟩
  have P4 : ptOf U4 V4 false = Ed.smul k (ptOf x1 y1 b1) := by rw [hU4, hV4]; exact ptOf_pt _
  have bU4 : U4 < N := by rw [hU4]; exact Nat.lt_trans (Fin.isLt _) PN
  have bV4 : V4 < N := by rw [hV4]; exact Nat.lt_trans (Fin.isLt _) PN
  have hz : ptOf x1 y1 b1 = 0 := ptOf_none hf
  have aX : U2 = U1 := by rw [hU2, hU1, hz, Ed.Pt.zero_add]
  have aY : V2 = V1 := by rw [hV2, hV1, hz, Ed.Pt.zero_add]
  have bX : U3 = U1 := by rw [hU3, hU1, hz, Ed.Pt.add_zero]
  have bY : V3 = V1 := by rw [hV3, hV1, hz, Ed.Pt.add_zero]
  have cX : U4 = 0 := by rw [hU4, hz, Ed.smul_pt_zero]; exact zero_val.1
  have cY : V4 = 1 := by rw [hV4, hz, Ed.smul_pt_zero]; exact zero_val.2
  have len1 : l1.length = 32 := by rw [hl1, putN_length]
  have g0 : l1.getD ((0 : Int)).toNat 0 = 1 := by rw [hl1]; exact enc_one0
  have g31 : l1.getD ((31 : Int)).toNat 0 = 0 := by rw [hl1]; exact enc_one31
  have hrun := calls_of_runG (P := Tryd.prog) (v := ⟨envI [((lm x1 0 : Nat) : Int), ((lm x1 1 : Nat) : Int), ((lm x1 2 : Nat) : Int), ((lm x1 3 : Nat) : Int), ((lm y1 0 : Nat) : Int), ((lm y1 1 : Nat) : Int), ((lm y1 2 : Nat) : Int), ((lm y1 3 : Nat) : Int), 0, ((lm k 0 : Nat) : Int), ((lm k 1 : Nat) : Int), ((lm k 2 : Nat) : Int), ((lm k 3 : Nat) : Int), 0, ((lm U1 0 : Nat) : Int), ((lm U1 1 : Nat) : Int), ((lm U1 2 : Nat) : Int), ((lm U1 3 : Nat) : Int), ((lm V1 0 : Nat) : Int), ((lm V1 1 : Nat) : Int), ((lm V1 2 : Nat) : Int), ((lm V1 3 : Nat) : Int), 0, 0, 0, ((lm U2 0 : Nat) : Int), ((lm U2 1 : Nat) : Int), ((lm U2 2 : Nat) : Int), ((lm U2 3 : Nat) : Int), ((lm V2 0 : Nat) : Int), ((lm V2 1 : Nat) : Int), ((lm V2 2 : Nat) : Int), ((lm V2 3 : Nat) : Int), 0, ((lm U3 0 : Nat) : Int), ((lm U3 1 : Nat) : Int), ((lm U3 2 : Nat) : Int), ((lm U3 3 : Nat) : Int), ((lm V3 0 : Nat) : Int), ((lm V3 1 : Nat) : Int), ((lm V3 2 : Nat) : Int), ((lm V3 3 : Nat) : Int), 0, ((lm U4 0 : Nat) : Int), ((lm U4 1 : Nat) : Int), ((lm U4 2 : Nat) : Int), ((lm U4 3 : Nat) : Int), ((lm V4 0 : Nat) : Int), ((lm V4 1 : Nat) : Int), ((lm V4 2 : Nat) : Int), ((lm V4 3 : Nat) : Int)], envB [false, false, false, false, false, false, false, false, b1, false, false, false, false, r1, false, false, false, false, false, false, false, false, false, false, true, false, false, false, false, false, false, false, false, false, false, false, false, false, false, false, false, false, false, false, false, false, false, false, false, false, false, false], envL [[], [], [], [], [], [], [], [], [], [], [], [], [], [], [], [], [], [], [], [], [], [], [], l1], envP [], LE Ts, w⟩) (gs := []) (fuel := 3000) (nv := 13) (args := [(.agg [.v 0, .v 1, .v 2, .v 3, .v 4, .v 5, .v 6, .v 7, .bool (.var 8)]), (.agg [.v 9, .v 10, .v 11, .v 12])]) (ora := [some false, none, some true, none, some true, none, some true, none, some true, some true, some true, none]) (sums := []) (res := [(.sc (.bool (.cmp .eql (.get (.lvar 23) (.lit 31)) (.lit 0))))]) (ev := [.call 12 [(.agg [.v 0, .v 1, .v 2, .v 3, .v 4, .v 5, .v 6, .v 7, .bool (.var 8)])] (.one (.sc (.bool (.var 13)))), .dec (.var 13) false, .call 18 [] (.one (.agg [.v 14, .v 15, .v 16, .v 17, .v 18, .v 19, .v 20, .v 21, .bool (.var 22)])), .callS 25 [(.val (.agg [.v 0, .v 1, .v 2, .v 3, .v 4, .v 5, .v 6, .v 7, .bool (.var 8)]))] [(.fresh 5 (.lvar 23) (.lit 0) (.len (.lvar 23)) true)], .call 11 [] (.one (.sc (.bool (.var 24)))), .dec (.var 24) true, .call 14 [(.agg [.v 0, .v 1, .v 2, .v 3, .v 4, .v 5, .v 6, .v 7, .bool (.var 8)]), (.agg [.v 14, .v 15, .v 16, .v 17, .v 18, .v 19, .v 20, .v 21, .bool (.var 22)])] (.one (.agg [.v 25, .v 26, .v 27, .v 28, .v 29, .v 30, .v 31, .v 32, .bool (.var 33)])), .dec (.and (.and (.cmp .eql (.var 25) (.var 14)) (.and (.cmp .eql (.var 26) (.var 15)) (.and (.cmp .eql (.var 27) (.var 16)) (.cmp .eql (.var 28) (.var 17))))) (.and (.and (.cmp .eql (.var 29) (.var 18)) (.and (.cmp .eql (.var 30) (.var 19)) (.and (.cmp .eql (.var 31) (.var 20)) (.cmp .eql (.var 32) (.var 21))))) (.beq (.var 33) (.var 22)))) true, .call 14 [(.agg [.v 14, .v 15, .v 16, .v 17, .v 18, .v 19, .v 20, .v 21, .bool (.var 22)]), (.agg [.v 0, .v 1, .v 2, .v 3, .v 4, .v 5, .v 6, .v 7, .bool (.var 8)])] (.one (.agg [.v 34, .v 35, .v 36, .v 37, .v 38, .v 39, .v 40, .v 41, .bool (.var 42)])), .dec (.and (.and (.cmp .eql (.var 34) (.var 14)) (.and (.cmp .eql (.var 35) (.var 15)) (.and (.cmp .eql (.var 36) (.var 16)) (.cmp .eql (.var 37) (.var 17))))) (.and (.and (.cmp .eql (.var 38) (.var 18)) (.and (.cmp .eql (.var 39) (.var 19)) (.and (.cmp .eql (.var 40) (.var 20)) (.cmp .eql (.var 41) (.var 21))))) (.beq (.var 42) (.var 22)))) true, .call 16 [(.agg [.v 9, .v 10, .v 11, .v 12]), (.agg [.v 0, .v 1, .v 2, .v 3, .v 4, .v 5, .v 6, .v 7, .bool (.var 8)])] (.one (.agg [.v 43, .v 44, .v 45, .v 46, .v 47, .v 48, .v 49, .v 50, .bool (.var 51)])), .dec (.and (.and (.cmp .eql (.var 43) (.lit 0)) (.and (.cmp .eql (.var 44) (.lit 0)) (.and (.cmp .eql (.var 45) (.lit 0)) (.cmp .eql (.var 46) (.lit 0))))) (.and (.and (.cmp .eql (.var 47) (.lit 1)) (.and (.cmp .eql (.var 48) (.lit 0)) (.and (.cmp .eql (.var 49) (.lit 0)) (.cmp .eql (.var 50) (.lit 0))))) (.beq (.var 51) (.lit false)))) true, .dec (.cmp .eql (.len (.lvar 23)) (.lit 32)) true, .dec (.cmp .lss (.lit 0) (.len (.lvar 23))) true, .dec (.cmp .lss (.lit 0) (.len (.lvar 23))) true, .dec (.cmp .eql (.get (.lvar 23) (.lit 0)) (.lit 1)) true, .dec (.cmp .lss (.lit 31) (.len (.lvar 23))) true, .dec (.cmp .lss (.lit 31) (.len (.lvar 23))) true]) (lev := []) Tryd.func9 (by kernel_rfl) (by kernel_rfl)
    (evs_of ⟨?_, ?_, ?_, ?_, ?_, ?_, ?_, ?_, ?_, ?_, ?_, ?_, ?_, ?_, ?_, ?_, ?_, ?_, trivial⟩) (by simp) (GsOk.nil _) hK hG
  · (refine hrun.mono fun e w' h => ⟨h.1.trans (congrArg (fun z => Ending.returned (Value.bool z)) (show ((l1.getD ((31 : Int)).toNat 0) == (0 : Int)) = true from ?_)), h.2⟩; rw [g31]; rfl)
  · exact eformed_g Ts x1 y1 b1 (by first | assumption | decide) (by first | assumption | decide) hr1
  · (show r1 = false; rw [hr1]; exact Bool.eq_false_iff.2 hf)
  · exact CallP.g (ebase_c (by rw [hU1]; exact base_val.1) (by rw [hV1]; exact base_val.2))
  · exact eencode_g Ts x1 y1 b1 hx1 hy1 (hl1.trans (by unfold encN; rw [if_neg hf]))
  · exact awake09_g Ts
  · first | (simp [Ev.holds, Bx.den, cmpD, I.den, I.ldn, envI, envB, envL, envP]; done) | (simp [Ev.holds, Bx.den, cmpD, I.den, I.ldn, envI, envB, envL, envP]; omega)
  · exact eAdd_g Ts x1 y1 b1 U1 V1 false (by first | assumption | decide) (by first | assumption | decide) (by first | assumption | decide) (by first | assumption | decide) (by rw [P1]; exact hU2) (by rw [P1]; exact hV2)
  · (simp [Ev.holds, Bx.den, cmpD, I.den, I.ldn, envI, envB, envL, envP, aX, aY]; done)
  · exact eAdd_g Ts U1 V1 false x1 y1 b1 (by first | assumption | decide) (by first | assumption | decide) (by first | assumption | decide) (by first | assumption | decide) (by rw [P1]; exact hU3) (by rw [P1]; exact hV3)
  · (simp [Ev.holds, Bx.den, cmpD, I.den, I.ldn, envI, envB, envL, envP, bX, bY]; done)
  · exact eMul_g Ts k x1 y1 b1 (by first | assumption | decide) (by first | assumption | decide) (by first | assumption | decide) hU4 hV4
  · (simp [Ev.holds, Bx.den, cmpD, I.den, I.ldn, envI, envB, envL, envP, cX, cY, lm_zz, one_l0, one_l1, one_l2, one_l3]; done)
  · first | exact dec_eq_t (a := ((l1.length : Nat) : Int)) (b := (32 : Int)) rfl rfl (by omega) | (first | (simp [Ev.holds, Bx.den, cmpD, I.den, I.ldn, envI, envB, envL, envP]; done) | (simp [Ev.holds, Bx.den, cmpD, I.den, I.ldn, envI, envB, envL, envP]; omega))
  · first | exact dec_lt_t (a := (0 : Int)) (b := ((l1.length : Nat) : Int)) rfl rfl (by omega) | (first | (simp [Ev.holds, Bx.den, cmpD, I.den, I.ldn, envI, envB, envL, envP]; done) | (simp [Ev.holds, Bx.den, cmpD, I.den, I.ldn, envI, envB, envL, envP]; omega))
  · first | exact dec_lt_t (a := (0 : Int)) (b := ((l1.length : Nat) : Int)) rfl rfl (by omega) | (first | (simp [Ev.holds, Bx.den, cmpD, I.den, I.ldn, envI, envB, envL, envP]; done) | (simp [Ev.holds, Bx.den, cmpD, I.den, I.ldn, envI, envB, envL, envP]; omega))
  · exact dec_eq_t (a := (l1.getD ((0 : Int)).toNat 0)) (b := (1 : Int)) rfl rfl g0
  · first | exact dec_lt_t (a := (31 : Int)) (b := ((l1.length : Nat) : Int)) rfl rfl (by omega) | (first | (simp [Ev.holds, Bx.den, cmpD, I.den, I.ldn, envI, envB, envL, envP]; done) | (simp [Ev.holds, Bx.den, cmpD, I.den, I.ldn, envI, envB, envL, envP]; omega))
  · first | exact dec_lt_t (a := (31 : Int)) (b := ((l1.length : Nat) : Int)) rfl rfl (by omega) | (first | (simp [Ev.holds, Bx.den, cmpD, I.den, I.ldn, envI, envB, envL, envP]; done) | (simp [Ev.holds, Bx.den, cmpD, I.den, I.ldn, envI, envB, envL, envP]; omega))
theorem wEdStray (x1 y1 : Nat) (b1 : Bool) (k : Nat) (Ts : TQ) (hx1 : x1 < N) (hy1 : y1 < N) (hk : k < N) (w : World) (hK : (LE Ts).K ≤ w.heap.size) (hG : (LE Ts).G w) : Calls Tryd.prog 9 #[.agg #[.int .u64 (lm x1 0), .int .u64 (lm x1 1), .int .u64 (lm x1 2), .int .u64 (lm x1 3), .int .u64 (lm y1 0), .int .u64 (lm y1 1), .int .u64 (lm y1 2), .int .u64 (lm y1 3), .bool b1], .agg #[.int .u64 (lm k 0), .int .u64 (lm k 1), .int .u64 (lm k 2), .int .u64 (lm k 3)]] w fun e w' => e = .returned (.bool true) ∧ Below w.heap.size w w' := by
  by_cases hf : formedB x1 y1 b1 = true
  · exact stray_formed x1 y1 b1 k Ts hx1 hy1 hk hf w hK hG
  · exact stray_none x1 y1 b1 k Ts hx1 hy1 hk hf _ rfl w hK hG
end Go.Proofs.YtdgjlcmedkmgbaaDoor
