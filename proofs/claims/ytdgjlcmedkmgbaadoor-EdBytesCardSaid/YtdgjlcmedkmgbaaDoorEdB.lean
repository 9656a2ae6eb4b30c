/- EdBytes, run. -/
import Derived.Test.YtdgjlcmedkmgbaaDoorEdA
import Derived.Test.YtdgjlcmedkmgbaaDoorEdK
set_option linter.unusedVariables false
set_option linter.unusedSimpArgs false
namespace Go.Proofs.YtdgjlcmedkmgbaaDoor
open Go.RowKit Go.Num Go.Sx
set_option maxHeartbeats 4000000 in
theorem bytes_long (x1 y1 : Nat) (b1 : Bool) (l : List Int) (Ts : TR) (hx1 : x1 < N) (hy1 : y1 < N) (hb : IsBytes l) (hl : ¬ l.length ≤ 100) : CallS Tryd.prog (LE Ts) 10 [.val (.agg #[.int .u64 (lm x1 0), .int .u64 (lm x1 1), .int .u64 (lm x1 2), .int .u64 (lm x1 3), .int .u64 (lm y1 0), .int .u64 (lm y1 1), .int .u64 (lm y1 2), .int .u64 (lm y1 3), .bool b1]), .bytes l] [.val (.bool true)] := by
  refine callS_of Tryd.func10 (by kernel_rfl) (by kernel_rfl) (fun w us hK hG ha => ?_)
  obtain ⟨_, _, rfl, rfl, u1, _, rfl, hu1, rfl⟩ := ha
  have hrun := calls_of_runS (P := Tryd.prog) (v := ⟨envI [((lm x1 0 : Nat) : Int), ((lm x1 1 : Nat) : Int), ((lm x1 2 : Nat) : Int), ((lm x1 3 : Nat) : Int), ((lm y1 0 : Nat) : Int), ((lm y1 1 : Nat) : Int), ((lm y1 2 : Nat) : Int), ((lm y1 3 : Nat) : Int)], envB [false, false, false, false, false, false, false, false, b1, false, true, true], envL [[], [], [], [], [], [], [], [], [], l], envP [], LE Ts, w⟩) (gs := []) (fuel := 3000) (nv := 10) (args := [(.agg [.v 0, .v 1, .v 2, .v 3, .v 4, .v 5, .v 6, .v 7, .bool (.var 8)]), (.imm (.lvar 9) none)]) (ora := [some true, some true, none]) (sums := []) (r := ⟨[(.val (.sc (.bool (.var 11))))], [.call 11 [] (.one (.sc (.bool (.var 10)))), .dec (.var 10) true, .dec (.cmp .gtr (.len (.lvar 9)) (.lit 100)) true, .call 11 [] (.one (.sc (.bool (.var 11))))], []⟩) Tryd.func10 (by kernel_rfl)
    (evs_of ⟨?_, ?_, ?_, ?_, trivial⟩) (by simp) (GsOk.nil _) hK hG _ (⟨_, _, rfl, rfl, u1, _, rfl, ⟨hu1, fun b hb => by cases hb⟩, rfl⟩)
  · exact runS_eq hrun (by rfl)
  · exact awake09_g Ts
  · first | (simp [Ev.holds, Bx.den, cmpD, I.den, I.ldn, envI, envB, envL, envP]; done) | (simp [Ev.holds, Bx.den, cmpD, I.den, I.ldn, envI, envB, envL, envP]; omega)
  · first | exact dec_gt_t (a := ((l.length : Nat) : Int)) (b := (100 : Int)) rfl rfl (by omega) | (first | (simp [Ev.holds, Bx.den, cmpD, I.den, I.ldn, envI, envB, envL, envP]; done) | (simp [Ev.holds, Bx.den, cmpD, I.den, I.ldn, envI, envB, envL, envP]; omega))
  · exact awake09_g Ts
set_option maxHeartbeats 4000000 in
theorem bytes_a (x1 y1 : Nat) (b1 : Bool) (l : List Int) (Ts : TR) (hx1 : x1 < N) (hy1 : y1 < N) (hb : IsBytes l) (hl : l.length ≤ 100) (hk : (decL l).2.2 = true) (hf : formedB x1 y1 b1 = true) : CallS Tryd.prog (LE Ts) 10 [.val (.agg #[.int .u64 (lm x1 0), .int .u64 (lm x1 1), .int .u64 (lm x1 2), .int .u64 (lm x1 3), .int .u64 (lm y1 0), .int .u64 (lm y1 1), .int .u64 (lm y1 2), .int .u64 (lm y1 3), .bool b1]), .bytes l] [.val (.bool true)] := by
  refine callS_of Tryd.func10 (by kernel_rfl) (by kernel_rfl) (fun w us hK hG ha => ?_)
  obtain ⟨_, _, rfl, rfl, u1, _, rfl, hu1, rfl⟩ := ha
  obtain ⟨U1, V1, k1, hd1⟩ : ∃ U V k, decL l = (U, V, k) := ⟨_, _, _, rfl⟩
  have of1 := decL_ok hd1
  have bU1 : U1 < N := Nat.lt_trans (x_lt of1.1) PN
  have bV1 : V1 < N := Nat.lt_trans (y_lt of1.1) PN
  obtain ⟨U2, V2, k2, hd2⟩ : ∃ U V k, decL l = (U, V, k) := ⟨_, _, _, rfl⟩
  have of2 := decL_ok hd2
  have bU2 : U2 < N := Nat.lt_trans (x_lt of2.1) PN
  have bV2 : V2 < N := Nat.lt_trans (y_lt of2.1) PN
  obtain ⟨r3, hr3⟩ : ∃ r : List Int, r = putN 32 (encN x1 y1 b1) := ⟨_, rfl⟩
  obtain ⟨U4, V4, k4, hd4⟩ : ∃ U V k, decL r3 = (U, V, k) := ⟨_, _, _, rfl⟩
  have of4 := decL_ok hd4
  have bU4 : U4 < N := Nat.lt_trans (x_lt of4.1) PN
  have bV4 : V4 < N := Nat.lt_trans (y_lt of4.1) PN
  obtain ⟨r5, hr5⟩ : ∃ r : List Int, r = putN 32 (encN x1 y1 b1) := ⟨_, rfl⟩
  obtain ⟨r6, hr6⟩ : ∃ r : Bool, r = decide (r3 = r5) := ⟨_, rfl⟩
  obtain ⟨r7, hr7⟩ : ∃ r : List Int, r = putN 32 (encN U1 V1 false) := ⟨_, rfl⟩
  obtain ⟨r8, hr8⟩ : ∃ r : Bool, r = decide (r7 = l) := ⟨_, rfl⟩
  obtain ⟨r9, hr9⟩ : ∃ r : Bool, r = formedB x1 y1 b1 := ⟨_, rfl⟩
  obtain ⟨r10, hr10⟩ : ∃ r : Bool, r = formedB x1 y1 b1 := ⟨_, rfl⟩
  have e12 := hd1.symm.trans hd2
  simp only [Prod.mk.injEq] at e12
  obtain ⟨eU, eV, ek⟩ := e12
  have ek1 : k1 = true := by rw [hd1] at hk; exact hk
  have ek2 : k2 = true := by rw [← ek]; exact ek1
  have e4 := hd4.symm.trans ((congrArg decL hr3).trans decL_enc)
  rw [if_pos hf, if_pos hf] at e4
  simp only [Prod.mk.injEq] at e4
  obtain ⟨e4U, e4V, e4k⟩ := e4
  have s2 : r7 = l := by rw [hr7, ← (of1.2.1 ek1).2]; have := putN_leN hb; rw [(of1.2.1 ek1).1] at this; exact this
  have hb1 : b1 = false := (formed_iff.1 hf).1
  have hrun := calls_of_runS (P := Tryd.prog) (v := ⟨envI [((lm x1 0 : Nat) : Int), ((lm x1 1 : Nat) : Int), ((lm x1 2 : Nat) : Int), ((lm x1 3 : Nat) : Int), ((lm y1 0 : Nat) : Int), ((lm y1 1 : Nat) : Int), ((lm y1 2 : Nat) : Int), ((lm y1 3 : Nat) : Int), 0, 0, 0, ((lm U1 0 : Nat) : Int), ((lm U1 1 : Nat) : Int), ((lm U1 2 : Nat) : Int), ((lm U1 3 : Nat) : Int), ((lm V1 0 : Nat) : Int), ((lm V1 1 : Nat) : Int), ((lm V1 2 : Nat) : Int), ((lm V1 3 : Nat) : Int), 0, 0, ((lm U2 0 : Nat) : Int), ((lm U2 1 : Nat) : Int), ((lm U2 2 : Nat) : Int), ((lm U2 3 : Nat) : Int), ((lm V2 0 : Nat) : Int), ((lm V2 1 : Nat) : Int), ((lm V2 2 : Nat) : Int), ((lm V2 3 : Nat) : Int), 0, 0, 0, ((lm U4 0 : Nat) : Int), ((lm U4 1 : Nat) : Int), ((lm U4 2 : Nat) : Int), ((lm U4 3 : Nat) : Int), ((lm V4 0 : Nat) : Int), ((lm V4 1 : Nat) : Int), ((lm V4 2 : Nat) : Int), ((lm V4 3 : Nat) : Int)], envB [false, false, false, false, false, false, false, false, b1, false, true, false, false, false, false, false, false, false, false, false, k1, false, false, false, false, false, false, false, false, false, k2, false, false, false, false, false, false, false, false, false, false, k4, false, r6, false, r8, r9, r10], envL [[], [], [], [], [], [], [], [], [], l, [], [], [], [], [], [], [], [], [], [], [], [], [], [], [], [], [], [], [], [], [], r3, [], [], [], [], [], [], [], [], [], [], r5, [], r7], envP [], LE Ts, w⟩) (gs := []) (fuel := 3000) (nv := 10) (args := [(.agg [.v 0, .v 1, .v 2, .v 3, .v 4, .v 5, .v 6, .v 7, .bool (.var 8)]), (.imm (.lvar 9) none)]) (ora := [some true, some false, none, some true, none, some true, none, some true, some false, some true, some true, some true, some true, some true]) (sums := []) (r := ⟨[(.val (.sc (.bool (.lit true))))], [.call 11 [] (.one (.sc (.bool (.var 10)))), .dec (.var 10) true, .dec (.cmp .gtr (.len (.lvar 9)) (.lit 100)) false, .callS 26 [(.bytes (.lvar 9))] [(.val (.agg [.v 11, .v 12, .v 13, .v 14, .v 15, .v 16, .v 17, .v 18, .bool (.var 19)])), (.val (.sc (.bool (.var 20))))], .dec (.var 20) true, .callS 27 [(.bytes (.lvar 9))] [(.val (.agg [.v 21, .v 22, .v 23, .v 24, .v 25, .v 26, .v 27, .v 28, .bool (.var 29)])), (.val (.sc (.bool (.var 30))))], .dec (.var 30) true, .callS 25 [(.val (.agg [.v 0, .v 1, .v 2, .v 3, .v 4, .v 5, .v 6, .v 7, .bool (.var 8)]))] [(.fresh 5 (.lvar 31) (.lit 0) (.len (.lvar 31)) true)], .callS 26 [(.bytes (.lvar 31))] [(.val (.agg [.v 32, .v 33, .v 34, .v 35, .v 36, .v 37, .v 38, .v 39, .bool (.var 40)])), (.val (.sc (.bool (.var 41))))], .dec (.var 41) true, .dec (.not (.and (.and (.cmp .eql (.var 11) (.var 21)) (.and (.cmp .eql (.var 12) (.var 22)) (.and (.cmp .eql (.var 13) (.var 23)) (.cmp .eql (.var 14) (.var 24))))) (.and (.and (.cmp .eql (.var 15) (.var 25)) (.and (.cmp .eql (.var 16) (.var 26)) (.and (.cmp .eql (.var 17) (.var 27)) (.cmp .eql (.var 18) (.var 28))))) (.beq (.var 19) (.var 29))))) false, .callS 29 [(.val (.agg [.v 0, .v 1, .v 2, .v 3, .v 4, .v 5, .v 6, .v 7, .bool (.var 8)]))] [(.fresh 5 (.lvar 42) (.lit 0) (.len (.lvar 42)) true)], .callS 28 [(.bytes (.lvar 31)), (.bytes (.lvar 42))] [(.val (.sc (.bool (.var 43))))], .dec (.var 43) true, .callS 25 [(.val (.agg [.v 11, .v 12, .v 13, .v 14, .v 15, .v 16, .v 17, .v 18, .bool (.var 19)]))] [(.fresh 5 (.lvar 44) (.lit 0) (.len (.lvar 44)) true)], .callS 28 [(.bytes (.lvar 44)), (.bytes (.lvar 9))] [(.val (.sc (.bool (.var 45))))], .dec (.var 45) true, .call 13 [(.agg [.v 0, .v 1, .v 2, .v 3, .v 4, .v 5, .v 6, .v 7, .bool (.var 8)])] (.one (.sc (.bool (.var 46)))), .dec (.var 46) true, .dec (.and (.and (.cmp .eql (.var 32) (.var 0)) (.and (.cmp .eql (.var 33) (.var 1)) (.and (.cmp .eql (.var 34) (.var 2)) (.cmp .eql (.var 35) (.var 3))))) (.and (.and (.cmp .eql (.var 36) (.var 4)) (.and (.cmp .eql (.var 37) (.var 5)) (.and (.cmp .eql (.var 38) (.var 6)) (.cmp .eql (.var 39) (.var 7))))) (.beq (.var 40) (.var 8)))) true, .call 13 [(.agg [.v 0, .v 1, .v 2, .v 3, .v 4, .v 5, .v 6, .v 7, .bool (.var 8)])] (.one (.sc (.bool (.var 47)))), .dec (.var 47) true], []⟩) Tryd.func10 (by kernel_rfl)
    (evs_of ⟨?_, ?_, ?_, ?_, ?_, ?_, ?_, ?_, ?_, ?_, ?_, ?_, ?_, ?_, ?_, ?_, ?_, ?_, ?_, ?_, ?_, ?_, trivial⟩) (by simp) (GsOk.nil _) hK hG _ (⟨_, _, rfl, rfl, u1, _, rfl, ⟨hu1, fun b hb => by cases hb⟩, rfl⟩)
  · exact runS_eq hrun (by rfl)
  · exact awake09_g Ts
  · first | (simp [Ev.holds, Bx.den, cmpD, I.den, I.ldn, envI, envB, envL, envP]; done) | (simp [Ev.holds, Bx.den, cmpD, I.den, I.ldn, envI, envB, envL, envP]; omega)
  · first | exact dec_gt_f (a := ((l.length : Nat) : Int)) (b := (100 : Int)) rfl rfl (by omega) | (first | (simp [Ev.holds, Bx.den, cmpD, I.den, I.ldn, envI, envB, envL, envP]; done) | (simp [Ev.holds, Bx.den, cmpD, I.den, I.ldn, envI, envB, envL, envP]; omega))
  · exact edecode_g Ts l (by first | assumption | (simp only [*]; exact putN_bytes _ _)) hd1
  · (show k1 = true; exact ek1)
  · exact rdecode_g Ts l (by first | assumption | (simp only [*]; exact putN_bytes _ _)) hd2
  · (show k2 = true; exact ek2)
  · exact eencode_g Ts x1 y1 b1 (by first | assumption | exact Nat.lt_trans (by assumption) PN | decide | decide +kernel) (by first | assumption | exact Nat.lt_trans (by assumption) PN | decide | decide +kernel) hr3
  · exact edecode_g Ts r3 (by first | assumption | (simp only [*]; exact putN_bytes _ _)) hd4
  · (show k4 = true; exact e4k)
  · (simp [Ev.holds, Bx.den, cmpD, I.den, I.ldn, envI, envB, envL, envP, eU, eV]; done)
  · exact rencode_g Ts x1 y1 b1 (by first | assumption | exact Nat.lt_trans (by assumption) PN | decide | decide +kernel) (by first | assumption | exact Nat.lt_trans (by assumption) PN | decide | decide +kernel) hr5
  · exact CallS.g (same_s r3 r5 (by first | assumption | omega | (simp; omega) | (simp [*, putN_length]; done)) hr6)
  · (show r6 = true; rw [hr6, hr5, hr3]; exact decide_eq_true rfl)
  · exact eencode_g Ts U1 V1 false (by first | assumption | exact Nat.lt_trans (by assumption) PN | decide | decide +kernel) (by first | assumption | exact Nat.lt_trans (by assumption) PN | decide | decide +kernel) hr7
  · exact CallS.g (same_s r7 l (by first | assumption | omega | (simp; omega) | (simp [*, putN_length]; done)) hr8)
  · (show r8 = true; rw [hr8, s2]; exact decide_eq_true rfl)
  · exact rformed_g Ts x1 y1 b1 (by first | assumption | exact Nat.lt_trans (by assumption) PN | decide | decide +kernel) (by first | assumption | exact Nat.lt_trans (by assumption) PN | decide | decide +kernel) hr9
  · (show r9 = true; rw [hr9]; exact hf)
  · (simp [Ev.holds, Bx.den, cmpD, I.den, I.ldn, envI, envB, envL, envP, e4U, e4V, hb1]; done)
  · exact rformed_g Ts x1 y1 b1 (by first | assumption | exact Nat.lt_trans (by assumption) PN | decide | decide +kernel) (by first | assumption | exact Nat.lt_trans (by assumption) PN | decide | decide +kernel) hr10
  · (show r10 = true; rw [hr10]; exact hf)
set_option maxHeartbeats 4000000 in
theorem bytes_b (x1 y1 : Nat) (b1 : Bool) (l : List Int) (Ts : TR) (hx1 : x1 < N) (hy1 : y1 < N) (hb : IsBytes l) (hl : l.length ≤ 100) (hk : (decL l).2.2 = true) (hf : ¬ formedB x1 y1 b1 = true) : CallS Tryd.prog (LE Ts) 10 [.val (.agg #[.int .u64 (lm x1 0), .int .u64 (lm x1 1), .int .u64 (lm x1 2), .int .u64 (lm x1 3), .int .u64 (lm y1 0), .int .u64 (lm y1 1), .int .u64 (lm y1 2), .int .u64 (lm y1 3), .bool b1]), .bytes l] [.val (.bool true)] := by
  refine callS_of Tryd.func10 (by kernel_rfl) (by kernel_rfl) (fun w us hK hG ha => ?_)
  obtain ⟨_, _, rfl, rfl, u1, _, rfl, hu1, rfl⟩ := ha
  obtain ⟨U1, V1, k1, hd1⟩ : ∃ U V k, decL l = (U, V, k) := ⟨_, _, _, rfl⟩
  have of1 := decL_ok hd1
  have bU1 : U1 < N := Nat.lt_trans (x_lt of1.1) PN
  have bV1 : V1 < N := Nat.lt_trans (y_lt of1.1) PN
  obtain ⟨U2, V2, k2, hd2⟩ : ∃ U V k, decL l = (U, V, k) := ⟨_, _, _, rfl⟩
  have of2 := decL_ok hd2
  have bU2 : U2 < N := Nat.lt_trans (x_lt of2.1) PN
  have bV2 : V2 < N := Nat.lt_trans (y_lt of2.1) PN
  obtain ⟨r3, hr3⟩ : ∃ r : List Int, r = putN 32 (encN x1 y1 b1) := ⟨_, rfl⟩
  obtain ⟨U4, V4, k4, hd4⟩ : ∃ U V k, decL r3 = (U, V, k) := ⟨_, _, _, rfl⟩
  have of4 := decL_ok hd4
  have bU4 : U4 < N := Nat.lt_trans (x_lt of4.1) PN
  have bV4 : V4 < N := Nat.lt_trans (y_lt of4.1) PN
  obtain ⟨r5, hr5⟩ : ∃ r : List Int, r = putN 32 (encN x1 y1 b1) := ⟨_, rfl⟩
  obtain ⟨r6, hr6⟩ : ∃ r : Bool, r = decide (r3 = r5) := ⟨_, rfl⟩
  obtain ⟨r7, hr7⟩ : ∃ r : List Int, r = putN 32 (encN U1 V1 false) := ⟨_, rfl⟩
  obtain ⟨r8, hr8⟩ : ∃ r : Bool, r = decide (r7 = l) := ⟨_, rfl⟩
  obtain ⟨r9, hr9⟩ : ∃ r : Bool, r = formedB x1 y1 b1 := ⟨_, rfl⟩
  obtain ⟨r10, hr10⟩ : ∃ r : Bool, r = formedB x1 y1 b1 := ⟨_, rfl⟩
  have e12 := hd1.symm.trans hd2
  simp only [Prod.mk.injEq] at e12
  obtain ⟨eU, eV, ek⟩ := e12
  have ek1 : k1 = true := by rw [hd1] at hk; exact hk
  have ek2 : k2 = true := by rw [← ek]; exact ek1
  have e4 := hd4.symm.trans ((congrArg decL hr3).trans decL_enc)
  rw [if_neg hf, if_neg hf] at e4
  simp only [Prod.mk.injEq] at e4
  obtain ⟨e4U, e4V, e4k⟩ := e4
  have s2 : r7 = l := by rw [hr7, ← (of1.2.1 ek1).2]; have := putN_leN hb; rw [(of1.2.1 ek1).1] at this; exact this
  have hrun := calls_of_runS (P := Tryd.prog) (v := ⟨envI [((lm x1 0 : Nat) : Int), ((lm x1 1 : Nat) : Int), ((lm x1 2 : Nat) : Int), ((lm x1 3 : Nat) : Int), ((lm y1 0 : Nat) : Int), ((lm y1 1 : Nat) : Int), ((lm y1 2 : Nat) : Int), ((lm y1 3 : Nat) : Int), 0, 0, 0, ((lm U1 0 : Nat) : Int), ((lm U1 1 : Nat) : Int), ((lm U1 2 : Nat) : Int), ((lm U1 3 : Nat) : Int), ((lm V1 0 : Nat) : Int), ((lm V1 1 : Nat) : Int), ((lm V1 2 : Nat) : Int), ((lm V1 3 : Nat) : Int), 0, 0, ((lm U2 0 : Nat) : Int), ((lm U2 1 : Nat) : Int), ((lm U2 2 : Nat) : Int), ((lm U2 3 : Nat) : Int), ((lm V2 0 : Nat) : Int), ((lm V2 1 : Nat) : Int), ((lm V2 2 : Nat) : Int), ((lm V2 3 : Nat) : Int), 0, 0, 0, ((lm U4 0 : Nat) : Int), ((lm U4 1 : Nat) : Int), ((lm U4 2 : Nat) : Int), ((lm U4 3 : Nat) : Int), ((lm V4 0 : Nat) : Int), ((lm V4 1 : Nat) : Int), ((lm V4 2 : Nat) : Int), ((lm V4 3 : Nat) : Int)], envB [false, false, false, false, false, false, false, false, b1, false, true, false, false, false, false, false, false, false, false, false, k1, false, false, false, false, false, false, false, false, false, k2, false, false, false, false, false, false, false, false, false, false, k4, false, r6, false, r8, r9, r10], envL [[], [], [], [], [], [], [], [], [], l, [], [], [], [], [], [], [], [], [], [], [], [], [], [], [], [], [], [], [], [], [], r3, [], [], [], [], [], [], [], [], [], [], r5, [], r7], envP [], LE Ts, w⟩) (gs := []) (fuel := 3000) (nv := 10) (args := [(.agg [.v 0, .v 1, .v 2, .v 3, .v 4, .v 5, .v 6, .v 7, .bool (.var 8)]), (.imm (.lvar 9) none)]) (ora := [some true, some false, none, some true, none, some true, none, some true, some false, some true, some true, some false, some false]) (sums := []) (r := ⟨[(.val (.sc (.bool (.and (.and (.cmp .eql (.var 32) (.lit 0)) (.and (.cmp .eql (.var 33) (.lit 0)) (.and (.cmp .eql (.var 34) (.lit 0)) (.cmp .eql (.var 35) (.lit 0))))) (.and (.and (.cmp .eql (.var 36) (.lit 1)) (.and (.cmp .eql (.var 37) (.lit 0)) (.and (.cmp .eql (.var 38) (.lit 0)) (.cmp .eql (.var 39) (.lit 0))))) (.beq (.var 40) (.lit false)))))))], [.call 11 [] (.one (.sc (.bool (.var 10)))), .dec (.var 10) true, .dec (.cmp .gtr (.len (.lvar 9)) (.lit 100)) false, .callS 26 [(.bytes (.lvar 9))] [(.val (.agg [.v 11, .v 12, .v 13, .v 14, .v 15, .v 16, .v 17, .v 18, .bool (.var 19)])), (.val (.sc (.bool (.var 20))))], .dec (.var 20) true, .callS 27 [(.bytes (.lvar 9))] [(.val (.agg [.v 21, .v 22, .v 23, .v 24, .v 25, .v 26, .v 27, .v 28, .bool (.var 29)])), (.val (.sc (.bool (.var 30))))], .dec (.var 30) true, .callS 25 [(.val (.agg [.v 0, .v 1, .v 2, .v 3, .v 4, .v 5, .v 6, .v 7, .bool (.var 8)]))] [(.fresh 5 (.lvar 31) (.lit 0) (.len (.lvar 31)) true)], .callS 26 [(.bytes (.lvar 31))] [(.val (.agg [.v 32, .v 33, .v 34, .v 35, .v 36, .v 37, .v 38, .v 39, .bool (.var 40)])), (.val (.sc (.bool (.var 41))))], .dec (.var 41) true, .dec (.not (.and (.and (.cmp .eql (.var 11) (.var 21)) (.and (.cmp .eql (.var 12) (.var 22)) (.and (.cmp .eql (.var 13) (.var 23)) (.cmp .eql (.var 14) (.var 24))))) (.and (.and (.cmp .eql (.var 15) (.var 25)) (.and (.cmp .eql (.var 16) (.var 26)) (.and (.cmp .eql (.var 17) (.var 27)) (.cmp .eql (.var 18) (.var 28))))) (.beq (.var 19) (.var 29))))) false, .callS 29 [(.val (.agg [.v 0, .v 1, .v 2, .v 3, .v 4, .v 5, .v 6, .v 7, .bool (.var 8)]))] [(.fresh 5 (.lvar 42) (.lit 0) (.len (.lvar 42)) true)], .callS 28 [(.bytes (.lvar 31)), (.bytes (.lvar 42))] [(.val (.sc (.bool (.var 43))))], .dec (.var 43) true, .callS 25 [(.val (.agg [.v 11, .v 12, .v 13, .v 14, .v 15, .v 16, .v 17, .v 18, .bool (.var 19)]))] [(.fresh 5 (.lvar 44) (.lit 0) (.len (.lvar 44)) true)], .callS 28 [(.bytes (.lvar 44)), (.bytes (.lvar 9))] [(.val (.sc (.bool (.var 45))))], .dec (.var 45) true, .call 13 [(.agg [.v 0, .v 1, .v 2, .v 3, .v 4, .v 5, .v 6, .v 7, .bool (.var 8)])] (.one (.sc (.bool (.var 46)))), .dec (.var 46) false, .call 13 [(.agg [.v 0, .v 1, .v 2, .v 3, .v 4, .v 5, .v 6, .v 7, .bool (.var 8)])] (.one (.sc (.bool (.var 47)))), .dec (.var 47) false], []⟩) Tryd.func10 (by kernel_rfl)
    (evs_of ⟨?_, ?_, ?_, ?_, ?_, ?_, ?_, ?_, ?_, ?_, ?_, ?_, ?_, ?_, ?_, ?_, ?_, ?_, ?_, ?_, ?_, trivial⟩) (by simp) (GsOk.nil _) hK hG _ (⟨_, _, rfl, rfl, u1, _, rfl, ⟨hu1, fun b hb => by cases hb⟩, rfl⟩)
  · exact runS_eq hrun (by (show [SRes.val (Value.bool (((((lm U4 0 : Nat) : Int) == (0 : Int)) && ((((lm U4 1 : Nat) : Int) == (0 : Int)) && ((((lm U4 2 : Nat) : Int) == (0 : Int)) && (((lm U4 3 : Nat) : Int) == (0 : Int))))) && (((((lm V4 0 : Nat) : Int) == (1 : Int)) && ((((lm V4 1 : Nat) : Int) == (0 : Int)) && ((((lm V4 2 : Nat) : Int) == (0 : Int)) && (((lm V4 3 : Nat) : Int) == (0 : Int))))) && (false == false))))] = _; simp [e4U, e4V, lm_zz, one_l0, one_l1, one_l2, one_l3]))
  · exact awake09_g Ts
  · first | (simp [Ev.holds, Bx.den, cmpD, I.den, I.ldn, envI, envB, envL, envP]; done) | (simp [Ev.holds, Bx.den, cmpD, I.den, I.ldn, envI, envB, envL, envP]; omega)
  · first | exact dec_gt_f (a := ((l.length : Nat) : Int)) (b := (100 : Int)) rfl rfl (by omega) | (first | (simp [Ev.holds, Bx.den, cmpD, I.den, I.ldn, envI, envB, envL, envP]; done) | (simp [Ev.holds, Bx.den, cmpD, I.den, I.ldn, envI, envB, envL, envP]; omega))
  · exact edecode_g Ts l (by first | assumption | (simp only [*]; exact putN_bytes _ _)) hd1
  · (show k1 = true; exact ek1)
  · exact rdecode_g Ts l (by first | assumption | (simp only [*]; exact putN_bytes _ _)) hd2
  · (show k2 = true; exact ek2)
  · exact eencode_g Ts x1 y1 b1 (by first | assumption | exact Nat.lt_trans (by assumption) PN | decide | decide +kernel) (by first | assumption | exact Nat.lt_trans (by assumption) PN | decide | decide +kernel) hr3
  · exact edecode_g Ts r3 (by first | assumption | (simp only [*]; exact putN_bytes _ _)) hd4
  · (show k4 = true; exact e4k)
  · (simp [Ev.holds, Bx.den, cmpD, I.den, I.ldn, envI, envB, envL, envP, eU, eV]; done)
  · exact rencode_g Ts x1 y1 b1 (by first | assumption | exact Nat.lt_trans (by assumption) PN | decide | decide +kernel) (by first | assumption | exact Nat.lt_trans (by assumption) PN | decide | decide +kernel) hr5
  · exact CallS.g (same_s r3 r5 (by first | assumption | omega | (simp; omega) | (simp [*, putN_length]; done)) hr6)
  · (show r6 = true; rw [hr6, hr5, hr3]; exact decide_eq_true rfl)
  · exact eencode_g Ts U1 V1 false (by first | assumption | exact Nat.lt_trans (by assumption) PN | decide | decide +kernel) (by first | assumption | exact Nat.lt_trans (by assumption) PN | decide | decide +kernel) hr7
  · exact CallS.g (same_s r7 l (by first | assumption | omega | (simp; omega) | (simp [*, putN_length]; done)) hr8)
  · (show r8 = true; rw [hr8, s2]; exact decide_eq_true rfl)
  · exact rformed_g Ts x1 y1 b1 (by first | assumption | exact Nat.lt_trans (by assumption) PN | decide | decide +kernel) (by first | assumption | exact Nat.lt_trans (by assumption) PN | decide | decide +kernel) hr9
  · (show r9 = false; rw [hr9]; exact Bool.eq_false_iff.2 hf)
  · exact rformed_g Ts x1 y1 b1 (by first | assumption | exact Nat.lt_trans (by assumption) PN | decide | decide +kernel) (by first | assumption | exact Nat.lt_trans (by assumption) PN | decide | decide +kernel) hr10
  · (show r10 = false; rw [hr10]; exact Bool.eq_false_iff.2 hf)
set_option maxHeartbeats 4000000 in
theorem bytes_c (x1 y1 : Nat) (b1 : Bool) (l : List Int) (Ts : TR) (hx1 : x1 < N) (hy1 : y1 < N) (hb : IsBytes l) (hl : l.length ≤ 100) (hk : (decL l).2.2 = false) (hf : formedB x1 y1 b1 = true) : CallS Tryd.prog (LE Ts) 10 [.val (.agg #[.int .u64 (lm x1 0), .int .u64 (lm x1 1), .int .u64 (lm x1 2), .int .u64 (lm x1 3), .int .u64 (lm y1 0), .int .u64 (lm y1 1), .int .u64 (lm y1 2), .int .u64 (lm y1 3), .bool b1]), .bytes l] [.val (.bool true)] := by
  refine callS_of Tryd.func10 (by kernel_rfl) (by kernel_rfl) (fun w us hK hG ha => ?_)
  obtain ⟨_, _, rfl, rfl, u1, _, rfl, hu1, rfl⟩ := ha
  obtain ⟨U1, V1, k1, hd1⟩ : ∃ U V k, decL l = (U, V, k) := ⟨_, _, _, rfl⟩
  have of1 := decL_ok hd1
  have bU1 : U1 < N := Nat.lt_trans (x_lt of1.1) PN
  have bV1 : V1 < N := Nat.lt_trans (y_lt of1.1) PN
  obtain ⟨U2, V2, k2, hd2⟩ : ∃ U V k, decL l = (U, V, k) := ⟨_, _, _, rfl⟩
  have of2 := decL_ok hd2
  have bU2 : U2 < N := Nat.lt_trans (x_lt of2.1) PN
  have bV2 : V2 < N := Nat.lt_trans (y_lt of2.1) PN
  obtain ⟨r3, hr3⟩ : ∃ r : List Int, r = putN 32 (encN x1 y1 b1) := ⟨_, rfl⟩
  obtain ⟨U4, V4, k4, hd4⟩ : ∃ U V k, decL r3 = (U, V, k) := ⟨_, _, _, rfl⟩
  have of4 := decL_ok hd4
  have bU4 : U4 < N := Nat.lt_trans (x_lt of4.1) PN
  have bV4 : V4 < N := Nat.lt_trans (y_lt of4.1) PN
  obtain ⟨r5, hr5⟩ : ∃ r : List Int, r = putN 32 (encN x1 y1 b1) := ⟨_, rfl⟩
  obtain ⟨r6, hr6⟩ : ∃ r : Bool, r = decide (r3 = r5) := ⟨_, rfl⟩
  obtain ⟨r7, hr7⟩ : ∃ r : Bool, r = formedB x1 y1 b1 := ⟨_, rfl⟩
  obtain ⟨r8, hr8⟩ : ∃ r : Bool, r = formedB x1 y1 b1 := ⟨_, rfl⟩
  have e12 := hd1.symm.trans hd2
  simp only [Prod.mk.injEq] at e12
  obtain ⟨eU, eV, ek⟩ := e12
  have ek1 : k1 = false := by rw [hd1] at hk; exact hk
  have ek2 : k2 = false := by rw [← ek]; exact ek1
  have e4 := hd4.symm.trans ((congrArg decL hr3).trans decL_enc)
  rw [if_pos hf, if_pos hf] at e4
  simp only [Prod.mk.injEq] at e4
  obtain ⟨e4U, e4V, e4k⟩ := e4
  have hb1 : b1 = false := (formed_iff.1 hf).1
  have hrun := calls_of_runS (P := Tryd.prog) (v := ⟨envI [((lm x1 0 : Nat) : Int), ((lm x1 1 : Nat) : Int), ((lm x1 2 : Nat) : Int), ((lm x1 3 : Nat) : Int), ((lm y1 0 : Nat) : Int), ((lm y1 1 : Nat) : Int), ((lm y1 2 : Nat) : Int), ((lm y1 3 : Nat) : Int), 0, 0, 0, ((lm U1 0 : Nat) : Int), ((lm U1 1 : Nat) : Int), ((lm U1 2 : Nat) : Int), ((lm U1 3 : Nat) : Int), ((lm V1 0 : Nat) : Int), ((lm V1 1 : Nat) : Int), ((lm V1 2 : Nat) : Int), ((lm V1 3 : Nat) : Int), 0, 0, ((lm U2 0 : Nat) : Int), ((lm U2 1 : Nat) : Int), ((lm U2 2 : Nat) : Int), ((lm U2 3 : Nat) : Int), ((lm V2 0 : Nat) : Int), ((lm V2 1 : Nat) : Int), ((lm V2 2 : Nat) : Int), ((lm V2 3 : Nat) : Int), 0, 0, 0, ((lm U4 0 : Nat) : Int), ((lm U4 1 : Nat) : Int), ((lm U4 2 : Nat) : Int), ((lm U4 3 : Nat) : Int), ((lm V4 0 : Nat) : Int), ((lm V4 1 : Nat) : Int), ((lm V4 2 : Nat) : Int), ((lm V4 3 : Nat) : Int)], envB [false, false, false, false, false, false, false, false, b1, false, true, false, false, false, false, false, false, false, false, false, k1, false, false, false, false, false, false, false, false, false, k2, false, false, false, false, false, false, false, false, false, false, k4, false, r6, r7, r8], envL [[], [], [], [], [], [], [], [], [], l, [], [], [], [], [], [], [], [], [], [], [], [], [], [], [], [], [], [], [], [], [], r3, [], [], [], [], [], [], [], [], [], [], r5], envP [], LE Ts, w⟩) (gs := []) (fuel := 3000) (nv := 10) (args := [(.agg [.v 0, .v 1, .v 2, .v 3, .v 4, .v 5, .v 6, .v 7, .bool (.var 8)]), (.imm (.lvar 9) none)]) (ora := [some true, some false, none, some false, none, some false, none, some true, some false, some true, some true, some true, some true]) (sums := []) (r := ⟨[(.val (.sc (.bool (.lit true))))], [.call 11 [] (.one (.sc (.bool (.var 10)))), .dec (.var 10) true, .dec (.cmp .gtr (.len (.lvar 9)) (.lit 100)) false, .callS 26 [(.bytes (.lvar 9))] [(.val (.agg [.v 11, .v 12, .v 13, .v 14, .v 15, .v 16, .v 17, .v 18, .bool (.var 19)])), (.val (.sc (.bool (.var 20))))], .dec (.var 20) false, .callS 27 [(.bytes (.lvar 9))] [(.val (.agg [.v 21, .v 22, .v 23, .v 24, .v 25, .v 26, .v 27, .v 28, .bool (.var 29)])), (.val (.sc (.bool (.var 30))))], .dec (.var 30) false, .callS 25 [(.val (.agg [.v 0, .v 1, .v 2, .v 3, .v 4, .v 5, .v 6, .v 7, .bool (.var 8)]))] [(.fresh 5 (.lvar 31) (.lit 0) (.len (.lvar 31)) true)], .callS 26 [(.bytes (.lvar 31))] [(.val (.agg [.v 32, .v 33, .v 34, .v 35, .v 36, .v 37, .v 38, .v 39, .bool (.var 40)])), (.val (.sc (.bool (.var 41))))], .dec (.var 41) true, .dec (.not (.and (.and (.cmp .eql (.var 11) (.var 21)) (.and (.cmp .eql (.var 12) (.var 22)) (.and (.cmp .eql (.var 13) (.var 23)) (.cmp .eql (.var 14) (.var 24))))) (.and (.and (.cmp .eql (.var 15) (.var 25)) (.and (.cmp .eql (.var 16) (.var 26)) (.and (.cmp .eql (.var 17) (.var 27)) (.cmp .eql (.var 18) (.var 28))))) (.beq (.var 19) (.var 29))))) false, .callS 29 [(.val (.agg [.v 0, .v 1, .v 2, .v 3, .v 4, .v 5, .v 6, .v 7, .bool (.var 8)]))] [(.fresh 5 (.lvar 42) (.lit 0) (.len (.lvar 42)) true)], .callS 28 [(.bytes (.lvar 31)), (.bytes (.lvar 42))] [(.val (.sc (.bool (.var 43))))], .dec (.var 43) true, .call 13 [(.agg [.v 0, .v 1, .v 2, .v 3, .v 4, .v 5, .v 6, .v 7, .bool (.var 8)])] (.one (.sc (.bool (.var 44)))), .dec (.var 44) true, .dec (.and (.and (.cmp .eql (.var 32) (.var 0)) (.and (.cmp .eql (.var 33) (.var 1)) (.and (.cmp .eql (.var 34) (.var 2)) (.cmp .eql (.var 35) (.var 3))))) (.and (.and (.cmp .eql (.var 36) (.var 4)) (.and (.cmp .eql (.var 37) (.var 5)) (.and (.cmp .eql (.var 38) (.var 6)) (.cmp .eql (.var 39) (.var 7))))) (.beq (.var 40) (.var 8)))) true, .call 13 [(.agg [.v 0, .v 1, .v 2, .v 3, .v 4, .v 5, .v 6, .v 7, .bool (.var 8)])] (.one (.sc (.bool (.var 45)))), .dec (.var 45) true], []⟩) Tryd.func10 (by kernel_rfl)
    (evs_of ⟨?_, ?_, ?_, ?_, ?_, ?_, ?_, ?_, ?_, ?_, ?_, ?_, ?_, ?_, ?_, ?_, ?_, ?_, ?_, trivial⟩) (by simp) (GsOk.nil _) hK hG _ (⟨_, _, rfl, rfl, u1, _, rfl, ⟨hu1, fun b hb => by cases hb⟩, rfl⟩)
  · exact runS_eq hrun (by rfl)
  · exact awake09_g Ts
  · first | (simp [Ev.holds, Bx.den, cmpD, I.den, I.ldn, envI, envB, envL, envP]; done) | (simp [Ev.holds, Bx.den, cmpD, I.den, I.ldn, envI, envB, envL, envP]; omega)
  · first | exact dec_gt_f (a := ((l.length : Nat) : Int)) (b := (100 : Int)) rfl rfl (by omega) | (first | (simp [Ev.holds, Bx.den, cmpD, I.den, I.ldn, envI, envB, envL, envP]; done) | (simp [Ev.holds, Bx.den, cmpD, I.den, I.ldn, envI, envB, envL, envP]; omega))
  · exact edecode_g Ts l (by first | assumption | (simp only [*]; exact putN_bytes _ _)) hd1
  · (show k1 = false; exact ek1)
  · exact rdecode_g Ts l (by first | assumption | (simp only [*]; exact putN_bytes _ _)) hd2
  · (show k2 = false; exact ek2)
  · exact eencode_g Ts x1 y1 b1 (by first | assumption | exact Nat.lt_trans (by assumption) PN | decide | decide +kernel) (by first | assumption | exact Nat.lt_trans (by assumption) PN | decide | decide +kernel) hr3
  · exact edecode_g Ts r3 (by first | assumption | (simp only [*]; exact putN_bytes _ _)) hd4
  · (show k4 = true; exact e4k)
  · (simp [Ev.holds, Bx.den, cmpD, I.den, I.ldn, envI, envB, envL, envP, eU, eV]; done)
  · exact rencode_g Ts x1 y1 b1 (by first | assumption | exact Nat.lt_trans (by assumption) PN | decide | decide +kernel) (by first | assumption | exact Nat.lt_trans (by assumption) PN | decide | decide +kernel) hr5
  · exact CallS.g (same_s r3 r5 (by first | assumption | omega | (simp; omega) | (simp [*, putN_length]; done)) hr6)
  · (show r6 = true; rw [hr6, hr5, hr3]; exact decide_eq_true rfl)
  · exact rformed_g Ts x1 y1 b1 (by first | assumption | exact Nat.lt_trans (by assumption) PN | decide | decide +kernel) (by first | assumption | exact Nat.lt_trans (by assumption) PN | decide | decide +kernel) hr7
  · (show r7 = true; rw [hr7]; exact hf)
  · (simp [Ev.holds, Bx.den, cmpD, I.den, I.ldn, envI, envB, envL, envP, e4U, e4V, hb1]; done)
  · exact rformed_g Ts x1 y1 b1 (by first | assumption | exact Nat.lt_trans (by assumption) PN | decide | decide +kernel) (by first | assumption | exact Nat.lt_trans (by assumption) PN | decide | decide +kernel) hr8
  · (show r8 = true; rw [hr8]; exact hf)
set_option maxHeartbeats 4000000 in
theorem bytes_d (x1 y1 : Nat) (b1 : Bool) (l : List Int) (Ts : TR) (hx1 : x1 < N) (hy1 : y1 < N) (hb : IsBytes l) (hl : l.length ≤ 100) (hk : (decL l).2.2 = false) (hf : ¬ formedB x1 y1 b1 = true) : CallS Tryd.prog (LE Ts) 10 [.val (.agg #[.int .u64 (lm x1 0), .int .u64 (lm x1 1), .int .u64 (lm x1 2), .int .u64 (lm x1 3), .int .u64 (lm y1 0), .int .u64 (lm y1 1), .int .u64 (lm y1 2), .int .u64 (lm y1 3), .bool b1]), .bytes l] [.val (.bool true)] := by
  refine callS_of Tryd.func10 (by kernel_rfl) (by kernel_rfl) (fun w us hK hG ha => ?_)
  obtain ⟨_, _, rfl, rfl, u1, _, rfl, hu1, rfl⟩ := ha
  obtain ⟨U1, V1, k1, hd1⟩ : ∃ U V k, decL l = (U, V, k) := ⟨_, _, _, rfl⟩
  have of1 := decL_ok hd1
  have bU1 : U1 < N := Nat.lt_trans (x_lt of1.1) PN
  have bV1 : V1 < N := Nat.lt_trans (y_lt of1.1) PN
  obtain ⟨U2, V2, k2, hd2⟩ : ∃ U V k, decL l = (U, V, k) := ⟨_, _, _, rfl⟩
  have of2 := decL_ok hd2
  have bU2 : U2 < N := Nat.lt_trans (x_lt of2.1) PN
  have bV2 : V2 < N := Nat.lt_trans (y_lt of2.1) PN
  obtain ⟨r3, hr3⟩ : ∃ r : List Int, r = putN 32 (encN x1 y1 b1) := ⟨_, rfl⟩
  obtain ⟨U4, V4, k4, hd4⟩ : ∃ U V k, decL r3 = (U, V, k) := ⟨_, _, _, rfl⟩
  have of4 := decL_ok hd4
  have bU4 : U4 < N := Nat.lt_trans (x_lt of4.1) PN
  have bV4 : V4 < N := Nat.lt_trans (y_lt of4.1) PN
  obtain ⟨r5, hr5⟩ : ∃ r : List Int, r = putN 32 (encN x1 y1 b1) := ⟨_, rfl⟩
  obtain ⟨r6, hr6⟩ : ∃ r : Bool, r = decide (r3 = r5) := ⟨_, rfl⟩
  obtain ⟨r7, hr7⟩ : ∃ r : Bool, r = formedB x1 y1 b1 := ⟨_, rfl⟩
  obtain ⟨r8, hr8⟩ : ∃ r : Bool, r = formedB x1 y1 b1 := ⟨_, rfl⟩
  have e12 := hd1.symm.trans hd2
  simp only [Prod.mk.injEq] at e12
  obtain ⟨eU, eV, ek⟩ := e12
  have ek1 : k1 = false := by rw [hd1] at hk; exact hk
  have ek2 : k2 = false := by rw [← ek]; exact ek1
  have e4 := hd4.symm.trans ((congrArg decL hr3).trans decL_enc)
  rw [if_neg hf, if_neg hf] at e4
  simp only [Prod.mk.injEq] at e4
  obtain ⟨e4U, e4V, e4k⟩ := e4
  have hrun := calls_of_runS (P := Tryd.prog) (v := ⟨envI [((lm x1 0 : Nat) : Int), ((lm x1 1 : Nat) : Int), ((lm x1 2 : Nat) : Int), ((lm x1 3 : Nat) : Int), ((lm y1 0 : Nat) : Int), ((lm y1 1 : Nat) : Int), ((lm y1 2 : Nat) : Int), ((lm y1 3 : Nat) : Int), 0, 0, 0, ((lm U1 0 : Nat) : Int), ((lm U1 1 : Nat) : Int), ((lm U1 2 : Nat) : Int), ((lm U1 3 : Nat) : Int), ((lm V1 0 : Nat) : Int), ((lm V1 1 : Nat) : Int), ((lm V1 2 : Nat) : Int), ((lm V1 3 : Nat) : Int), 0, 0, ((lm U2 0 : Nat) : Int), ((lm U2 1 : Nat) : Int), ((lm U2 2 : Nat) : Int), ((lm U2 3 : Nat) : Int), ((lm V2 0 : Nat) : Int), ((lm V2 1 : Nat) : Int), ((lm V2 2 : Nat) : Int), ((lm V2 3 : Nat) : Int), 0, 0, 0, ((lm U4 0 : Nat) : Int), ((lm U4 1 : Nat) : Int), ((lm U4 2 : Nat) : Int), ((lm U4 3 : Nat) : Int), ((lm V4 0 : Nat) : Int), ((lm V4 1 : Nat) : Int), ((lm V4 2 : Nat) : Int), ((lm V4 3 : Nat) : Int)], envB [false, false, false, false, false, false, false, false, b1, false, true, false, false, false, false, false, false, false, false, false, k1, false, false, false, false, false, false, false, false, false, k2, false, false, false, false, false, false, false, false, false, false, k4, false, r6, r7, r8], envL [[], [], [], [], [], [], [], [], [], l, [], [], [], [], [], [], [], [], [], [], [], [], [], [], [], [], [], [], [], [], [], r3, [], [], [], [], [], [], [], [], [], [], r5], envP [], LE Ts, w⟩) (gs := []) (fuel := 3000) (nv := 10) (args := [(.agg [.v 0, .v 1, .v 2, .v 3, .v 4, .v 5, .v 6, .v 7, .bool (.var 8)]), (.imm (.lvar 9) none)]) (ora := [some true, some false, none, some false, none, some false, none, some true, some false, some true, some false, some false]) (sums := []) (r := ⟨[(.val (.sc (.bool (.and (.and (.cmp .eql (.var 32) (.lit 0)) (.and (.cmp .eql (.var 33) (.lit 0)) (.and (.cmp .eql (.var 34) (.lit 0)) (.cmp .eql (.var 35) (.lit 0))))) (.and (.and (.cmp .eql (.var 36) (.lit 1)) (.and (.cmp .eql (.var 37) (.lit 0)) (.and (.cmp .eql (.var 38) (.lit 0)) (.cmp .eql (.var 39) (.lit 0))))) (.beq (.var 40) (.lit false)))))))], [.call 11 [] (.one (.sc (.bool (.var 10)))), .dec (.var 10) true, .dec (.cmp .gtr (.len (.lvar 9)) (.lit 100)) false, .callS 26 [(.bytes (.lvar 9))] [(.val (.agg [.v 11, .v 12, .v 13, .v 14, .v 15, .v 16, .v 17, .v 18, .bool (.var 19)])), (.val (.sc (.bool (.var 20))))], .dec (.var 20) false, .callS 27 [(.bytes (.lvar 9))] [(.val (.agg [.v 21, .v 22, .v 23, .v 24, .v 25, .v 26, .v 27, .v 28, .bool (.var 29)])), (.val (.sc (.bool (.var 30))))], .dec (.var 30) false, .callS 25 [(.val (.agg [.v 0, .v 1, .v 2, .v 3, .v 4, .v 5, .v 6, .v 7, .bool (.var 8)]))] [(.fresh 5 (.lvar 31) (.lit 0) (.len (.lvar 31)) true)], .callS 26 [(.bytes (.lvar 31))] [(.val (.agg [.v 32, .v 33, .v 34, .v 35, .v 36, .v 37, .v 38, .v 39, .bool (.var 40)])), (.val (.sc (.bool (.var 41))))], .dec (.var 41) true, .dec (.not (.and (.and (.cmp .eql (.var 11) (.var 21)) (.and (.cmp .eql (.var 12) (.var 22)) (.and (.cmp .eql (.var 13) (.var 23)) (.cmp .eql (.var 14) (.var 24))))) (.and (.and (.cmp .eql (.var 15) (.var 25)) (.and (.cmp .eql (.var 16) (.var 26)) (.and (.cmp .eql (.var 17) (.var 27)) (.cmp .eql (.var 18) (.var 28))))) (.beq (.var 19) (.var 29))))) false, .callS 29 [(.val (.agg [.v 0, .v 1, .v 2, .v 3, .v 4, .v 5, .v 6, .v 7, .bool (.var 8)]))] [(.fresh 5 (.lvar 42) (.lit 0) (.len (.lvar 42)) true)], .callS 28 [(.bytes (.lvar 31)), (.bytes (.lvar 42))] [(.val (.sc (.bool (.var 43))))], .dec (.var 43) true, .call 13 [(.agg [.v 0, .v 1, .v 2, .v 3, .v 4, .v 5, .v 6, .v 7, .bool (.var 8)])] (.one (.sc (.bool (.var 44)))), .dec (.var 44) false, .call 13 [(.agg [.v 0, .v 1, .v 2, .v 3, .v 4, .v 5, .v 6, .v 7, .bool (.var 8)])] (.one (.sc (.bool (.var 45)))), .dec (.var 45) false], []⟩) Tryd.func10 (by kernel_rfl)
    (evs_of ⟨?_, ?_, ?_, ?_, ?_, ?_, ?_, ?_, ?_, ?_, ?_, ?_, ?_, ?_, ?_, ?_, ?_, ?_, trivial⟩) (by simp) (GsOk.nil _) hK hG _ (⟨_, _, rfl, rfl, u1, _, rfl, ⟨hu1, fun b hb => by cases hb⟩, rfl⟩)
  · exact runS_eq hrun (by (show [SRes.val (Value.bool (((((lm U4 0 : Nat) : Int) == (0 : Int)) && ((((lm U4 1 : Nat) : Int) == (0 : Int)) && ((((lm U4 2 : Nat) : Int) == (0 : Int)) && (((lm U4 3 : Nat) : Int) == (0 : Int))))) && (((((lm V4 0 : Nat) : Int) == (1 : Int)) && ((((lm V4 1 : Nat) : Int) == (0 : Int)) && ((((lm V4 2 : Nat) : Int) == (0 : Int)) && (((lm V4 3 : Nat) : Int) == (0 : Int))))) && (false == false))))] = _; simp [e4U, e4V, lm_zz, one_l0, one_l1, one_l2, one_l3]))
  · exact awake09_g Ts
  · first | (simp [Ev.holds, Bx.den, cmpD, I.den, I.ldn, envI, envB, envL, envP]; done) | (simp [Ev.holds, Bx.den, cmpD, I.den, I.ldn, envI, envB, envL, envP]; omega)
  · first | exact dec_gt_f (a := ((l.length : Nat) : Int)) (b := (100 : Int)) rfl rfl (by omega) | (first | (simp [Ev.holds, Bx.den, cmpD, I.den, I.ldn, envI, envB, envL, envP]; done) | (simp [Ev.holds, Bx.den, cmpD, I.den, I.ldn, envI, envB, envL, envP]; omega))
  · exact edecode_g Ts l (by first | assumption | (simp only [*]; exact putN_bytes _ _)) hd1
  · (show k1 = false; exact ek1)
  · exact rdecode_g Ts l (by first | assumption | (simp only [*]; exact putN_bytes _ _)) hd2
  · (show k2 = false; exact ek2)
  · exact eencode_g Ts x1 y1 b1 (by first | assumption | exact Nat.lt_trans (by assumption) PN | decide | decide +kernel) (by first | assumption | exact Nat.lt_trans (by assumption) PN | decide | decide +kernel) hr3
  · exact edecode_g Ts r3 (by first | assumption | (simp only [*]; exact putN_bytes _ _)) hd4
  · (show k4 = true; exact e4k)
  · (simp [Ev.holds, Bx.den, cmpD, I.den, I.ldn, envI, envB, envL, envP, eU, eV]; done)
  · exact rencode_g Ts x1 y1 b1 (by first | assumption | exact Nat.lt_trans (by assumption) PN | decide | decide +kernel) (by first | assumption | exact Nat.lt_trans (by assumption) PN | decide | decide +kernel) hr5
  · exact CallS.g (same_s r3 r5 (by first | assumption | omega | (simp; omega) | (simp [*, putN_length]; done)) hr6)
  · (show r6 = true; rw [hr6, hr5, hr3]; exact decide_eq_true rfl)
  · exact rformed_g Ts x1 y1 b1 (by first | assumption | exact Nat.lt_trans (by assumption) PN | decide | decide +kernel) (by first | assumption | exact Nat.lt_trans (by assumption) PN | decide | decide +kernel) hr7
  · (show r7 = false; rw [hr7]; exact Bool.eq_false_iff.2 hf)
  · exact rformed_g Ts x1 y1 b1 (by first | assumption | exact Nat.lt_trans (by assumption) PN | decide | decide +kernel) (by first | assumption | exact Nat.lt_trans (by assumption) PN | decide | decide +kernel) hr8
  · (show r8 = false; rw [hr8]; exact Bool.eq_false_iff.2 hf)
theorem wEdBytes (x1 y1 : Nat) (b1 : Bool) (l : List Int) (Ts : TR) (hx1 : x1 < N) (hy1 : y1 < N) (hb : IsBytes l) : CallS Tryd.prog (LE Ts) 10 [.val (.agg #[.int .u64 (lm x1 0), .int .u64 (lm x1 1), .int .u64 (lm x1 2), .int .u64 (lm x1 3), .int .u64 (lm y1 0), .int .u64 (lm y1 1), .int .u64 (lm y1 2), .int .u64 (lm y1 3), .bool b1]), .bytes l] [.val (.bool true)] := by
  by_cases hl : l.length ≤ 100
  · cases hk : (decL l).2.2 with
    | true =>
      by_cases hf : formedB x1 y1 b1 = true
      · exact bytes_a x1 y1 b1 l Ts hx1 hy1 hb hl hk hf
      · exact bytes_b x1 y1 b1 l Ts hx1 hy1 hb hl hk hf
    | false =>
      by_cases hf : formedB x1 y1 b1 = true
      · exact bytes_c x1 y1 b1 l Ts hx1 hy1 hb hl hk hf
      · exact bytes_d x1 y1 b1 l Ts hx1 hy1 hb hl hk hf
  · exact bytes_long x1 y1 b1 l Ts hx1 hy1 hb hl
end Go.Proofs.YtdgjlcmedkmgbaaDoor
