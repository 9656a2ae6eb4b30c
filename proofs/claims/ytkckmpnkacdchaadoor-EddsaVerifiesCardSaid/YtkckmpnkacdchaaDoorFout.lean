/- The field out of range. -/
import Derived.Test.YtkckmpnkacdchaaDoorFlo0
import Derived.Test.YtkckmpnkacdchaaDoorRel02a
set_option linter.unusedVariables false
set_option linter.unusedSimpArgs false
set_option maxHeartbeats 4000000
namespace Go.Proofs.YtkckmpnkacdchaaDoor
open Go.RowKit Go.Num Go.Sx
abbrev JS1 : A := .sc (.int .i64 (.var 0))
abbrev JS3 : A := .agg [.v 1, .v 2, .v 3, .v 4]
abbrev JS4 : A := .agg [.v 5, .v 6, .v 7, .v 8]
abbrev JS5 : List A := [(.agg [.n 0, .n 0, .n 0, .n 0])]
abbrev JS6 : List A := [(.agg [.n 0, .n 0, .n 0, .n 0, .n 0, .n 0, .n 0, .n 0, .n 0]), (.sc (.bool (.lit false)))]
theorem of_neg (nn : Int) (T : TypeId) (h : nn < 0) (w : World) (hK : (LF T).K ≤ w.heap.size) (hG : (LF T).G w) : Calls Tryd.prog 58 #[.int .i64 nn] w fun e w' => e = .returned (.tuple #[.agg #[.int .u64 0, .int .u64 0, .int .u64 0, .int .u64 0, .int .u64 0, .int .u64 0, .int .u64 0, .int .u64 0, .int .u64 0], .bool false]) ∧ Below w.heap.size w w' := by
 have hrun := calls_of_runG (P := Tryd.prog) (v := ⟨envI [nn], envB [], envL [], envP [], LF T, w⟩) (gs := [(4, ⟨T, modA, false, false, false, none⟩)]) (fuel := 3000) (nv := 1) (args := [JS1]) (ora := [some true]) (sums := []) (res := JS6) (ev := [.dec (.cmp .lss (.var 0) (.lit 0)) true]) (lev := []) Tryd.func58 (by kernel_rfl) (by kernel_rfl)
  (evs_of ⟨?_, trivial⟩) (by simp) (modOk T) hK hG
 ·(exact hrun)
 ·exact dec_lt_t (a := nn) (b := 0) rfl rfl (by omega)
theorem of_big (nn : Int) (T : TypeId) (h : 3 < nn) (w : World) (hK : (LF T).K ≤ w.heap.size) (hG : (LF T).G w) : Calls Tryd.prog 58 #[.int .i64 nn] w fun e w' => e = .returned (.tuple #[.agg #[.int .u64 0, .int .u64 0, .int .u64 0, .int .u64 0, .int .u64 0, .int .u64 0, .int .u64 0, .int .u64 0, .int .u64 0], .bool false]) ∧ Below w.heap.size w w' := by
 have hrun := calls_of_runG (P := Tryd.prog) (v := ⟨envI [nn], envB [], envL [], envP [], LF T, w⟩) (gs := [(4, ⟨T, modA, false, false, false, none⟩)]) (fuel := 3000) (nv := 1) (args := [JS1]) (ora := [some false, some true]) (sums := []) (res := JS6) (ev := [.dec (.cmp .lss (.var 0) (.lit 0)) false, .dec (.cmp .gtr (.var 0) (.lit 3)) true]) (lev := []) Tryd.func58 (by kernel_rfl) (by kernel_rfl)
  (evs_of ⟨?_, ?_, trivial⟩) (by simp) (modOk T) hK hG
 ·(exact hrun)
 ·exact dec_lt_f (a := nn) (b := 0) rfl rfl (by omega)
 ·exact dec_gt_t (a := nn) (b := 3) rfl rfl (by omega)
theorem of_out (T : TypeId) {n : Int} (h : ¬ (0 ≤ n ∧ n ≤ 3)) : CallG Tryd.prog (LF T) 58 #[.int .i64 n] (.tuple #[.agg #[.int .u64 0, .int .u64 0, .int .u64 0, .int .u64 0, .int .u64 0, .int .u64 0, .int .u64 0, .int .u64 0, .int .u64 0], .bool false]) := by
 by_cases h0 : n < 0
 ·exact callG_of Tryd.func58 (by kernel_rfl) (by kernel_rfl) (fun w hK hG => of_neg n T h0 w hK hG)
 ·exact callG_of Tryd.func58 (by kernel_rfl) (by kernel_rfl) (fun w hK hG => of_big n T (by omega) w hK hG)
theorem lm_zz (j : Nat) : lm 0 j = 0 := by unfold lm; rw [Nat.zero_div, Nat.zero_mod]
theorem zmodulus_run (nn : Int) (T : TypeId) (h : ¬ (0 ≤ nn ∧ nn ≤ 3)) (w : World) (hK : (LF T).K ≤ w.heap.size) (hG : (LF T).G w) : Calls Tryd.prog 68 #[.int .i64 nn] w fun e w' => e = .returned (.agg #[.int .u64 (lm 0 0), .int .u64 (lm 0 1), .int .u64 (lm 0 2), .int .u64 (lm 0 3)]) ∧ Below w.heap.size w w' := by
 have hrun := calls_of_runG (P := Tryd.prog) (v := ⟨envI [nn, (0 : Int), (0 : Int), (0 : Int), (0 : Int), (0 : Int), (0 : Int), (0 : Int), (0 : Int), (0 : Int)], envB [false, false, false, false, false, false, false, false, false, false, false], envL [], envP [], LF T, w⟩) (gs := []) (fuel := 3000) (nv := 1) (args := [JS1]) (ora := [some false]) (sums := []) (res := [JS3]) (ev := [.call 58 [JS1] (.tup [(.agg [.v 1, .v 2, .v 3, .v 4, .v 5, .v 6, .v 7, .v 8, .v 9]), (.sc (.bool (.var 10)))]), .dec (.var 10) false]) (lev := []) Tryd.func68 (by kernel_rfl) (by kernel_rfl)
  (evs_of ⟨?_, ?_, trivial⟩) (by simp) (GsOk.nil _) hK hG
 ·(exact calls_eq hrun (by first | rfl | kernel_rfl))
 ·exact of_out T h
 ·simp [Ev.holds, Bx.den, cmpD, I.den, I.ldn, envI, envB, envL, envP] <;> omega
theorem zmodulus_g (T : TypeId) {n : Int} (h : ¬ (0 ≤ n ∧ n ≤ 3))  {r : Nat} (hr : r = 0) : CallG Tryd.prog (LF T) 68 #[.int .i64 n] (vN r) := by
 subst hr
 exact callG_of Tryd.func68 (by kernel_rfl) (by kernel_rfl) (fun w hK hG => zmodulus_run n  T h w hK hG)
theorem rmodz_run (nn : Int) (h : ¬ (0 ≤ nn ∧ nn ≤ 3)) (w : World) : Calls Tryd.prog 14 #[.int .i64 nn] w fun e w' => e = .returned (.agg #[.int .u64 (lm 0 0), .int .u64 (lm 0 1), .int .u64 (lm 0 2), .int .u64 (lm 0 3)]) ∧ Below w.heap.size w w' := by
 have hrun := calls_of_runG (P := Tryd.prog) (v := ⟨envI [nn], envB [], envL [], envP [], L0, w⟩) (gs := []) (fuel := 3000) (nv := 1) (args := [JS1]) (ora := [some false, some false, some false, some false]) (sums := []) (res := JS5) (ev := [.dec (.cmp .eql (.var 0) (.lit 0)) false, .dec (.cmp .eql (.var 0) (.lit 1)) false, .dec (.cmp .eql (.var 0) (.lit 2)) false, .dec (.cmp .eql (.var 0) (.lit 3)) false]) (lev := []) Tryd.func14 (by kernel_rfl) (by kernel_rfl)
  (evs_of ⟨?_, ?_, ?_, ?_, trivial⟩) (by simp) (GsOk.nil _) (Nat.zero_le _) trivial
 ·(exact calls_eq hrun (by first | rfl | kernel_rfl))
 ·exact dec_eq_f (a := nn) (b := 0) rfl rfl (by omega)
 ·exact dec_eq_f (a := nn) (b := 1) rfl rfl (by omega)
 ·exact dec_eq_f (a := nn) (b := 2) rfl rfl (by omega)
 ·exact dec_eq_f (a := nn) (b := 3) rfl rfl (by omega)
theorem rmodz_c {n : Int} (h : ¬ (0 ≤ n ∧ n ≤ 3)) {r : Nat} (hr : r = 0) : CallP Tryd.prog 14 #[.int .i64 n] (vN r) := by
 subst hr
 exact callP_of Tryd.func14 (by kernel_rfl) (by kernel_rfl) (fun w => rmodz_run n h w)
def Mz (n : Int) : Nat := if 0 ≤ n ∧ n ≤ 3 then Mo n else 0
theorem Mz_lt (n : Int) : Mz n < N := by
 unfold Mz
 split
 ·exact (gm (by omega) (by omega)).hm
 ·decide
theorem vmodulus_g (T : TypeId) (n : Int) {r : Nat} (hr : r = Mz n) : CallG Tryd.prog (LF T) 68 #[.int .i64 n] (vN r) := by
 unfold Mz at hr
 split at hr
 ·rename_i h; exact xmodulus_g T h.1 h.2 hr
 ·rename_i h; exact zmodulus_g T h hr
theorem vrmod_c (n : Int) {r : Nat} (hr : r = Mz n) : CallP Tryd.prog 14 #[.int .i64 n] (vN r) := by
 unfold Mz at hr
 split at hr
 ·rename_i h; exact rmod_c h.1 h.2 hr
 ·rename_i h; exact rmodz_c h hr
theorem below_run (nn : Int) (a : Nat) (T : TypeId) (ha : a < N) (m : Nat) (hm : m = Mz nn) (z : Bool) (hz : z = decide (a < m)) (w : World) (hK : (LF T).K ≤ w.heap.size) (hG : (LF T).G w) : Calls Tryd.prog 33 #[.int .i64 nn, vN a] w fun e w' => e = .returned (.bool z) ∧ Below w.heap.size w w' := by
 have bm : m < N := by rw [hm]; exact Mz_lt nn
 obtain ⟨r1, hr1⟩ : ∃ r : Int, r = cmpN a m := ⟨_, rfl⟩
 have hrun := calls_of_runG (P := Tryd.prog) (v := ⟨envI [nn, lm a 0, lm a 1, lm a 2, lm a 3, lm m 0, lm m 1, lm m 2, lm m 3, r1], envB [], envL [], envP [], LF T, w⟩) (gs := []) (fuel := 3000) (nv := 5) (args := [JS1, JS3]) (ora := []) (sums := []) (res := [(.sc (.bool (.cmp .lss (.var 9) (.lit 0))))]) (ev := [.call 68 [JS1] (.one JS4), .call 67 [JS3, JS4] (.one (.sc (.int .i64 (.var 9))))]) (lev := []) Tryd.func33 (by kernel_rfl) (by kernel_rfl)
  (evs_of ⟨?_, ?_, trivial⟩) (by simp) (GsOk.nil _) hK hG
 ·(refine hrun.mono fun e w' h => ⟨h.1.trans (congrArg (fun z => Ending.returned (Value.bool z)) (show (decide (r1 < (0 : Int))) = z from ?_)), h.2⟩; (rw [hz, hr1]; exact cmpN_neg a m))
 ·exact vmodulus_g T nn hm
 ·exact CallP.g (limb_cmp_l a m (by first | assumption | exact Nat.mod_lt _ (by decide) | (show _ < _; decide) | omega) (by first | assumption | exact Nat.mod_lt _ (by decide) | (show _ < _; decide) | omega) hr1)
theorem below_g (T : TypeId) (n : Int) (a : Nat) (ha : a < N) {z : Bool} (hz : z = decide (a < Mz n)) : CallG Tryd.prog (LF T) 33 #[.int .i64 n, vN a] (.bool z) :=
 callG_of Tryd.func33 (by kernel_rfl) (by kernel_rfl) (fun w hK hG => below_run n a T ha _ rfl z hz w hK hG)
theorem rbelow_run (nn : Int) (a : Nat) (T : TypeId) (ha : a < N) (m : Nat) (hm : m = Mz nn) (z : Bool) (hz : z = decide (a < m)) (w : World) (hK : (LF T).K ≤ w.heap.size) (hG : (LF T).G w) : Calls Tryd.prog 19 #[.int .i64 nn, vN a] w fun e w' => e = .returned (.bool z) ∧ Below w.heap.size w w' := by
 have bm : m < N := by rw [hm]; exact Mz_lt nn
 obtain ⟨r1, hr1⟩ : ∃ r : Bool, r = decide (a < m) := ⟨_, rfl⟩
 have hrun := calls_of_runG (P := Tryd.prog) (v := ⟨envI [nn, lm a 0, lm a 1, lm a 2, lm a 3, lm m 0, lm m 1, lm m 2, lm m 3], envB [false, false, false, false, false, false, false, false, false, r1], envL [], envP [], LF T, w⟩) (gs := []) (fuel := 3000) (nv := 5) (args := [JS1, JS3]) (ora := []) (sums := []) (res := [(.sc (.bool (.var 9)))]) (ev := [.call 14 [JS1] (.one JS4), .call 51 [JS3, JS4] (.one (.sc (.bool (.var 9))))]) (lev := []) Tryd.func19 (by kernel_rfl) (by kernel_rfl)
  (evs_of ⟨?_, ?_, trivial⟩) (by simp) (GsOk.nil _) hK hG
 ·(refine hrun.mono fun e w' h => ⟨h.1.trans (congrArg (fun z => Ending.returned (Value.bool z)) (show r1 = z from ?_)), h.2⟩; (rw [hz, hr1]))
 ·exact CallP.g (vrmod_c nn hm)
 ·exact CallP.g (ref_less_l a m (by first | assumption | exact Nat.mod_lt _ (by decide) | (show _ < _; decide) | omega) (by first | assumption | exact Nat.mod_lt _ (by decide) | (show _ < _; decide) | omega) hr1)
theorem rbelow_g (T : TypeId) (n : Int) (a : Nat) (ha : a < N) {z : Bool} (hz : z = decide (a < Mz n)) : CallG Tryd.prog (LF T) 19 #[.int .i64 n, vN a] (.bool z) :=
 callG_of Tryd.func19 (by kernel_rfl) (by kernel_rfl) (fun w hK hG => rbelow_run n a T ha _ rfl z hz w hK hG)
end Go.Proofs.YtkckmpnkacdchaaDoor
