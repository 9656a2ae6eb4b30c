/- The reference of chapter 2, run: taking away. -/
import Derived.Test.YtdgjlcmedkmgbaaDoorRel02a
import Derived.Test.YtdgjlcmedkmgbaaDoorFmat
set_option linter.unusedVariables false
set_option linter.unusedSimpArgs false
namespace Go.Proofs.YtdgjlcmedkmgbaaDoor
open Go.RowKit Go.Num Go.Sx

set_option maxHeartbeats 4000000 in
theorem rsub1 (nn : Int) (a : Nat) (b : Nat) {m : Nat} (gN : m < N) (g1 : 1 < m) (hmod : CallP Tryd.prog 22 #[.int .i64 nn] (.agg #[.int .u64 (lm m 0), .int .u64 (lm m 1), .int .u64 (lm m 2), .int .u64 (lm m 3)])) (ha : a < N) (hb : b < N) (z : Nat) (hz : z = sb m a b) (hl : a % m < b % m) (w : World) : Calls Tryd.prog 21 #[.int .i64 nn, .agg #[.int .u64 (lm a 0), .int .u64 (lm a 1), .int .u64 (lm a 2), .int .u64 (lm a 3)], .agg #[.int .u64 (lm b 0), .int .u64 (lm b 1), .int .u64 (lm b 2), .int .u64 (lm b 3)]] w fun e w' => e = .returned (.agg #[.int .u64 (lm z 0), .int .u64 (lm z 1), .int .u64 (lm z 2), .int .u64 (lm z 3)]) ∧ Below w.heap.size w w' := by
  obtain ⟨r1, hr1⟩ : ∃ r : Nat, r = a % m := ⟨_, rfl⟩
  have br1 : r1 < m := (by rw [hr1]; exact Nat.mod_lt _ (by omega))
  obtain ⟨r2, hr2⟩ : ∃ r : Nat, r = b % m := ⟨_, rfl⟩
  have br2 : r2 < m := (by rw [hr2]; exact Nat.mod_lt _ (by omega))
  obtain ⟨r3, hr3⟩ : ∃ r : Bool, r = decide (r1 < r2) := ⟨_, rfl⟩
  obtain ⟨r4, hr4⟩ : ∃ r : Nat, r = (m + N - r2) % N := ⟨_, rfl⟩
  have br4 : r4 < N := (by rw [hr4]; exact Nat.mod_lt _ N_pos)
  obtain ⟨r5, hr5⟩ : ∃ r : Bool, r = decide (m < r2) := ⟨_, rfl⟩
  obtain ⟨r6, hr6⟩ : ∃ r : Nat, r = (r1 + r4) % m := ⟨_, rfl⟩
  have br6 : r6 < m := (by rw [hr6]; exact Nat.mod_lt _ (by omega))
  have e4 : r4 = m - r2 := (by rw [hr4]; exact sub_red (by omega) gN)
  have b4 : r4 < m := (by rw [e4, hr2]; omega)
  have hrun := calls_of_runG (P := Tryd.prog) (v := ⟨fun n => ([nn, ((lm a 0 : Nat) : Int), ((lm a 1 : Nat) : Int), ((lm a 2 : Nat) : Int), ((lm a 3 : Nat) : Int), ((lm b 0 : Nat) : Int), ((lm b 1 : Nat) : Int), ((lm b 2 : Nat) : Int), ((lm b 3 : Nat) : Int), ((lm r1 0 : Nat) : Int), ((lm r1 1 : Nat) : Int), ((lm r1 2 : Nat) : Int), ((lm r1 3 : Nat) : Int), ((lm r2 0 : Nat) : Int), ((lm r2 1 : Nat) : Int), ((lm r2 2 : Nat) : Int), ((lm r2 3 : Nat) : Int), 0, ((lm m 0 : Nat) : Int), ((lm m 1 : Nat) : Int), ((lm m 2 : Nat) : Int), ((lm m 3 : Nat) : Int), ((lm r4 0 : Nat) : Int), ((lm r4 1 : Nat) : Int), ((lm r4 2 : Nat) : Int), ((lm r4 3 : Nat) : Int), 0, ((lm m 0 : Nat) : Int), ((lm m 1 : Nat) : Int), ((lm m 2 : Nat) : Int), ((lm m 3 : Nat) : Int), ((lm r6 0 : Nat) : Int), ((lm r6 1 : Nat) : Int), ((lm r6 2 : Nat) : Int), ((lm r6 3 : Nat) : Int)] : List Int).getD n 0, fun n => ([false, false, false, false, false, false, false, false, false, false, false, false, false, false, false, false, false, r3, false, false, false, false, false, false, false, false, r5] : List Bool).getD n false, fun n => ([] : List (List Int)).getD n [], fun n => ([] : List (List (List Int))).getD n [], L0, w⟩) (gs := []) (fuel := 3000) (nv := 9) (args := [(.sc (.int .i64 (.var 0))), (.agg [.int .u64 (.var 1), .int .u64 (.var 2), .int .u64 (.var 3), .int .u64 (.var 4)]), (.agg [.int .u64 (.var 5), .int .u64 (.var 6), .int .u64 (.var 7), .int .u64 (.var 8)])]) (ora := [some true]) (sums := []) (res := [(.agg [.int .u64 (.var 31), .int .u64 (.var 32), .int .u64 (.var 33), .int .u64 (.var 34)])]) (ev := [.call 23 [(.sc (.int .i64 (.var 0))), (.agg [.int .u64 (.var 1), .int .u64 (.var 2), .int .u64 (.var 3), .int .u64 (.var 4)])] (.one (.agg [.int .u64 (.var 9), .int .u64 (.var 10), .int .u64 (.var 11), .int .u64 (.var 12)])), .call 23 [(.sc (.int .i64 (.var 0))), (.agg [.int .u64 (.var 5), .int .u64 (.var 6), .int .u64 (.var 7), .int .u64 (.var 8)])] (.one (.agg [.int .u64 (.var 13), .int .u64 (.var 14), .int .u64 (.var 15), .int .u64 (.var 16)])), .call 49 [(.agg [.int .u64 (.var 9), .int .u64 (.var 10), .int .u64 (.var 11), .int .u64 (.var 12)]), (.agg [.int .u64 (.var 13), .int .u64 (.var 14), .int .u64 (.var 15), .int .u64 (.var 16)])] (.one (.sc (.bool (.var 17)))), .dec (.var 17) true, .call 22 [(.sc (.int .i64 (.var 0)))] (.one (.agg [.int .u64 (.var 18), .int .u64 (.var 19), .int .u64 (.var 20), .int .u64 (.var 21)])), .call 50 [(.agg [.int .u64 (.var 18), .int .u64 (.var 19), .int .u64 (.var 20), .int .u64 (.var 21)]), (.agg [.int .u64 (.var 13), .int .u64 (.var 14), .int .u64 (.var 15), .int .u64 (.var 16)])] (.tup [(.agg [.int .u64 (.var 22), .int .u64 (.var 23), .int .u64 (.var 24), .int .u64 (.var 25)]), (.sc (.bool (.var 26)))]), .call 22 [(.sc (.int .i64 (.var 0)))] (.one (.agg [.int .u64 (.var 27), .int .u64 (.var 28), .int .u64 (.var 29), .int .u64 (.var 30)])), .call 51 [(.agg [.int .u64 (.var 27), .int .u64 (.var 28), .int .u64 (.var 29), .int .u64 (.var 30)]), (.agg [.int .u64 (.var 9), .int .u64 (.var 10), .int .u64 (.var 11), .int .u64 (.var 12)]), (.agg [.int .u64 (.var 22), .int .u64 (.var 23), .int .u64 (.var 24), .int .u64 (.var 25)])] (.one (.agg [.int .u64 (.var 31), .int .u64 (.var 32), .int .u64 (.var 33), .int .u64 (.var 34)]))]) (lev := []) Tryd.func21 (by kernel_rfl) (by kernel_rfl)
    (evs_of ⟨?_, ?_, ?_, ?_, ?_, ?_, ?_, ?_, trivial⟩) (by simp) (GsOk.nil _) (Nat.zero_le _) trivial
  · (refine calls_eq hrun ?_; have E : z = r6 := (by rw [hz, hr6, e4, hr1, hr2]; unfold sb; congr 1; have := Nat.mod_lt b (show m > 0 by omega); omega); rw [E]; rfl)
  · exact CallP.g (rfold_l gN g1 hmod a (by first | assumption | exact Nat.lt_trans (by assumption) gN | decide) hr1)
  · exact CallP.g (rfold_l gN g1 hmod b (by first | assumption | exact Nat.lt_trans (by assumption) gN | decide) hr2)
  · exact CallP.g (ref_less_l r1 r2 (by first | assumption | exact Nat.lt_trans (by assumption) gN | decide) (by first | assumption | exact Nat.lt_trans (by assumption) gN | decide) hr3)
  · (show _ = true; simp [Bx.den, hr3, hr1, hr2, hl])
  · exact CallP.g (hmod)
  · exact CallP.g (ref_sub_l m r2 (by first | assumption | exact Nat.lt_trans (by assumption) gN | decide) (by first | assumption | exact Nat.lt_trans (by assumption) gN | decide) hr4 hr5)
  · exact CallP.g (hmod)
  · exact CallP.g (rplus_l gN r1 r4 (by assumption) (by assumption) hr6)

set_option maxHeartbeats 4000000 in
theorem rsub2 (nn : Int) (a : Nat) (b : Nat) {m : Nat} (gN : m < N) (g1 : 1 < m) (hmod : CallP Tryd.prog 22 #[.int .i64 nn] (.agg #[.int .u64 (lm m 0), .int .u64 (lm m 1), .int .u64 (lm m 2), .int .u64 (lm m 3)])) (ha : a < N) (hb : b < N) (z : Nat) (hz : z = sb m a b) (hl : ¬ a % m < b % m) (w : World) : Calls Tryd.prog 21 #[.int .i64 nn, .agg #[.int .u64 (lm a 0), .int .u64 (lm a 1), .int .u64 (lm a 2), .int .u64 (lm a 3)], .agg #[.int .u64 (lm b 0), .int .u64 (lm b 1), .int .u64 (lm b 2), .int .u64 (lm b 3)]] w fun e w' => e = .returned (.agg #[.int .u64 (lm z 0), .int .u64 (lm z 1), .int .u64 (lm z 2), .int .u64 (lm z 3)]) ∧ Below w.heap.size w w' := by
  obtain ⟨r1, hr1⟩ : ∃ r : Nat, r = a % m := ⟨_, rfl⟩
  have br1 : r1 < m := (by rw [hr1]; exact Nat.mod_lt _ (by omega))
  obtain ⟨r2, hr2⟩ : ∃ r : Nat, r = b % m := ⟨_, rfl⟩
  have br2 : r2 < m := (by rw [hr2]; exact Nat.mod_lt _ (by omega))
  obtain ⟨r3, hr3⟩ : ∃ r : Bool, r = decide (r1 < r2) := ⟨_, rfl⟩
  obtain ⟨r4, hr4⟩ : ∃ r : Nat, r = (r1 + N - r2) % N := ⟨_, rfl⟩
  have br4 : r4 < N := (by rw [hr4]; exact Nat.mod_lt _ N_pos)
  obtain ⟨r5, hr5⟩ : ∃ r : Bool, r = decide (r1 < r2) := ⟨_, rfl⟩
  have e4 : r4 = r1 - r2 := (by rw [hr4]; exact sub_red (by rw [hr1, hr2]; omega) (by omega))
  have hrun := calls_of_runG (P := Tryd.prog) (v := ⟨fun n => ([nn, ((lm a 0 : Nat) : Int), ((lm a 1 : Nat) : Int), ((lm a 2 : Nat) : Int), ((lm a 3 : Nat) : Int), ((lm b 0 : Nat) : Int), ((lm b 1 : Nat) : Int), ((lm b 2 : Nat) : Int), ((lm b 3 : Nat) : Int), ((lm r1 0 : Nat) : Int), ((lm r1 1 : Nat) : Int), ((lm r1 2 : Nat) : Int), ((lm r1 3 : Nat) : Int), ((lm r2 0 : Nat) : Int), ((lm r2 1 : Nat) : Int), ((lm r2 2 : Nat) : Int), ((lm r2 3 : Nat) : Int), 0, ((lm r4 0 : Nat) : Int), ((lm r4 1 : Nat) : Int), ((lm r4 2 : Nat) : Int), ((lm r4 3 : Nat) : Int)] : List Int).getD n 0, fun n => ([false, false, false, false, false, false, false, false, false, false, false, false, false, false, false, false, false, r3, false, false, false, false, r5] : List Bool).getD n false, fun n => ([] : List (List Int)).getD n [], fun n => ([] : List (List (List Int))).getD n [], L0, w⟩) (gs := []) (fuel := 3000) (nv := 9) (args := [(.sc (.int .i64 (.var 0))), (.agg [.int .u64 (.var 1), .int .u64 (.var 2), .int .u64 (.var 3), .int .u64 (.var 4)]), (.agg [.int .u64 (.var 5), .int .u64 (.var 6), .int .u64 (.var 7), .int .u64 (.var 8)])]) (ora := [some false]) (sums := []) (res := [(.agg [.int .u64 (.var 18), .int .u64 (.var 19), .int .u64 (.var 20), .int .u64 (.var 21)])]) (ev := [.call 23 [(.sc (.int .i64 (.var 0))), (.agg [.int .u64 (.var 1), .int .u64 (.var 2), .int .u64 (.var 3), .int .u64 (.var 4)])] (.one (.agg [.int .u64 (.var 9), .int .u64 (.var 10), .int .u64 (.var 11), .int .u64 (.var 12)])), .call 23 [(.sc (.int .i64 (.var 0))), (.agg [.int .u64 (.var 5), .int .u64 (.var 6), .int .u64 (.var 7), .int .u64 (.var 8)])] (.one (.agg [.int .u64 (.var 13), .int .u64 (.var 14), .int .u64 (.var 15), .int .u64 (.var 16)])), .call 49 [(.agg [.int .u64 (.var 9), .int .u64 (.var 10), .int .u64 (.var 11), .int .u64 (.var 12)]), (.agg [.int .u64 (.var 13), .int .u64 (.var 14), .int .u64 (.var 15), .int .u64 (.var 16)])] (.one (.sc (.bool (.var 17)))), .dec (.var 17) false, .call 50 [(.agg [.int .u64 (.var 9), .int .u64 (.var 10), .int .u64 (.var 11), .int .u64 (.var 12)]), (.agg [.int .u64 (.var 13), .int .u64 (.var 14), .int .u64 (.var 15), .int .u64 (.var 16)])] (.tup [(.agg [.int .u64 (.var 18), .int .u64 (.var 19), .int .u64 (.var 20), .int .u64 (.var 21)]), (.sc (.bool (.var 22)))])]) (lev := []) Tryd.func21 (by kernel_rfl) (by kernel_rfl)
    (evs_of ⟨?_, ?_, ?_, ?_, ?_, trivial⟩) (by simp) (GsOk.nil _) (Nat.zero_le _) trivial
  · (refine calls_eq hrun ?_; have E : z = r4 := (by rw [hz, e4, hr1, hr2]; unfold sb; have := Nat.mod_lt a (show m > 0 by omega); rw [show a % m + m - b % m = (a % m - b % m) + m by omega, Nat.add_mod_right, Nat.mod_eq_of_lt (by omega)]); rw [E]; rfl)
  · exact CallP.g (rfold_l gN g1 hmod a (by first | assumption | exact Nat.lt_trans (by assumption) gN | decide) hr1)
  · exact CallP.g (rfold_l gN g1 hmod b (by first | assumption | exact Nat.lt_trans (by assumption) gN | decide) hr2)
  · exact CallP.g (ref_less_l r1 r2 (by first | assumption | exact Nat.lt_trans (by assumption) gN | decide) (by first | assumption | exact Nat.lt_trans (by assumption) gN | decide) hr3)
  · (show _ = false; simp [Bx.den, hr3, hr1, hr2]; omega)
  · exact CallP.g (ref_sub_l r1 r2 (by first | assumption | exact Nat.lt_trans (by assumption) gN | decide) (by first | assumption | exact Nat.lt_trans (by assumption) gN | decide) hr4 hr5)

theorem rsub_l {nn : Int} {m : Nat} (gN : m < N) (g1 : 1 < m) (hmod : CallP Tryd.prog 22 #[.int .i64 nn] (.agg #[.int .u64 (lm m 0), .int .u64 (lm m 1), .int .u64 (lm m 2), .int .u64 (lm m 3)])) (a b : Nat) (ha : a < N) (hb : b < N) {r : Nat} (hr : r = sb m a b) : CallP Tryd.prog 21 #[.int .i64 nn, .agg #[.int .u64 (lm a 0), .int .u64 (lm a 1), .int .u64 (lm a 2), .int .u64 (lm a 3)], .agg #[.int .u64 (lm b 0), .int .u64 (lm b 1), .int .u64 (lm b 2), .int .u64 (lm b 3)]] (.agg #[.int .u64 (lm r 0), .int .u64 (lm r 1), .int .u64 (lm r 2), .int .u64 (lm r 3)]) := by
  refine callP_of Tryd.func21 (by kernel_rfl) (by kernel_rfl) (fun w => ?_)
  by_cases hl : a % m < b % m
  · exact rsub1 nn a b gN g1 hmod ha hb r hr hl w
  · exact rsub2 nn a b gN g1 hmod ha hb r hr hl w

set_option maxHeartbeats 4000000 in
theorem rsmall1   (w : World) : Calls Tryd.prog 67 #[.int .u64 (1 : Int)] w fun e w' => e = .returned (.agg #[.int .u64 (lm 1 0), .int .u64 (lm 1 1), .int .u64 (lm 1 2), .int .u64 (lm 1 3)]) ∧ Below w.heap.size w w' := by
  have hrun := calls_of_runG (P := Tryd.prog) (v := ⟨fun n => ([] : List Int).getD n 0, fun n => ([] : List Bool).getD n false, fun n => ([] : List (List Int)).getD n [], fun n => ([] : List (List (List Int))).getD n [], L0, w⟩) (gs := []) (fuel := 3000) (nv := 0) (args := [(.sc (.int .u64 (.lit 1)))]) (ora := []) (sums := []) (res := [(.agg [.int .u64 (.lit 1), .int .u64 (.lit 0), .int .u64 (.lit 0), .int .u64 (.lit 0)])]) (ev := []) (lev := []) Tryd.func67 (by kernel_rfl) (by kernel_rfl)
    (by simp) (by simp) (GsOk.nil _) (Nat.zero_le _) trivial
  · (exact calls_eq hrun (by kernel_rfl))

theorem rsmall1_c : CallP Tryd.prog 67 #[.int .u64 (1 : Int)] (.agg #[.int .u64 (lm 1 0), .int .u64 (lm 1 1), .int .u64 (lm 1 2), .int .u64 (lm 1 3)]) :=
  callP_of Tryd.func67 (by kernel_rfl) (by kernel_rfl) (fun w => rsmall1 w)

set_option maxHeartbeats 4000000 in
theorem rsmall2   (w : World) : Calls Tryd.prog 67 #[.int .u64 (2 : Int)] w fun e w' => e = .returned (.agg #[.int .u64 (lm 2 0), .int .u64 (lm 2 1), .int .u64 (lm 2 2), .int .u64 (lm 2 3)]) ∧ Below w.heap.size w w' := by
  have hrun := calls_of_runG (P := Tryd.prog) (v := ⟨fun n => ([] : List Int).getD n 0, fun n => ([] : List Bool).getD n false, fun n => ([] : List (List Int)).getD n [], fun n => ([] : List (List (List Int))).getD n [], L0, w⟩) (gs := []) (fuel := 3000) (nv := 0) (args := [(.sc (.int .u64 (.lit 2)))]) (ora := []) (sums := []) (res := [(.agg [.int .u64 (.lit 2), .int .u64 (.lit 0), .int .u64 (.lit 0), .int .u64 (.lit 0)])]) (ev := []) (lev := []) Tryd.func67 (by kernel_rfl) (by kernel_rfl)
    (by simp) (by simp) (GsOk.nil _) (Nat.zero_le _) trivial
  · (exact calls_eq hrun (by kernel_rfl))

theorem rsmall2_c : CallP Tryd.prog 67 #[.int .u64 (2 : Int)] (.agg #[.int .u64 (lm 2 0), .int .u64 (lm 2 1), .int .u64 (lm 2 2), .int .u64 (lm 2 3)]) :=
  callP_of Tryd.func67 (by kernel_rfl) (by kernel_rfl) (fun w => rsmall2 w)

theorem rsmall1_l {r : Nat} (hr : r = 1) : CallP Tryd.prog 67 #[.int .u64 (1 : Int)] (.agg #[.int .u64 (lm r 0), .int .u64 (lm r 1), .int .u64 (lm r 2), .int .u64 (lm r 3)]) := by
  subst hr
  exact rsmall1_c







end Go.Proofs.YtdgjlcmedkmgbaaDoor
