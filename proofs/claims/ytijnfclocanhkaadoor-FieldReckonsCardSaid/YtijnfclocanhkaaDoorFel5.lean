/- A wide number, reduced. -/
import Derived.Test.YtijnfclocanhkaaDoorFel4
import Derived.Test.YtijnfclocanhkaaDoorFmat
set_option linter.unusedVariables false
set_option linter.unusedSimpArgs false
namespace Go.Proofs.YtijnfclocanhkaaDoor
open Go.RowKit Go.Num Go.Sx

theorem red_eq (lo hi m : Nat) : (lo + N * hi) % m = (lo % m + hi % m * N % m) % m := by rw [Nat.add_mod lo (N * hi), Nat.mul_comm N hi, Nat.mul_mod hi N, Nat.mul_mod (hi % m) N, Nat.mod_mod]

set_option maxHeartbeats 4000000 in
theorem xreduce_run (nn : Int) (lo hi : Nat) (T : TypeId) {m sq iv ni : Nat} (g : GM m sq iv ni) (hof_g : CallG Tryd.prog (LF T) 42 #[.int .i64 nn] (.tuple #[.agg #[.int .u64 (lm m 0), .int .u64 (lm m 1), .int .u64 (lm m 2), .int .u64 (lm m 3), .int .u64 (lm sq 0), .int .u64 (lm sq 1), .int .u64 (lm sq 2), .int .u64 (lm sq 3), .int .u64 (iv : Nat)], .bool true])) (hlo : lo < N) (hhi : hi < N) {r : Nat} (hr : r = (lo + N * hi) % m) (w : World) (hK : (LF T).K ≤ w.heap.size) (hG : (LF T).G w) : Calls Tryd.prog 21 #[.int .i64 nn, .agg #[.int .u64 (lm lo 0), .int .u64 (lm lo 1), .int .u64 (lm lo 2), .int .u64 (lm lo 3), .int .u64 (lm hi 0), .int .u64 (lm hi 1), .int .u64 (lm hi 2), .int .u64 (lm hi 3)]] w fun e w' => e = .returned (.agg #[.int .u64 (lm r 0), .int .u64 (lm r 1), .int .u64 (lm r 2), .int .u64 (lm r 3)]) ∧ Below w.heap.size w w' := by
  obtain ⟨r1, hr1⟩ : ∃ r : Nat, r = lo % m := ⟨_, rfl⟩
  have br1 : r1 < m := (by rw [hr1]; exact g.mod _)
  obtain ⟨r2, hr2⟩ : ∃ r : Nat, r = hi % m := ⟨_, rfl⟩
  have br2 : r2 < m := (by rw [hr2]; exact g.mod _)
  obtain ⟨r3, hr3⟩ : ∃ r : Nat, r = hp m ni r2 sq := ⟨_, rfl⟩
  have br3 : r3 < m := (by rw [hr3]; exact hp_lt g _ _)
  obtain ⟨r4, hr4⟩ : ∃ r : Nat, r = (r1 + r3) % m := ⟨_, rfl⟩
  have br4 : r4 < m := (by rw [hr4]; exact g.mod _)
  have hrun := calls_of_runG (P := Tryd.prog) (v := ⟨fun n => ([nn, ((lm lo 0 : Nat) : Int), ((lm lo 1 : Nat) : Int), ((lm lo 2 : Nat) : Int), ((lm lo 3 : Nat) : Int), ((lm hi 0 : Nat) : Int), ((lm hi 1 : Nat) : Int), ((lm hi 2 : Nat) : Int), ((lm hi 3 : Nat) : Int), ((lm m 0 : Nat) : Int), ((lm m 1 : Nat) : Int), ((lm m 2 : Nat) : Int), ((lm m 3 : Nat) : Int), ((lm sq 0 : Nat) : Int), ((lm sq 1 : Nat) : Int), ((lm sq 2 : Nat) : Int), ((lm sq 3 : Nat) : Int), ((iv : Nat) : Int), 0, ((lm r1 0 : Nat) : Int), ((lm r1 1 : Nat) : Int), ((lm r1 2 : Nat) : Int), ((lm r1 3 : Nat) : Int), ((lm r2 0 : Nat) : Int), ((lm r2 1 : Nat) : Int), ((lm r2 2 : Nat) : Int), ((lm r2 3 : Nat) : Int), ((lm r3 0 : Nat) : Int), ((lm r3 1 : Nat) : Int), ((lm r3 2 : Nat) : Int), ((lm r3 3 : Nat) : Int), ((lm r4 0 : Nat) : Int), ((lm r4 1 : Nat) : Int), ((lm r4 2 : Nat) : Int), ((lm r4 3 : Nat) : Int)] : List Int).getD n 0, fun n => ([false, false, false, false, false, false, false, false, false, false, false, false, false, false, false, false, false, false, true] : List Bool).getD n false, fun n => ([] : List (List Int)).getD n [], fun n => ([] : List (List (List Int))).getD n [], LF T, w⟩) (gs := []) (fuel := 3000) (nv := 9) (args := [(.sc (.int .i64 (.var 0))), (.agg [.int .u64 (.var 1), .int .u64 (.var 2), .int .u64 (.var 3), .int .u64 (.var 4), .int .u64 (.var 5), .int .u64 (.var 6), .int .u64 (.var 7), .int .u64 (.var 8)])]) (ora := [some true]) (sums := []) (res := [(.agg [.int .u64 (.var 31), .int .u64 (.var 32), .int .u64 (.var 33), .int .u64 (.var 34)])]) (ev := [.call 42 [(.sc (.int .i64 (.var 0)))] (.tup [(.agg [.int .u64 (.var 9), .int .u64 (.var 10), .int .u64 (.var 11), .int .u64 (.var 12), .int .u64 (.var 13), .int .u64 (.var 14), .int .u64 (.var 15), .int .u64 (.var 16), .int .u64 (.var 17)]), (.sc (.bool (.var 18)))]), .dec (.var 18) true, .call 43 [(.agg [.int .u64 (.var 9), .int .u64 (.var 10), .int .u64 (.var 11), .int .u64 (.var 12), .int .u64 (.var 13), .int .u64 (.var 14), .int .u64 (.var 15), .int .u64 (.var 16), .int .u64 (.var 17)]), (.agg [.int .u64 (.var 1), .int .u64 (.var 2), .int .u64 (.var 3), .int .u64 (.var 4)])] (.one (.agg [.int .u64 (.var 19), .int .u64 (.var 20), .int .u64 (.var 21), .int .u64 (.var 22)])), .call 43 [(.agg [.int .u64 (.var 9), .int .u64 (.var 10), .int .u64 (.var 11), .int .u64 (.var 12), .int .u64 (.var 13), .int .u64 (.var 14), .int .u64 (.var 15), .int .u64 (.var 16), .int .u64 (.var 17)]), (.agg [.int .u64 (.var 5), .int .u64 (.var 6), .int .u64 (.var 7), .int .u64 (.var 8)])] (.one (.agg [.int .u64 (.var 23), .int .u64 (.var 24), .int .u64 (.var 25), .int .u64 (.var 26)])), .call 45 [(.agg [.int .u64 (.var 9), .int .u64 (.var 10), .int .u64 (.var 11), .int .u64 (.var 12), .int .u64 (.var 13), .int .u64 (.var 14), .int .u64 (.var 15), .int .u64 (.var 16), .int .u64 (.var 17)]), (.agg [.int .u64 (.var 23), .int .u64 (.var 24), .int .u64 (.var 25), .int .u64 (.var 26)]), (.agg [.int .u64 (.var 13), .int .u64 (.var 14), .int .u64 (.var 15), .int .u64 (.var 16)])] (.one (.agg [.int .u64 (.var 27), .int .u64 (.var 28), .int .u64 (.var 29), .int .u64 (.var 30)])), .call 44 [(.agg [.int .u64 (.var 9), .int .u64 (.var 10), .int .u64 (.var 11), .int .u64 (.var 12), .int .u64 (.var 13), .int .u64 (.var 14), .int .u64 (.var 15), .int .u64 (.var 16), .int .u64 (.var 17)]), (.agg [.int .u64 (.var 19), .int .u64 (.var 20), .int .u64 (.var 21), .int .u64 (.var 22)]), (.agg [.int .u64 (.var 27), .int .u64 (.var 28), .int .u64 (.var 29), .int .u64 (.var 30)])] (.one (.agg [.int .u64 (.var 31), .int .u64 (.var 32), .int .u64 (.var 33), .int .u64 (.var 34)]))]) (lev := []) Tryd.func21 (by kernel_rfl) (by kernel_rfl)
    (evs_of ⟨?_, ?_, ?_, ?_, ?_, ?_, trivial⟩) (by simp) (GsOk.nil _) hK hG
  · (refine calls_eq hrun ?_; have E : r = r4 := (by refine hr.trans ?_; rw [hr4, hr3, hp_sq g, hr1, hr2]; exact red_eq lo hi m); rw [E]; rfl)
  · exact hof_g
  · first | (simp [Ev.holds, Bx.den, cmpD, I.den, I.ldn]; done) | (simp [Ev.holds, Bx.den, cmpD, I.den, I.ldn]; omega)
  · exact CallP.g (fold_l g lo (by first | assumption | exact g.ltN (by assumption)) hr1)
  · exact CallP.g (fold_l g hi (by first | assumption | exact g.ltN (by assumption)) hr2)
  · exact CallP.g (half_e g r2 sq (by first | assumption | exact g.ltN (by assumption)) g.sqlt hr3)
  · exact CallP.g (madd_l g r1 r3 (by assumption) (by assumption) hr4)

theorem xreduce_g (T : TypeId) {n : Int} (h0 : 0 ≤ n) (h3 : n ≤ 3) (lo hi : Nat)  (hlo : lo < N) (hhi : hi < N) {r : Nat} (hr : r = (lo + N * hi) % Mo n) : CallG Tryd.prog (LF T) 21 #[.int .i64 n, .agg #[.int .u64 (lm lo 0), .int .u64 (lm lo 1), .int .u64 (lm lo 2), .int .u64 (lm lo 3), .int .u64 (lm hi 0), .int .u64 (lm hi 1), .int .u64 (lm hi 2), .int .u64 (lm hi 3)]] (.agg #[.int .u64 (lm r 0), .int .u64 (lm r 1), .int .u64 (lm r 2), .int .u64 (lm r 3)]) :=
  callG_of Tryd.func21 (by kernel_rfl) (by kernel_rfl) (fun w hK hG => xreduce_run n lo hi T (gm h0 h3) (of_g T h0 h3) hlo hhi hr w hK hG)

theorem lm_lo (w j : Nat) (hj : j < 4) : lm (w % N) j = lm w j := by
  unfold lm
  have hN : N = B ^ j * B ^ (4 - j) := by rw [← Nat.pow_add, show j + (4 - j) = 4 by omega]; decide +kernel
  rw [hN, Nat.mod_mul_right_div_self, Nat.mod_mod_of_dvd]
  exact Nat.dvd_of_pow_dvd (show 1 ≤ 4 - j by omega) (Nat.dvd_refl _)
theorem lm_up (w j : Nat) : lm (w / N) j = lm w (4 + j) := by
  unfold lm
  rw [Nat.div_div_eq_div_mul, Nat.pow_add, show N = B ^ 4 by decide +kernel]
theorem yreduce_g (T : TypeId) {n : Int} {m : Nat} (h0 : 0 ≤ n) (h3 : n ≤ 3) (hm : m = Mo n) (w : Nat) (hw : w < N * N) {r : Nat} (hr : r = w % m) : CallG Tryd.prog (LF T) 21 #[.int .i64 n, .agg #[.int .u64 (lm w 0), .int .u64 (lm w 1), .int .u64 (lm w 2), .int .u64 (lm w 3), .int .u64 (lm w 4), .int .u64 (lm w 5), .int .u64 (lm w 6), .int .u64 (lm w 7)]] (.agg #[.int .u64 (lm r 0), .int .u64 (lm r 1), .int .u64 (lm r 2), .int .u64 (lm r 3)]) := by
  subst hm
  have hhi : w / N < N := Nat.div_lt_of_lt_mul hw
  have h := xreduce_g T h0 h3 (w % N) (w / N) (Nat.mod_lt _ N_pos) hhi (r := r) (by rw [hr, Nat.mod_add_div])
  rw [lm_lo w 0 (by omega), lm_lo w 1 (by omega), lm_lo w 2 (by omega), lm_lo w 3 (by omega), lm_up, lm_up, lm_up, lm_up] at h
  exact h
theorem ymodulus_g (T : TypeId) {n : Int} {m : Nat} (h0 : 0 ≤ n) (h3 : n ≤ 3) (hm : m = Mo n) : CallG Tryd.prog (LF T) 31 #[.int .i64 n] (.agg #[.int .u64 (lm m 0), .int .u64 (lm m 1), .int .u64 (lm m 2), .int .u64 (lm m 3)]) := xmodulus_g T h0 h3 hm

end Go.Proofs.YtijnfclocanhkaaDoor
