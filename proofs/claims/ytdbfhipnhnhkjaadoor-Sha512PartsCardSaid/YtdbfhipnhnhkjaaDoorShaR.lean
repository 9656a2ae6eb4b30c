/- Rotations, the constants, the first state: run. -/
import Derived.Test.YtdbfhipnhnhkjaaDoorShaV
import Derived.Test.YtdbfhipnhnhkjaaDoorCalls
import Derived.Test.YtdbfhipnhnhkjaaDoorProg
set_option linter.unusedVariables false
set_option linter.unusedSimpArgs false
namespace Go.Proofs.YtdbfhipnhnhkjaaDoor
open Go.RowKit Go.Num Go.Sx

set_option maxHeartbeats 4000000 in
theorem rotl_run (x : Int) (m : Int) (k : Nat) (h1 : 1 ≤ k) (h2 : k ≤ 63) (hm : m = IntKind.i64.wrap (0 - (k : Int))) {r : Int} (hr : r = Sha.rotI x k) (w : World) : Calls Tryd.prog 20 #[.int .u64 x, .int .i64 m] w fun e w' => e = .returned (.int .u64 r) ∧ Below w.heap.size w w' := by
  have q1 : (Go.bits .and .u64 (IntKind.u64.wrap m) (63 : Int)) = ((64 - k : Nat) : Int) := by rw [hm]; exact Sha.and63 ⟨k, by omega⟩ h1
  have q2 : IntKind.u64.wrap (64 - ((64 - k : Nat) : Int)) = (k : Int) := by rw [IntKind.wrap_u64]; omega
  have hrun := calls_of_runG (P := Tryd.prog) (v := ⟨envI [x, m], envB [], envL [], envP [], L0, w⟩) (gs := []) (fuel := 3000) (nv := 2) (args := [(.sc (.v 0)), (.sc (.int .i64 (.var 1)))]) (ora := []) (sums := []) (res := [(.sc (.int .u64 (.bit .or .u64 (.shl .u64 (.var 0) (.bit .and .u64 (.conv .u64 (.var 1)) (.lit 63))) (.shr .u64 (.var 0) (.sub .u64 (.lit 64) (.bit .and .u64 (.conv .u64 (.var 1)) (.lit 63)))))))]) (ev := [.dec (.cmp .lss (.bit .and .u64 (.conv .u64 (.var 1)) (.lit 63)) (.lit 0)) false, .dec (.cmp .lss (.sub .u64 (.lit 64) (.bit .and .u64 (.conv .u64 (.var 1)) (.lit 63))) (.lit 0)) false]) (lev := []) Tryd.func20 (by kernel_rfl) (by kernel_rfl)
    (evs_of ⟨?_, ?_, trivial⟩) (by simp) (GsOk.nil _) (Nat.zero_le _) trivial
  · (refine calls_eq hrun ?_; rw [hr]; refine congrArg (Value.int .u64) ?_; show (Go.bits .or .u64 (IntKind.u64.wrap (x * 2 ^ (min ((Go.bits .and .u64 (IntKind.u64.wrap m) (63 : Int))).toNat IntKind.u64.bits))) (Int.fdiv x (2 ^ (min ((IntKind.u64.wrap ((64 : Int) - (Go.bits .and .u64 (IntKind.u64.wrap m) (63 : Int))))).toNat IntKind.u64.bits)))) = _; rw [q1, q2, Int.toNat_natCast, Int.toNat_natCast, Nat.min_eq_left (show 64 - k ≤ IntKind.u64.bits by show 64 - k ≤ 64; omega), Nat.min_eq_left (show k ≤ IntKind.u64.bits by show k ≤ 64; omega)]; exact Sha.or_comm _ _)
  · (show decide ((Go.bits .and .u64 (IntKind.u64.wrap m) (63 : Int)) < 0) = false; rw [q1]; exact decide_eq_false (by omega))
  · (show decide (IntKind.u64.wrap (64 - (Go.bits .and .u64 (IntKind.u64.wrap m) (63 : Int))) < 0) = false; rw [q1, q2]; exact decide_eq_false (by omega))

theorem rotl_c (x m : Int) (k : Nat) (h1 : 1 ≤ k) (h2 : k ≤ 63) (hm : m = IntKind.i64.wrap (0 - (k : Int))) {r : Int} (hr : r = Sha.rotI x k) : CallP Tryd.prog 20 #[.int .u64 x, .int .i64 m] (.int .u64 r) :=
  callP_of Tryd.func20 (by kernel_rfl) (by kernel_rfl) (fun w => rotl_run x m k h1 h2 hm hr w)

set_option maxHeartbeats 4000000 in
theorem right_run (x : Int) (n : Nat) (h1 : 1 ≤ n) (h2 : n ≤ 63) {r : Int} (hr : r = Sha.rotI x n) (w : World) : Calls Tryd.prog 16 #[.int .u64 x, .int .i64 (n : Nat)] w fun e w' => e = .returned (.int .u64 r) ∧ Below w.heap.size w w' := by
  have hrun := calls_of_runG (P := Tryd.prog) (v := ⟨envI [x, ((n : Nat) : Int), r], envB [], envL [], envP [], L0, w⟩) (gs := []) (fuel := 3000) (nv := 2) (args := [(.sc (.v 0)), (.sc (.int .i64 (.var 1)))]) (ora := []) (sums := []) (res := [(.sc (.v 2))]) (ev := [.call 20 [(.sc (.v 0)), (.sc (.int .i64 (.sub .i64 (.lit 0) (.var 1))))] (.one (.sc (.v 2)))]) (lev := []) Tryd.func16 (by kernel_rfl) (by kernel_rfl)
    (evs_of ⟨?_, trivial⟩) (by simp) (GsOk.nil _) (Nat.zero_le _) trivial
  · exact hrun
  · exact CallP.g (rotl_c x _ n h1 h2 rfl hr)

theorem right_c (x : Int) (n : Nat) (h1 : 1 ≤ n) (h2 : n ≤ 63) {r : Int} (hr : r = Sha.rotI x n) : CallP Tryd.prog 16 #[.int .u64 x, .int .i64 (n : Nat)] (.int .u64 r) :=
  callP_of Tryd.func16 (by kernel_rfl) (by kernel_rfl) (fun w => right_run x n h1 h2 hr w)

set_option maxHeartbeats 4000000 in
theorem turned_run (x : Int) (n : Nat) (h1 : 1 ≤ n) (h2 : n ≤ 63) {r : Int} (hr : r = Sha.rotI x n) (w : World) : Calls Tryd.prog 19 #[.int .u64 x, .int .u64 (n : Nat)] w fun e w' => e = .returned (.int .u64 r) ∧ Below w.heap.size w w' := by
  have q2 : IntKind.u64.wrap ((64 : Int) - (n : Int)) = ((64 - n : Nat) : Int) := by rw [IntKind.wrap_u64]; omega
  have hrun := calls_of_runG (P := Tryd.prog) (v := ⟨envI [x, ((n : Nat) : Int)], envB [], envL [], envP [], L0, w⟩) (gs := []) (fuel := 3000) (nv := 2) (args := [(.sc (.v 0)), (.sc (.v 1))]) (ora := []) (sums := []) (res := [(.sc (.int .u64 (.bit .or .u64 (.shr .u64 (.var 0) (.var 1)) (.shl .u64 (.var 0) (.sub .u64 (.lit 64) (.var 1))))))]) (ev := [.dec (.cmp .lss (.var 1) (.lit 0)) false, .dec (.cmp .lss (.sub .u64 (.lit 64) (.var 1)) (.lit 0)) false]) (lev := []) Tryd.func19 (by kernel_rfl) (by kernel_rfl)
    (evs_of ⟨?_, ?_, trivial⟩) (by simp) (GsOk.nil _) (Nat.zero_le _) trivial
  · (refine calls_eq hrun ?_; rw [hr]; refine congrArg (Value.int .u64) ?_; show (Go.bits .or .u64 (Int.fdiv x (2 ^ (min (((n : Nat) : Int)).toNat IntKind.u64.bits))) (IntKind.u64.wrap (x * 2 ^ (min ((IntKind.u64.wrap ((64 : Int) - ((n : Nat) : Int)))).toNat IntKind.u64.bits)))) = _; rw [q2, Int.toNat_natCast, Int.toNat_natCast, Nat.min_eq_left (show 64 - n ≤ IntKind.u64.bits by show 64 - n ≤ 64; omega), Nat.min_eq_left (show n ≤ IntKind.u64.bits by show n ≤ 64; omega)]; rfl)
  · (show decide ((n : Int) < 0) = false; exact decide_eq_false (by omega))
  · (show decide (IntKind.u64.wrap (64 - (n : Int)) < 0) = false; rw [q2]; exact decide_eq_false (by omega))

theorem turned_c (x : Int) (n : Nat) (h1 : 1 ≤ n) (h2 : n ≤ 63) {r : Int} (hr : r = Sha.rotI x n) : CallP Tryd.prog 19 #[.int .u64 x, .int .u64 (n : Nat)] (.int .u64 r) :=
  callP_of Tryd.func19 (by kernel_rfl) (by kernel_rfl) (fun w => turned_run x n h1 h2 hr w)

set_option maxHeartbeats 4000000 in
theorem rstart_run   (w : World) : Calls Tryd.prog 13 #[] w fun e w' => e = .returned (.agg #[.int .u64 Sha.start.a, .int .u64 Sha.start.b, .int .u64 Sha.start.c, .int .u64 Sha.start.d, .int .u64 Sha.start.e, .int .u64 Sha.start.f, .int .u64 Sha.start.g, .int .u64 Sha.start.h]) ∧ Below w.heap.size w w' := by
  have hrun := calls_of_runG (P := Tryd.prog) (v := ⟨envI [], envB [], envL [], envP [], L0, w⟩) (gs := []) (fuel := 3000) (nv := 0) (args := []) (ora := []) (sums := []) (res := [(.agg [.n 7640891576956012808, .n 13503953896175478587, .n 4354685564936845355, .n 11912009170470909681, .n 5840696475078001361, .n 11170449401992604703, .n 2270897969802886507, .n 6620516959819538809])]) (ev := []) (lev := []) Tryd.func13 (by kernel_rfl) (by kernel_rfl)
    (by simp) (by simp) (GsOk.nil _) (Nat.zero_le _) trivial
  · (exact hrun)

theorem rstart_c {s : Sha.St} (hs : s = Sha.start) : CallP Tryd.prog 13 #[] (.agg #[.int .u64 s.a, .int .u64 s.b, .int .u64 s.c, .int .u64 s.d, .int .u64 s.e, .int .u64 s.f, .int .u64 s.g, .int .u64 s.h]) := by
  subst hs
  exact callP_of Tryd.func13 (by kernel_rfl) (by kernel_rfl) (fun w => rstart_run w)

set_option maxHeartbeats 4000000 in
theorem rk_run   (w : World) : Calls Tryd.prog 18 #[] w fun e w' => e = .returned (.agg (Sha.K.map (Value.int .u64)).toArray) ∧ Below w.heap.size w w' := by
  have hrun := calls_of_runG (P := Tryd.prog) (v := ⟨envI [], envB [], envL [], envP [], L0, w⟩) (gs := []) (fuel := 3000) (nv := 0) (args := []) (ora := []) (sums := []) (res := [(.agg [.n 4794697086780616226, .n 8158064640168781261, .n 13096744586834688815, .n 16840607885511220156, .n 4131703408338449720, .n 6480981068601479193, .n 10538285296894168987, .n 12329834152419229976, .n 15566598209576043074, .n 1334009975649890238, .n 2608012711638119052, .n 6128411473006802146, .n 8268148722764581231, .n 9286055187155687089, .n 11230858885718282805, .n 13951009754708518548, .n 16472876342353939154, .n 17275323862435702243, .n 1135362057144423861, .n 2597628984639134821, .n 3308224258029322869, .n 5365058923640841347, .n 6679025012923562964, .n 8573033837759648693, .n 10970295158949994411, .n 12119686244451234320, .n 12683024718118986047, .n 13788192230050041572, .n 14330467153632333762, .n 15395433587784984357, .n 489312712824947311, .n 1452737877330783856, .n 2861767655752347644, .n 3322285676063803686, .n 5560940570517711597, .n 5996557281743188959, .n 7280758554555802590, .n 8532644243296465576, .n 9350256976987008742, .n 10552545826968843579, .n 11727347734174303076, .n 12113106623233404929, .n 14000437183269869457, .n 14369950271660146224, .n 15101387698204529176, .n 15463397548674623760, .n 17586052441742319658, .n 1182934255886127544, .n 1847814050463011016, .n 2177327727835720531, .n 2830643537854262169, .n 3796741975233480872, .n 4115178125766777443, .n 5681478168544905931, .n 6601373596472566643, .n 7507060721942968483, .n 8399075790359081724, .n 8693463985226723168, .n 9568029438360202098, .n 10144078919501101548, .n 10430055236837252648, .n 11840083180663258601, .n 13761210420658862357, .n 14299343276471374635, .n 14566680578165727644, .n 15097957966210449927, .n 16922976911328602910, .n 17689382322260857208, .n 500013540394364858, .n 748580250866718886, .n 1242879168328830382, .n 1977374033974150939, .n 2944078676154940804, .n 3659926193048069267, .n 4368137639120453308, .n 4836135668995329356, .n 5532061633213252278, .n 6448918945643986474, .n 6902733635092675308, .n 7801388544844847127])]) (ev := []) (lev := []) Tryd.func18 (by kernel_rfl) (by kernel_rfl)
    (by simp) (by simp) (GsOk.nil _) (Nat.zero_le _) trivial
  · (exact calls_eq hrun (by kernel_rfl))

theorem rk_c : CallP Tryd.prog 18 #[] (.agg (Sha.K.map (Value.int .u64)).toArray) := callP_of Tryd.func18 (by kernel_rfl) (by kernel_rfl) (fun w => rk_run w)

end Go.Proofs.YtdbfhipnhnhkjaaDoor
