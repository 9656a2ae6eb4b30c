/- The reference of chapter 2, run: taking away. -/
import Derived.Test.YtkckmpnkacdchaaDoorRel02a
import Derived.Test.YtkckmpnkacdchaaDoorFelM
set_option linter.unusedVariables false
set_option linter.unusedSimpArgs false
set_option maxHeartbeats 4000000
namespace Go.Proofs.YtkckmpnkacdchaaDoor
open Go.RowKit Go.Num Go.Sx
theorem rsmall1   (w : World) : Calls Tryd.prog 79 #[.int .u64 (1 : Int)] w fun e w' => e = .returned (.agg #[.int .u64 (lm 1 0), .int .u64 (lm 1 1), .int .u64 (lm 1 2), .int .u64 (lm 1 3)]) ∧ Below w.heap.size w w' := by
 have hrun := calls_of_runG (P := Tryd.prog) (v := ⟨envI [], envB [], envL [], envP [], L0, w⟩) (gs := []) (fuel := 3000) (nv := 0) (args := [(.sc (.n 1))]) (ora := []) (sums := []) (res := [(.agg [.n 1, .n 0, .n 0, .n 0])]) (ev := []) (lev := []) Tryd.func79 (by kernel_rfl) (by kernel_rfl)
  (by simp) (by simp) (GsOk.nil _) (Nat.zero_le _) trivial
 ·(exact calls_eq hrun (by kernel_rfl))
theorem rsmall1_c : CallP Tryd.prog 79 #[.int .u64 (1 : Int)] (.agg #[.int .u64 (lm 1 0), .int .u64 (lm 1 1), .int .u64 (lm 1 2), .int .u64 (lm 1 3)]) :=
 callP_of Tryd.func79 (by kernel_rfl) (by kernel_rfl) (fun w => rsmall1 w)
theorem rsmall1_l {r : Nat} (hr : r = 1) : CallP Tryd.prog 79 #[.int .u64 (1 : Int)] (vN r) := by
 subst hr
 exact rsmall1_c
end Go.Proofs.YtkckmpnkacdchaaDoor
