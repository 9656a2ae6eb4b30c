/- The reference of chapter 2, run. -/
import Derived.Test.YtkckmpnkacdchaaDoorFelM
import Derived.Test.YtkckmpnkacdchaaDoorLim6
set_option linter.unusedVariables false
set_option linter.unusedSimpArgs false
set_option maxHeartbeats 4000000
namespace Go.Proofs.YtkckmpnkacdchaaDoor
open Go.RowKit Go.Num Go.Sx
theorem rmod0   (w : World) : Calls Tryd.prog 14 #[.int .i64 0] w fun e w' => e = .returned (.agg #[.int .u64 (lm 115792089210356248762697446949407573530086143415290314195533631308867097853951 0), .int .u64 (lm 115792089210356248762697446949407573530086143415290314195533631308867097853951 1), .int .u64 (lm 115792089210356248762697446949407573530086143415290314195533631308867097853951 2), .int .u64 (lm 115792089210356248762697446949407573530086143415290314195533631308867097853951 3)]) ∧ Below w.heap.size w w' := by
 have hrun := calls_of_runG (P := Tryd.prog) (v := ⟨envI [], envB [], envL [], envP [], L0, w⟩) (gs := []) (fuel := 3000) (nv := 0) (args := [(.sc (.int .i64 (.lit 0)))]) (ora := []) (sums := []) (res := [(.agg [.n 18446744073709551615, .n 4294967295, .n 0, .n 18446744069414584321])]) (ev := []) (lev := []) Tryd.func14 (by kernel_rfl) (by kernel_rfl)
  (by simp) (by simp) (GsOk.nil _) (Nat.zero_le _) trivial
 ·exact hrun
theorem rmod1   (w : World) : Calls Tryd.prog 14 #[.int .i64 1] w fun e w' => e = .returned (.agg #[.int .u64 (lm 115792089210356248762697446949407573529996955224135760342422259061068512044369 0), .int .u64 (lm 115792089210356248762697446949407573529996955224135760342422259061068512044369 1), .int .u64 (lm 115792089210356248762697446949407573529996955224135760342422259061068512044369 2), .int .u64 (lm 115792089210356248762697446949407573529996955224135760342422259061068512044369 3)]) ∧ Below w.heap.size w w' := by
 have hrun := calls_of_runG (P := Tryd.prog) (v := ⟨envI [], envB [], envL [], envP [], L0, w⟩) (gs := []) (fuel := 3000) (nv := 0) (args := [(.sc (.int .i64 (.lit 1)))]) (ora := []) (sums := []) (res := [(.agg [.n 17562291160714782033, .n 13611842547513532036, .n 18446744073709551615, .n 18446744069414584320])]) (ev := []) (lev := []) Tryd.func14 (by kernel_rfl) (by kernel_rfl)
  (by simp) (by simp) (GsOk.nil _) (Nat.zero_le _) trivial
 ·exact hrun
theorem rmod2   (w : World) : Calls Tryd.prog 14 #[.int .i64 2] w fun e w' => e = .returned (.agg #[.int .u64 (lm 57896044618658097711785492504343953926634992332820282019728792003956564819949 0), .int .u64 (lm 57896044618658097711785492504343953926634992332820282019728792003956564819949 1), .int .u64 (lm 57896044618658097711785492504343953926634992332820282019728792003956564819949 2), .int .u64 (lm 57896044618658097711785492504343953926634992332820282019728792003956564819949 3)]) ∧ Below w.heap.size w w' := by
 have hrun := calls_of_runG (P := Tryd.prog) (v := ⟨envI [], envB [], envL [], envP [], L0, w⟩) (gs := []) (fuel := 3000) (nv := 0) (args := [(.sc (.int .i64 (.lit 2)))]) (ora := []) (sums := []) (res := [(.agg [.n 18446744073709551597, .n 18446744073709551615, .n 18446744073709551615, .n 9223372036854775807])]) (ev := []) (lev := []) Tryd.func14 (by kernel_rfl) (by kernel_rfl)
  (by simp) (by simp) (GsOk.nil _) (Nat.zero_le _) trivial
 ·exact hrun
theorem rmod3   (w : World) : Calls Tryd.prog 14 #[.int .i64 3] w fun e w' => e = .returned (.agg #[.int .u64 (lm 7237005577332262213973186563042994240857116359379907606001950938285454250989 0), .int .u64 (lm 7237005577332262213973186563042994240857116359379907606001950938285454250989 1), .int .u64 (lm 7237005577332262213973186563042994240857116359379907606001950938285454250989 2), .int .u64 (lm 7237005577332262213973186563042994240857116359379907606001950938285454250989 3)]) ∧ Below w.heap.size w w' := by
 have hrun := calls_of_runG (P := Tryd.prog) (v := ⟨envI [], envB [], envL [], envP [], L0, w⟩) (gs := []) (fuel := 3000) (nv := 0) (args := [(.sc (.int .i64 (.lit 3)))]) (ora := []) (sums := []) (res := [(.agg [.n 6346243789798364141, .n 1503914060200516822, .n 0, .n 1152921504606846976])]) (ev := []) (lev := []) Tryd.func14 (by kernel_rfl) (by kernel_rfl)
  (by simp) (by simp) (GsOk.nil _) (Nat.zero_le _) trivial
 ·exact hrun
theorem rmod_c {n : Int} {m : Nat} (h0 : 0 ≤ n) (h3 : n ≤ 3) (hm : m = Mo n) : CallP Tryd.prog 14 #[.int .i64 n] (vN m) := by
 subst hm
 obtain rfl | rfl | rfl | rfl := four h0 h3
 ·exact callP_of Tryd.func14 (by kernel_rfl) (by kernel_rfl) (fun w => calls_eq (rmod0 w) (by kernel_rfl))
 ·exact callP_of Tryd.func14 (by kernel_rfl) (by kernel_rfl) (fun w => calls_eq (rmod1 w) (by kernel_rfl))
 ·exact callP_of Tryd.func14 (by kernel_rfl) (by kernel_rfl) (fun w => calls_eq (rmod2 w) (by kernel_rfl))
 ·exact callP_of Tryd.func14 (by kernel_rfl) (by kernel_rfl) (fun w => calls_eq (rmod3 w) (by kernel_rfl))
end Go.Proofs.YtkckmpnkacdchaaDoor
