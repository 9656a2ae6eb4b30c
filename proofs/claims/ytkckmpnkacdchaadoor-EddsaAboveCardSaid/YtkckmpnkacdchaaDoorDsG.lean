/- EddsaKeys, run. -/
import Derived.Test.YtkckmpnkacdchaaDoorDsC
set_option linter.unusedVariables false
set_option linter.unusedSimpArgs false
namespace Go.Proofs.YtkckmpnkacdchaaDoor
open Go.RowKit Go.Num Go.Sx
theorem Mo3_L : Mo 3 = Ed.L := by decide +kernel
theorem smul_Mo3 (n : Nat) : Ed.smul (n % Mo 3) Ed.base = Ed.smul n Ed.base := by
  rw [Mo3_L]
  exact Ed.smul_mod Ed.order_base n
theorem dec_encP (p : Ed.Pt) : decL (encP p) = (p.x.val, p.y.val, true) := by
  unfold encP
  rw [decL_enc, if_pos (pt_formed p), if_pos (pt_formed p)]
theorem sig_take (s m : List Int) : (sigL s m).take 32 = sigR s m := by
  unfold sigL
  exact List.take_left' (encP_length _)
theorem sig_drop (s m : List Int) : (sigL s m).drop 32 = putN 32 (sigS s m) := by
  unfold sigL
  exact List.drop_left' (encP_length _)
theorem sigS_lt (s m : List Int) : sigS s m < Mo 3 := Nat.mod_lt _ Mo3_pos
theorem sig_num (s m : List Int) : leN ((sigL s m).drop 32) = sigS s m := by
  rw [sig_drop]
  exact putN32 (Nat.lt_trans (sigS_lt s m) Mo3_N)
theorem klittleq_s {l l' : List Int} (e : l' = l) (hb : IsBytes l') (hl : l'.length = 32) {r : Nat} {k : Bool} (hr : r = leN l') (hk : k = true) : CallS Tryd.prog L0 13 [.bytes l] [.val (.agg #[.int .u64 (lm r 0), .int .u64 (lm r 1), .int .u64 (lm r 2), .int .u64 (lm r 3)]), .val (.bool k)] := by
  subst e
  exact rlittle_s l' hb (by rw [if_pos hl]; exact hr) (by rw [hk, decide_eq_true hl])
end Go.Proofs.YtkckmpnkacdchaaDoor
