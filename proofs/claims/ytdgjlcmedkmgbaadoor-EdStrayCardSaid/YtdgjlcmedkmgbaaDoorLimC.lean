/- The contracts of numbers of four limbs, as calls want them. -/
import Derived.Test.YtdgjlcmedkmgbaaDoorSyM3
import Derived.Test.YtdgjlcmedkmgbaaDoorAid
import Derived.Test.YtdgjlcmedkmgbaaDoorLimb1
import Derived.Test.YtdgjlcmedkmgbaaDoorLimb4
set_option linter.unusedVariables false
set_option linter.unusedSimpArgs false
namespace Go.Proofs.YtdgjlcmedkmgbaaDoor
open Go.RowKit Go.Num Go.Sx
theorem limb_add_c (x y : Nat) (hx : x < N) (hy : y < N) : CallP Tryd.prog 69 #[.agg #[.int .u64 (lm x 0), .int .u64 (lm x 1), .int .u64 (lm x 2), .int .u64 (lm x 3)], .agg #[.int .u64 (lm y 0), .int .u64 (lm y 1), .int .u64 (lm y 2), .int .u64 (lm y 3)]] (.tuple #[.agg #[.int .u64 (lm ((x + y) % N) 0), .int .u64 (lm ((x + y) % N) 1), .int .u64 (lm ((x + y) % N) 2), .int .u64 (lm ((x + y) % N) 3)], .bool (decide (N ≤ x + y))]) :=
  callP_of Tryd.func69 (by kernel_rfl) (by kernel_rfl) (fun w => limb_add x y hx hy w)
theorem limb_sub_c (x y : Nat) (hx : x < N) (hy : y < N) : CallP Tryd.prog 73 #[.agg #[.int .u64 (lm x 0), .int .u64 (lm x 1), .int .u64 (lm x 2), .int .u64 (lm x 3)], .agg #[.int .u64 (lm y 0), .int .u64 (lm y 1), .int .u64 (lm y 2), .int .u64 (lm y 3)]] (.tuple #[.agg #[.int .u64 (lm ((x + N - y) % N) 0), .int .u64 (lm ((x + N - y) % N) 1), .int .u64 (lm ((x + N - y) % N) 2), .int .u64 (lm ((x + N - y) % N) 3)], .bool (decide (x < y))]) :=
  callP_of Tryd.func73 (by kernel_rfl) (by kernel_rfl) (fun w => limb_sub x y hx hy w)
theorem limb_cmp_c (x y : Nat) (hx : x < N) (hy : y < N) : CallP Tryd.prog 62 #[.agg #[.int .u64 (lm x 0), .int .u64 (lm x 1), .int .u64 (lm x 2), .int .u64 (lm x 3)], .agg #[.int .u64 (lm y 0), .int .u64 (lm y 1), .int .u64 (lm y 2), .int .u64 (lm y 3)]] (.int .i64 (cmpN x y)) :=
  callP_of Tryd.func62 (by kernel_rfl) (by kernel_rfl) (fun w => limb_cmp x y hx hy w)
theorem limb_pick_c (c : Bool) (x y : Nat)  : CallP Tryd.prog 85 #[.bool c, .agg #[.int .u64 (lm x 0), .int .u64 (lm x 1), .int .u64 (lm x 2), .int .u64 (lm x 3)], .agg #[.int .u64 (lm y 0), .int .u64 (lm y 1), .int .u64 (lm y 2), .int .u64 (lm y 3)]] (.agg #[.int .u64 (lm (if c then x else y) 0), .int .u64 (lm (if c then x else y) 1), .int .u64 (lm (if c then x else y) 2), .int .u64 (lm (if c then x else y) 3)]) :=
  callP_of Tryd.func85 (by kernel_rfl) (by kernel_rfl) (fun w => limb_pick c x y w)
theorem limb_bitI_c (x : Nat) (i : Int)  : CallP Tryd.prog 48 #[.agg #[.int .u64 (lm x 0), .int .u64 (lm x 1), .int .u64 (lm x 2), .int .u64 (lm x 3)], .int .i64 i] (.int .i64 (bitI x i)) :=
  callP_of Tryd.func48 (by kernel_rfl) (by kernel_rfl) (fun w => limb_bitI x i w)
theorem call_add_c (x y c s k : Nat) (hc : c ≤ 1) (hs : s = (x + y + c) % B) (hk : k = (x + y + c) / B) : CallP Tryd.prog 81 #[.int .u64 x, .int .u64 y, .int .u64 c] (.tuple #[.int .u64 s, .int .u64 k]) :=
  fun w => .inl ⟨w, call_add x y c s k hc hs hk w, Below.refl _ _⟩
end Go.Proofs.YtdgjlcmedkmgbaaDoor
