/- The contracts of numbers of four limbs, as calls want them. -/
import Derived.Test.YtkckmpnkacdchaaDoorSyM3
import Derived.Test.YtkckmpnkacdchaaDoorAid
import Derived.Test.YtkckmpnkacdchaaDoorLimb1
import Derived.Test.YtkckmpnkacdchaaDoorLimb4
set_option linter.unusedVariables false
set_option linter.unusedSimpArgs false
namespace Go.Proofs.YtkckmpnkacdchaaDoor
open Go.RowKit Go.Num Go.Sx
theorem limb_add_c (x y : Nat) (hx : x < N) (hy : y < N) : CallP Tryd.prog 87 #[vN x, vN y] (.tuple #[.agg #[.int .u64 (lm ((x + y) % N) 0), .int .u64 (lm ((x + y) % N) 1), .int .u64 (lm ((x + y) % N) 2), .int .u64 (lm ((x + y) % N) 3)], .bool (decide (N ≤ x + y))]) :=
 callP_of Tryd.func87 (by kernel_rfl) (by kernel_rfl) (fun w => limb_add x y hx hy w)
theorem limb_sub_c (x y : Nat) (hx : x < N) (hy : y < N) : CallP Tryd.prog 80 #[vN x, vN y] (.tuple #[.agg #[.int .u64 (lm ((x + N - y) % N) 0), .int .u64 (lm ((x + N - y) % N) 1), .int .u64 (lm ((x + N - y) % N) 2), .int .u64 (lm ((x + N - y) % N) 3)], .bool (decide (x < y))]) :=
 callP_of Tryd.func80 (by kernel_rfl) (by kernel_rfl) (fun w => limb_sub x y hx hy w)
theorem ref_add_c (x y : Nat) (hx : x < N) (hy : y < N) : CallP Tryd.prog 82 #[vN x, vN y] (.tuple #[.agg #[.int .u64 (lm ((x + y) % N) 0), .int .u64 (lm ((x + y) % N) 1), .int .u64 (lm ((x + y) % N) 2), .int .u64 (lm ((x + y) % N) 3)], .bool (decide (N ≤ x + y))]) :=
 callP_of Tryd.func82 (by kernel_rfl) (by kernel_rfl) (fun w => ref_add x y hx hy w)
theorem limb_cmp_c (x y : Nat) (hx : x < N) (hy : y < N) : CallP Tryd.prog 67 #[vN x, vN y] (.int .i64 (cmpN x y)) :=
 callP_of Tryd.func67 (by kernel_rfl) (by kernel_rfl) (fun w => limb_cmp x y hx hy w)
theorem ref_less_c (x y : Nat) (hx : x < N) (hy : y < N) : CallP Tryd.prog 51 #[vN x, vN y] (.bool (decide (x < y))) :=
 callP_of Tryd.func51 (by kernel_rfl) (by kernel_rfl) (fun w => ref_less x y hx hy w)
theorem limb_pick_c (c : Bool) (x y : Nat)  : CallP Tryd.prog 88 #[.bool c, vN x, vN y] (.agg #[.int .u64 (lm (if c then x else y) 0), .int .u64 (lm (if c then x else y) 1), .int .u64 (lm (if c then x else y) 2), .int .u64 (lm (if c then x else y) 3)]) :=
 callP_of Tryd.func88 (by kernel_rfl) (by kernel_rfl) (fun w => limb_pick c x y w)
theorem limb_half_c (x : Nat) (hx : x < N) : CallP Tryd.prog 89 #[vN x] (.agg #[.int .u64 (lm (x / 2) 0), .int .u64 (lm (x / 2) 1), .int .u64 (lm (x / 2) 2), .int .u64 (lm (x / 2) 3)]) :=
 callP_of Tryd.func89 (by kernel_rfl) (by kernel_rfl) (fun w => limb_half x hx w)
theorem ref_half_c (x : Nat) (hx : x < N) : CallP Tryd.prog 83 #[vN x] (.agg #[.int .u64 (lm (x / 2) 0), .int .u64 (lm (x / 2) 1), .int .u64 (lm (x / 2) 2), .int .u64 (lm (x / 2) 3)]) :=
 callP_of Tryd.func83 (by kernel_rfl) (by kernel_rfl) (fun w => ref_half x hx w)
theorem limb_bitI_c (x : Nat) (i : Int)  : CallP Tryd.prog 72 #[vN x, .int .i64 i] (.int .i64 (bitI x i)) :=
 callP_of Tryd.func72 (by kernel_rfl) (by kernel_rfl) (fun w => limb_bitI x i w)
theorem ref_bitI_c (x : Nat) (i : Int)  : CallP Tryd.prog 94 #[vN x, .int .i64 i] (.int .i64 (bitI x i)) :=
 callP_of Tryd.func94 (by kernel_rfl) (by kernel_rfl) (fun w => ref_bitI x i w)
theorem call_add_c (x y c s k : Nat) (hc : c ≤ 1) (hs : s = (x + y + c) % B) (hk : k = (x + y + c) / B) : CallP Tryd.prog 98 #[.int .u64 x, .int .u64 y, .int .u64 c] (.tuple #[.int .u64 s, .int .u64 k]) :=
 fun w => .inl ⟨w, call_add x y c s k hc hs hk w, Below.refl _ _⟩
end Go.Proofs.YtkckmpnkacdchaaDoor
