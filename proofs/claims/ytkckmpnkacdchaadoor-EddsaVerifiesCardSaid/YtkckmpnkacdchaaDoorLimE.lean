/- The same contracts, each answer a letter of its own. -/
import Derived.Test.YtkckmpnkacdchaaDoorLimC
import Derived.Test.YtkckmpnkacdchaaDoorSyM3
set_option linter.unusedVariables false
set_option linter.unusedSimpArgs false
namespace Go.Proofs.YtkckmpnkacdchaaDoor
open Go.RowKit Go.Num Go.Sx
theorem N_pos : 0 < N := by decide
theorem pick_lt {c : Prop} [Decidable c] {x y m : Nat} (h1 : x < m) (h2 : y < m) : (if c then x else y) < m := by split <;> assumption
theorem or_ite (a b : Bool) : (if a = true then true else b) = (a || b) := by cases a <;> rfl
theorem limb_add_l (x y : Nat) (hx : x < N) (hy : y < N) {r : Nat} {k : Bool} (hr : r = (x + y) % N) (hk : k = decide (N ≤ x + y)) : CallP Tryd.prog 87 #[vN x, vN y] (.tuple #[vN r, .bool k]) := by
 subst hr hk
 exact limb_add_c x y hx hy
theorem limb_sub_l (x y : Nat) (hx : x < N) (hy : y < N) {r : Nat} {k : Bool} (hr : r = (x + N - y) % N) (hk : k = decide (x < y)) : CallP Tryd.prog 80 #[vN x, vN y] (.tuple #[vN r, .bool k]) := by
 subst hr hk
 exact limb_sub_c x y hx hy
theorem limb_bitI_l (x : Nat) (i : Int) {r : Int} (hr : r = bitI x i) : CallP Tryd.prog 72 #[vN x, .int .i64 i] (.int .i64 r) := by
 subst hr
 exact limb_bitI_c x i
theorem ref_add_l (x y : Nat) (hx : x < N) (hy : y < N) {r : Nat} {k : Bool} (hr : r = (x + y) % N) (hk : k = decide (N ≤ x + y)) : CallP Tryd.prog 82 #[vN x, vN y] (.tuple #[vN r, .bool k]) := by
 subst hr hk
 exact ref_add_c x y hx hy
theorem ref_bitI_l (x : Nat) (i : Int) {r : Int} (hr : r = bitI x i) : CallP Tryd.prog 94 #[vN x, .int .i64 i] (.int .i64 r) := by
 subst hr
 exact ref_bitI_c x i
theorem limb_cmp_l (x y : Nat) (hx : x < N) (hy : y < N) {r : Int} (hr : r = cmpN x y) : CallP Tryd.prog 67 #[vN x, vN y] (.int .i64 r) := by
 subst hr
 exact limb_cmp_c x y hx hy
theorem ref_less_l (x y : Nat) (hx : x < N) (hy : y < N) {k : Bool} (hk : k = decide (x < y)) : CallP Tryd.prog 51 #[vN x, vN y] (.bool k) := by
 subst hk
 exact ref_less_c x y hx hy
theorem limb_pick_l (c : Bool) (x y : Nat) {r : Nat} (hr : r = if c = true then x else y) : CallP Tryd.prog 88 #[.bool c, vN x, vN y] (vN r) := by
 subst hr
 exact limb_pick_c c x y
theorem limb_half_l (x : Nat) (hx : x < N) {r : Nat} (hr : r = x / 2) : CallP Tryd.prog 89 #[vN x] (vN r) := by
 subst hr
 exact limb_half_c x hx
theorem ref_half_l (x : Nat) (hx : x < N) {r : Nat} (hr : r = x / 2) : CallP Tryd.prog 83 #[vN x] (vN r) := by
 subst hr
 exact ref_half_c x hx
end Go.Proofs.YtkckmpnkacdchaaDoor
