/- Laws of single operations over whatever program: the carries of math/bits; small facts on values. -/
import Derived.WalkKit
import Derived.WalkSpells
import Derived.WalkLawsBesides
import Derived.KernelRfl
import Derived.Lib.Hide
import Derived.ChangeKeysEq
import Derived.Deep.QuietTactic
import Derived.Test.YtkckmpnkacdchaaDoorLm
set_option linter.unusedVariables false
set_option linter.unusedSimpArgs false
namespace Go.Num
open Go.RowKit
theorem run_add64' {P : Program} {f : FuncId} {fn : Func} (hf : P.funcs[f]? = some fn) (hname : (fn.name == "runtime.NumGoroutine") = false)
  (hb : fn.body.isNone = true) (hn : Extern.findNext fn = none) (he : Extern.find fn = some add64Entry) (x y c s k : Nat) (hc : c ≤ 1)
  (hs : s = (x + y + c) % B) (hk : k = (x + y + c) / B) (w : World) :
  (callFunc f #[.int .u64 x, .int .u64 y, .int .u64 c]).run P w = .ok (.value (.tuple #[.int .u64 s, .int .u64 k])) w := by
 rw [run_callFunc_extern hf hname hb hn he, run_add64 x y c (by omega) (by omega) (by omega) (by omega)]
 simp only [Result.andThen]
 subst hs hk
 unfold B
 congr 5 <;> omega
def sub64Entry : Array Value → Sem Value := fun args => do
 let (x, y, b) ← Extern.MathBitsCarry.three "Sub64" args
 pure (Extern.MathBitsCarry.pair ((x + Extern.MathBitsCarry.m64 - y - b) % Extern.MathBitsCarry.m64) (if x < y + b then 1 else 0))
theorem run_sub64' {P : Program} {f : FuncId} {fn : Func} (hf : P.funcs[f]? = some fn) (hname : (fn.name == "runtime.NumGoroutine") = false)
  (hb : fn.body.isNone = true) (hn : Extern.findNext fn = none) (he : Extern.find fn = some sub64Entry) (x y c s k : Nat) (hc : c ≤ 1)
  (hs : s = (x + B - y - c) % B) (hk : k = (if x < y + c then 1 else 0)) (w : World) :
  (callFunc f #[.int .u64 x, .int .u64 y, .int .u64 c]).run P w = .ok (.value (.tuple #[.int .u64 s, .int .u64 k])) w := by
 subst hs hk
 rw [run_callFunc_extern hf hname hb hn he]
 have : c = 0 ∨ c = 1 := by omega
 rcases this with rfl | rfl <;> rfl
theorem bne_of_ite {p : Prop} [Decidable p] {k : Nat} (h : k = (if p then 1 else 0)) : (((k : Nat) : Int) != 0) = decide p := by
 subst h
 by_cases hp : p
 ·rw [if_pos hp, decide_eq_true hp]; rfl
 ·rw [if_neg hp, decide_eq_false hp]; rfl
theorem Below.drewN' {B : Nat} {a w : World} (h : Below B a w) (n : Nat) : Below B a (w.drewN n) := ⟨h.os, h.tape, h.output, h.size, h.block⟩
theorem or_half (a b : Nat) (ha : a < B) : bits .or .u64 ((a : Int) / 2) (IntKind.u64.wrap ((b : Int) * 9223372036854775808)) = ((a / 2 + 9223372036854775808 * (b % 2) : Nat) : Int) := by
 have e1 : ((a : Int) / 2) = ((a / 2 : Nat) : Int) := by omega
 have e2 : IntKind.u64.wrap ((b : Int) * 9223372036854775808) = ((9223372036854775808 * (b % 2) : Nat) : Int) := by rw [IntKind.wrap_u64]; omega
 unfold B at ha
 rw [e1, e2, u64_or_nat _ _ (by omega) (by omega)]
 congr 1
 have h := Nat.two_pow_add_eq_or_of_lt (i := 63) (b := a / 2) (by omega) (b % 2)
 rw [show (2 : Nat) ^ 63 = 9223372036854775808 from by decide] at h
 rw [Nat.or_comm, ← h]
 omega
theorem and_one (a r : Nat) (ha : a < B) : bits .and .u64 ((a : Int) / 2 ^ r) 1 = ((a / 2 ^ r % 2 : Nat) : Int) := by
 have e1 : ((a : Int) / 2 ^ r) = ((a / 2 ^ r : Nat) : Int) := by simp
 have hle : a / 2 ^ r ≤ a := Nat.div_le_self _ _
 unfold B at ha
 rw [e1, show (1 : Int) = ((1 : Nat) : Int) from rfl, u64_and_nat _ _ (by omega) (by omega)]
 congr 1
 exact Nat.and_one_is_mod _
theorem pick_no (a b : Nat) (ha : a < B) (hb : b < B) : bits .or .u64 (bits .and .u64 (a : Int) 0) (bits .andNot .u64 (b : Int) 0) = (b : Int) := by
 unfold B at *
 rw [show (0 : Int) = ((0 : Nat) : Int) from rfl, u64_and_nat _ _ (by omega) (by omega), u64_andNot_nat _ _ (by omega) (by omega), u64_or_nat _ _ (by simp) (Nat.lt_of_le_of_lt Nat.and_le_left hb)]
 congr 1
 have h := Nat.and_two_pow_sub_one_of_lt_two_pow (n := 64) (x := b) (by omega)
 rw [show (2 : Nat) ^ 64 - 1 = 18446744073709551615 - 0 from by decide] at h
 rw [h]
 simp
theorem pick_yes (a b : Nat) (ha : a < B) (hb : b < B) : bits .or .u64 (bits .and .u64 (a : Int) 18446744073709551615) (bits .andNot .u64 (b : Int) 18446744073709551615) = (a : Int) := by
 unfold B at *
 rw [show (18446744073709551615 : Int) = ((18446744073709551615 : Nat) : Int) from rfl, u64_and_nat _ _ (by omega) (by omega), u64_andNot_nat _ _ (by omega) (by omega)]
 have h := Nat.and_two_pow_sub_one_of_lt_two_pow (n := 64) (x := a) (by omega)
 rw [show (2 : Nat) ^ 64 - 1 = 18446744073709551615 from by decide] at h
 rw [h, u64_or_nat _ _ (by omega) (by simp)]
 congr 1
 simp
theorem pick_yes' (a b : Nat) (ha : a < B) (hb : b < B) :
  bits .or .u64 (bits .and .u64 (a : Int) (bits .xor .u64 IntKind.u64.max 0)) (bits .andNot .u64 (b : Int) (bits .xor .u64 IntKind.u64.max 0)) = (a : Int) := by
 rw [show bits .xor .u64 IntKind.u64.max 0 = 18446744073709551615 from by decide]
 exact pick_yes a b ha hb
theorem small_nat {k : Nat} (h : k < B) : (Value.agg #[.int .u64 (k : Int), .int .u64 0, .int .u64 0, .int .u64 0]) = .agg #[.int .u64 (lm k 0), .int .u64 (lm k 1), .int .u64 (lm k 2), .int .u64 (lm k 3)] := by
 have h0 : lm k 0 = k := by rw [lm_0]; exact Nat.mod_eq_of_lt h
 have h1 : lm k 1 = 0 := by rw [lm_1, Nat.div_eq_of_lt (show k < 18446744073709551616 from h)]
 have h2 : lm k 2 = 0 := by rw [lm_2, Nat.div_eq_of_lt (Nat.lt_trans (show k < 18446744073709551616 from h) (by decide))]
 have h3 : lm k 3 = 0 := by rw [lm_3, Nat.div_eq_of_lt (Nat.lt_trans (show k < 18446744073709551616 from h) (by decide))]
 rw [h0, h1, h2, h3]
 rfl
@[go_sem] theorem small_bit (x i : Nat) : (Value.agg #[.int .u64 (bit x i : Int), .int .u64 0, .int .u64 0, .int .u64 0]) = .agg #[.int .u64 (lm (bit x i) 0), .int .u64 (lm (bit x i) 1), .int .u64 (lm (bit x i) 2), .int .u64 (lm (bit x i) 3)] :=
 small_nat (Nat.lt_trans (bit_lt x i) (by decide))
@[go_sem] theorem lit_1 : (Value.agg #[.int .u64 1, .int .u64 0, .int .u64 0, .int .u64 0]) = .agg #[.int .u64 (lm 1 0), .int .u64 (lm 1 1), .int .u64 (lm 1 2), .int .u64 (lm 1 3)] := rfl
@[go_sem] theorem lit_2 : (Value.agg #[.int .u64 2, .int .u64 0, .int .u64 0, .int .u64 0]) = .agg #[.int .u64 (lm 2 0), .int .u64 (lm 2 1), .int .u64 (lm 2 2), .int .u64 (lm 2 3)] := rfl
@[go_sem] theorem lit_5 : (Value.agg #[.int .u64 5, .int .u64 0, .int .u64 0, .int .u64 0]) = .agg #[.int .u64 (lm 5 0), .int .u64 (lm 5 1), .int .u64 (lm 5 2), .int .u64 (lm 5 3)] := rfl
@[go_sem] theorem lit_7 : (Value.agg #[.int .u64 7, .int .u64 0, .int .u64 0, .int .u64 0]) = .agg #[.int .u64 (lm 7 0), .int .u64 (lm 7 1), .int .u64 (lm 7 2), .int .u64 (lm 7 3)] := rfl
@[go_sem] theorem lit_0 : (Value.agg #[.int .u64 0, .int .u64 0, .int .u64 0, .int .u64 0]) = .agg #[.int .u64 (lm 0 0), .int .u64 (lm 0 1), .int .u64 (lm 0 2), .int .u64 (lm 0 3)] := rfl
@[simp] theorem size_drewN' (w : World) (n : Nat) : (w.drewN n).heap.size = w.heap.size := rfl
def Arr (w : World) (b : Nat) (T : TypeId) (n : Nat) (f : Nat → Value) : Prop := w.heap[b]? = some (.cells ((List.range n).map f).toArray T (0, 0))
section
variable {w w' : World} {b : Nat} {T : TypeId} {n : Nat} {f g : Nat → Value}
theorem Arr.lt (h : Arr w b T n f) : b < w.heap.size := by
 unfold Arr at h
 exact (Array.getElem?_eq_some_iff.1 h).1
theorem Arr.cell (h : Arr w b T n f) {j : Nat} (hj : j < n) : w.cell? ⟨b, j, none⟩ = some (f j) := by
 unfold Arr at h
 simp [World.cell?, h, hj]
theorem Arr.frozen (h : Arr w b T n f) (j : Nat) : w.frozen? ⟨b, j, none⟩ = false := by
 unfold Arr at h
 simp [World.frozen?, h]
theorem Arr.drew (h : Arr w b T n f) : Arr w.drew b T n f := h
theorem Arr.drewN (h : Arr w b T n f) (m : Nat) : Arr (w.drewN m) b T n f := h
theorem Arr.alloc (h : Arr w b T n f) (o : Obj) : Arr (w.alloc o) b T n f := by
 have hl := h.lt
 unfold Arr at *
 rw [Below.heap_alloc w o b hl]
 exact h
theorem Arr.new (w : World) (T : TypeId) (n : Nat) (f : Nat → Value) : Arr (w.alloc (.cells ((List.range n).map f).toArray T)) w.heap.size T n f := by
 unfold Arr
 show (w.heap.push _)[w.heap.size]? = _
 simp
theorem Arr.new' {cs : Array Value} (hcs : cs = ((List.range n).map f).toArray) (hb : b = w.heap.size) : Arr (w.alloc (.cells cs T)) b T n f := by
 subst hcs hb
 exact Arr.new w T n f
theorem Arr.other (h : Arr w b T n f) {a : Addr} (ha : b ≠ a.block) (v : Value) : Arr (w.setCell a v) b T n f := by
 unfold Arr at *
 rw [heap_setCell_other w a b v ha]
 exact h
theorem Arr.congr (h : Arr w b T n f) (hf : ∀ j, j < n → f j = g j) : Arr w b T n g := by
 unfold Arr at *
 rw [h]
 have : (List.range n).map f = (List.range n).map g := List.map_congr_left fun j hj => hf j (List.mem_range.1 hj)
 rw [this]
theorem Arr.set (h : Arr w b T n f) (k : Nat) (v : Value) : Arr (w.setCell ⟨b, k, none⟩ v) b T n (fun j => if j = k then v else f j) := by
 unfold Arr at *
 rw [heap_setCell_same w b k _ T v h]
 congr 2
 simp only [List.setIfInBounds_toArray]
 congr 1
 apply List.ext_getElem
 ·simp
 ·intro i h1 h2
  simp only [List.getElem_set, List.getElem_map, List.getElem_range]
  split <;> rename_i hik
  ·rw [if_pos hik.symm]
  ·rw [if_neg (fun e => hik e.symm)]
theorem Arr.set' (h : Arr w b T n f) (k : Nat) (v : Value) (hg : ∀ j, j < n → (if j = k then v else f j) = g j) : Arr (w.setCell ⟨b, k, none⟩ v) b T n g := (h.set k v).congr hg
theorem Arr.fill {K : IntKind} {z o : Nat → Int} {k : Nat} {v : Int} (h : Arr w b T n f) (hg : ∀ j, j < n → j ≠ k → f j = .int K (if j < k then z j else o j)) (hv : v = z k) :
  Arr (w.setCell ⟨b, k, none⟩ (.int K v)) b T n (fun j => .int K (if j < k + 1 then z j else o j)) := by
 refine h.set' k _ fun j hj => ?_
 by_cases e : j = k
 ·subst e
  rw [if_pos rfl, if_pos (by omega), hv]
 ·rw [if_neg e, hg j hj e]
  by_cases hl : j < k
  ·rw [if_pos hl, if_pos (by omega)]
  ·rw [if_neg hl, if_neg (by omega)]
theorem Arr.below {B : Nat} (h : Arr w b T n f) (hB : Below B w w') (hb : b < B) : Arr w' b T n f := by
 unfold Arr at *
 rw [hB.block b hb]
 exact h
end
abbrev vN (x : Nat) : Value := .agg #[.int .u64 (lm x 0), .int .u64 (lm x 1), .int .u64 (lm x 2), .int .u64 (lm x 3)]
abbrev vP (x y : Nat) (b : Bool) : Value := .agg #[.int .u64 (lm x 0), .int .u64 (lm x 1), .int .u64 (lm x 2), .int .u64 (lm x 3), .int .u64 (lm y 0), .int .u64 (lm y 1), .int .u64 (lm y 2), .int .u64 (lm y 3), .bool b]
end Go.Num
