/- Points as bytes, run. -/
import Derived.Test.YtkckmpnkacdchaaDoorEdF
import Derived.Test.YtkckmpnkacdchaaDoorCodec2
import Derived.Test.YtkckmpnkacdchaaDoorSqrt
set_option linter.unusedVariables false
set_option linter.unusedSimpArgs false
set_option maxHeartbeats 4000000
namespace Go.Proofs.YtkckmpnkacdchaaDoor
open Go.RowKit Go.Num Go.Sx
abbrev JD0 : Bx := .cmp .lss (.lit 31) (.len (.lvar 0))
abbrev JD1 : List A := [(.agg [.v 46, .v 47, .v 48, .v 49]), (.agg [.n 14190309331451158704, .n 3405592160176694392, .n 3120150775007532967, .n 3135389899092516619])]
abbrev JD2 : A := .agg [.v 46, .v 47, .v 48, .v 49, .v 1, .v 2, .v 3, .v 4, .bool (.lit false)]
abbrev JD3 : Bx := .cmp .lss (.lit 31) (.len (.lvar 1))
abbrev JD4 : List A := [(.agg [.v 0, .v 1, .v 2, .v 3, .v 4, .v 5, .v 6, .v 7, .bool (.var 8)])]
abbrev JD5 : A := .agg [.v 50, .v 51, .v 52, .v 53, .v 1, .v 2, .v 3, .v 4, .bool (.lit false)]
abbrev JD6 : A := .sc (.int .i64 (.lit 2))
abbrev JD7 : A := .agg [.v 8, .v 9, .v 10, .v 11]
abbrev JD8 : A := .agg [.v 6, .v 7, .v 8, .v 9]
abbrev JD9 : A := .agg [.v 2, .v 3, .v 4, .v 5]
abbrev JD10 : A := .agg [.v 1, .v 2, .v 3, .v 4]
abbrev JD11 : A := .agg [.v 54, .v 55, .v 56, .v 57, .v 1, .v 2, .v 3, .v 4, .bool (.lit false)]
abbrev JD12 : Bx := .cmp .neq (.len (.lvar 0)) (.lit 32)
abbrev JD13 : Bx := .cmp .lss (.lit 31) (.len (.lvar 10))
abbrev JD14 : A := .agg [.v 58, .v 59, .v 60, .v 61, .v 1, .v 2, .v 3, .v 4, .bool (.lit false)]
abbrev JD15 : A := .agg [.v 14, .v 15, .v 16, .v 17]
abbrev JD16 : A := .agg [.n 0, .n 0, .n 0, .n 0]
abbrev JD17 : List A := [(.agg [.v 22, .v 23, .v 24, .v 25]), (.agg [.v 26, .v 27, .v 28, .v 29])]
abbrev JD18 : A := .agg [.v 50, .v 51, .v 52, .v 53]
abbrev JD19 : A := .agg [.v 46, .v 47, .v 48, .v 49]
abbrev JD20 : A := .agg [.v 42, .v 43, .v 44, .v 45]
abbrev JD21 : A := .agg [.v 38, .v 39, .v 40, .v 41]
abbrev JD22 : A := .agg [.v 34, .v 35, .v 36, .v 37]
abbrev JD23 : A := .agg [.v 30, .v 31, .v 32, .v 33]
abbrev JD24 : A := .agg [.v 20, .v 21, .v 22, .v 23]
abbrev JD25 : A := .agg [.v 18, .v 19, .v 20, .v 21]
abbrev JD26 : A := .agg [.v 16, .v 17, .v 18, .v 19]
abbrev JD27 : A := .agg [.v 12, .v 13, .v 14, .v 15]
abbrev JD28 : A := .agg [.v 10, .v 11, .v 12, .v 13]
abbrev JD29 : I := .set (.lvar 0) (.lit 31) (.rem (.get (.lvar 0) (.lit 31)) (.lit 128))
abbrev JD30 : List A := [(.agg [.n 8496970652267935907, .n 31536524315187371, .n 10144147576115030168, .n 5909686906226998899]), JD7]
abbrev JD31 : Bx := .cmp .neq (.conv .u8 (.bit .and .u64 (.var 24) (.lit 1))) (.shr .u8 (.get (.lvar 0) (.lit 31)) (.lit 7))
abbrev JD32 : I := .set (.lvar 1) (.lit 31) (.bit .and .u8 (.get (.lvar 1) (.lit 31)) (.lit 127))
abbrev JD33 : A := .agg [.v 37, .v 38, .v 39, .v 40]
abbrev JD34 : Bx := .cmp .leq (.len (.lvar 0)) (.lit 1099511627776)
abbrev JD35 : A := .agg [.v 4, .v 5, .v 6, .v 7]
abbrev JD36 : A := .agg [.n 1, .n 0, .n 0, .n 0]
abbrev JD37 : A := .agg [.n 0, .n 0, .n 0, .n 0, .n 1, .n 0, .n 0, .n 0, .bool (.lit false)]
abbrev JD38 : List A := [(.agg [.v 24, .v 25, .v 26, .v 27]), (.sc (.bool (.var 28)))]
abbrev JD39 : A := .agg [.v 58, .v 59, .v 60, .v 61]
abbrev JD40 : A := .agg [.v 54, .v 55, .v 56, .v 57]
abbrev JD41 : A := .agg [.v 29, .v 30, .v 31, .v 32]
abbrev JD42 : A := .agg [.v 26, .v 27, .v 28, .v 29]
abbrev JD43 : A := .agg [.v 22, .v 23, .v 24, .v 25]
abbrev JD44 : Bx := .not (.and (.cmp .eql (.var 41) (.var 12)) (.and (.cmp .eql (.var 42) (.var 13)) (.and (.cmp .eql (.var 43) (.var 14)) (.cmp .eql (.var 44) (.var 15)))))
abbrev JD45 : A := .agg [.v 0, .v 1, .v 2, .v 3]
abbrev JD46 : A := .sc (.bool (.lit false))
abbrev JD47 : A := .agg [.v 45, .v 46, .v 47, .v 48]
abbrev JD48 : A := .sc (.bool (.lit true))
abbrev JD49 : Bx := .cmp .neq (.conv .u8 (.bit .and .u64 (.var 29) (.lit 1))) (.shr .u8 (.get (.lvar 0) (.lit 31)) (.lit 7))
abbrev JD50 : A := .sc (.bool (.var 62))
abbrev JD51 : A := .agg [.v 33, .v 34, .v 35, .v 36]
abbrev JD52 : A := .agg [.v 25, .v 26, .v 27, .v 28]
abbrev JD53 : A := .sc (.bool (.var 5))
abbrev JD54 : A := .sc (.bool (.var 65))
abbrev JD55 : A := .agg [.v 74, .v 75, .v 76, .v 77, .v 78, .v 79, .v 80, .v 81, .bool (.var 82)]
abbrev JD56 : A := .agg [.v 66, .v 67, .v 68, .v 69, .v 70, .v 71, .v 72, .v 73, .bool (.var 74)]
abbrev JD57 : A := .sc (.bool (.var 9))
abbrev JD58 : A := .sc (.bool (.var 7))
abbrev JD59 : A := .sc (.bool (.var 6))
abbrev JD60 : A := .agg [.v 1, .v 2, .v 3, .v 4, .v 5, .v 6, .v 7, .v 8, .bool (.var 9)]
abbrev JD61 : A := .sc (.bool (.var 64))
abbrev JD62 : A := .agg [.n 3, .n 0, .n 0, .n 0]
abbrev JD63 : I := .get (.lvar 10) (.lit 31)
theorem dec_ixEdK {P : Program} {v : Env} {k : Int} {x : I} {l : List Int} (h : x.ldn v = l) (hk : k < ((l.length : Nat) : Int)) : (Ev.dec (.cmp .lss (.lit k) (.len x)) true).holds P v := dec_lt_t rfl (show ((x.ldn v).length : Int) = _ by rw [h]) hk
def rtX (w : Nat) : Nat := w ^ Ed.E8 % Ed.P
def iN : Nat := 19681161376707505956807079304988542015446066515923890162744021073123829784752
def rtN (w : Nat) : Nat := if rtX w * rtX w % Ed.P = w then rtX w else rtX w * iN % Ed.P
theorem rtX_lt (w : Nat) : rtX w < Ed.P := Nat.mod_lt _ P_pos
theorem rtN_lt (w : Nat) : rtN w < Ed.P := by
 unfold rtN
 split
 ·exact rtX_lt w
 ·exact Nat.mod_lt _ P_pos
theorem phi_iN : Ed.phi iN = Ed.I := Fin.ext (by decide +kernel)
theorem phi_eq {a b : Nat} (ha : a < Ed.P) (hb : b < Ed.P) : Ed.phi a = Ed.phi b ↔ a = b := ⟨Ed.phi_inj ha hb, fun h => by rw [h]⟩
theorem phi_rtX (w : Nat) : Ed.phi (rtX w) = Ed.phi w ^ Ed.E8 := by
 unfold rtX
 rw [Ed.phi_mod, Ed.phi_pow]
theorem sq_eq {a w : Nat} (hw : w < Ed.P) : a * a % Ed.P = w ↔ Ed.phi a * Ed.phi a = Ed.phi w := by
 rw [← Ed.phi_mul, ← Ed.phi_mod]
 exact (phi_eq (Nat.mod_lt _ P_pos) hw).symm
theorem phi_rtN {w : Nat} (hw : w < Ed.P) : Ed.phi (rtN w) = Ed.rootF (Ed.phi w) := by
 unfold rtN Ed.rootF
 by_cases h : rtX w * rtX w % Ed.P = w
 ·rw [if_pos h, if_pos (by rw [← phi_rtX]; exact (sq_eq hw).1 h), phi_rtX]
 ·rw [if_neg h, if_neg (by rw [← phi_rtX]; exact fun e => h ((sq_eq hw).2 e)), Ed.phi_mod, Ed.phi_mul, phi_rtX, phi_iN]
def wN (y : Nat) : Nat := sb Ed.P (y * y % Ed.P) 1 * (((Ed.dN * (y * y % Ed.P) % Ed.P + 1) % Ed.P) ^ (Ed.P - 2) % Ed.P) % Ed.P
theorem wN_lt (y : Nat) : wN y < Ed.P := Nat.mod_lt _ P_pos
theorem phi_wN (y : Nat) : Ed.phi (wN y) = (Ed.phi y * Ed.phi y - 1) * Ed.inv (Ed.D * (Ed.phi y * Ed.phi y) + 1) := by
 unfold wN Ed.inv
 rw [Ed.phi_mod, Ed.phi_mul, phi_sb, Ed.phi_mod, Ed.phi_mul, Ed.phi_mod, Ed.phi_pow, Ed.phi_mod, Ed.phi_add, Ed.phi_mod, Ed.phi_mul, Ed.phi_mod, Ed.phi_mul, Ed.phi_dN, Ed.phi_one]
theorem formed_sq {x y : Nat} (hx : x < Ed.P) (hy : y < Ed.P) : formedB x y false = true ↔ x * x % Ed.P = wN y := by
 rw [formed_iff, sq_eq (wN_lt y), phi_wN, ← Ed.on_iff]
 exact ⟨fun h => h.2.2.2, fun h => ⟨rfl, hx, hy, h⟩⟩
theorem neg_sq (x : Nat) : sb Ed.P 0 x * sb Ed.P 0 x % Ed.P = x * x % Ed.P := by
 refine (sq_eq (Nat.mod_lt _ P_pos)).2 ?_
 rw [phi_sb, Ed.phi_mod, Ed.phi_mul, Ed.phi_zero]
 grind
theorem neg_lt (x : Nat) : sb Ed.P 0 x < Ed.P := sb_P _ _
theorem neg_formed {x y : Nat} (hx : x < Ed.P) (hy : y < Ed.P) : formedB (sb Ed.P 0 x) y false = formedB x y false := by
 rw [Bool.eq_iff_iff, formed_sq (neg_lt x) hy, formed_sq hx hy, neg_sq]
theorem neg_par {x : Nat} (hx : x < Ed.P) (h0 : x ≠ 0) : sb Ed.P 0 x % 2 ≠ x % 2 := by
 have e : sb Ed.P 0 x = Ed.P - x := by
  unfold sb
  rw [Nat.zero_mod, Nat.zero_add, Nat.mod_eq_of_lt hx]
  exact Nat.mod_eq_of_lt (by omega)
 rw [e]
 have hP : Ed.P % 2 = 1 := by decide +kernel
 omega
theorem neg_zero : sb Ed.P 0 0 = 0 := by decide +kernel
theorem formed_unique {x x' y : Nat} (h : formedB x y false = true) (h' : formedB x' y false = true) (hp : x % 2 = x' % 2) : x = x' := by
 obtain ⟨_, h1, _, h2⟩ := formed_iff.1 h
 obtain ⟨_, h3, _, h4⟩ := formed_iff.1 h'
 have e : ∀ z, z < Ed.P → (Ed.phi z).val = z := fun z hz => Nat.mod_eq_of_lt hz
 exact Ed.phi_inj h1 h3 (Ed.on_unique h2 h4 (by rw [e x h1, e x' h3]; exact hp))
theorem formed_root {x y : Nat} (h : formedB x y false = true) : rtN (wN y) * rtN (wN y) % Ed.P = wN y := by
 obtain ⟨_, h1, _, h2⟩ := formed_iff.1 h
 rw [sq_eq (wN_lt y), phi_rtN (wN_lt y), phi_wN]
 exact Ed.on_root h2
theorem y_lt {x y : Nat} {b : Bool} (h : formedB x y b = true) : y < Ed.P := (formed_iff.1 h).2.2.1
theorem x_lt {x y : Nat} {b : Bool} (h : formedB x y b = true) : x < Ed.P := (formed_iff.1 h).2.1
open Classical in
noncomputable def decX (y s : Nat) : Option Nat := if h : ∃ x, formedB x y false = true ∧ x % 2 = s then some h.choose else none
theorem decX_some {x y s : Nat} (h : formedB x y false = true) (hs : x % 2 = s) : decX y s = some x := by
 have he : ∃ x, formedB x y false = true ∧ x % 2 = s := ⟨x, h, hs⟩
 unfold decX
 rw [dif_pos he, formed_unique he.choose_spec.1 h (by rw [he.choose_spec.2, hs])]
theorem decX_none {y s : Nat} (h : ∀ x, formedB x y false = true → x % 2 ≠ s) : decX y s = none := by
 unfold decX
 rw [dif_neg fun ⟨x, h1, h2⟩ => h x h1 h2]
theorem decX_of {x y s : Nat} (h : decX y s = some x) : formedB x y false = true ∧ x % 2 = s := by
 unfold decX at h
 split at h
 ·rename_i he
  simp only [Option.some.injEq] at h
  rw [← h]
  exact he.choose_spec
 ·cases h
def encN (x y : Nat) (b : Bool) : Nat := if formedB x y b = true then y + 57896044618658097711785492504343953926634992332820282019728792003956564819968 * (x % 2) else 1
theorem P_255 : Ed.P < 57896044618658097711785492504343953926634992332820282019728792003956564819968 := by decide +kernel
theorem encN_lt (x y : Nat) (b : Bool) : encN x y b < N := by
 have hN : N = 57896044618658097711785492504343953926634992332820282019728792003956564819968 + 57896044618658097711785492504343953926634992332820282019728792003956564819968 := by decide +kernel
 unfold encN
 split
 ·rename_i h
  have h1 := y_lt h
  have h2 := P_255
  have h3 : x % 2 < 2 := Nat.mod_lt _ (by decide)
  have h4 : x % 2 = 0 ∨ x % 2 = 1 := by omega
  rw [hN]
  rcases h4 with h4 | h4 <;> rw [h4] <;> omega
 ·rw [hN]; omega
noncomputable def decL (l : List Int) : Nat × Nat × Bool :=
 if l.length = 32 then match decX (leN l % 57896044618658097711785492504343953926634992332820282019728792003956564819968) (leN l / 57896044618658097711785492504343953926634992332820282019728792003956564819968) with
  | some x => (x, leN l % 57896044618658097711785492504343953926634992332820282019728792003956564819968, true)
  | none => (0, 1, false)
 else (0, 1, false)
theorem decL_len {l : List Int} (h : ¬ l.length = 32) : decL l = (0, 1, false) := by unfold decL; rw [if_neg h]
theorem decL_some {l : List Int} {x y s : Nat} (h : l.length = 32) (hy : y = leN l % 57896044618658097711785492504343953926634992332820282019728792003956564819968) (hs : s = leN l / 57896044618658097711785492504343953926634992332820282019728792003956564819968) (hf : formedB x y false = true) (hp : x % 2 = s) : decL l = (x, y, true) := by
 unfold decL
 rw [if_pos h, ← hy, ← hs, decX_some hf hp]
theorem decL_none {l : List Int} {y s : Nat} (h : l.length = 32) (hy : y = leN l % 57896044618658097711785492504343953926634992332820282019728792003956564819968) (hs : s = leN l / 57896044618658097711785492504343953926634992332820282019728792003956564819968) (hf : ∀ x, formedB x y false = true → x % 2 ≠ s) : decL l = (0, 1, false) := by
 unfold decL
 rw [if_pos h, ← hy, ← hs, decX_none hf]
theorem one_formed : formedB 0 1 false = true := by decide +kernel
theorem decL_ok {l : List Int} {x y : Nat} {k : Bool} (h : decL l = (x, y, k)) : formedB x y false = true ∧ (k = true → l.length = 32 ∧ leN l = encN x y false) ∧ (k = false → x = 0 ∧ y = 1) := by
 unfold decL at h
 split at h
 ·rename_i hl
  split at h
  ·rename_i x' hx
   obtain ⟨h1, h2⟩ := decX_of hx
   simp only [Prod.mk.injEq] at h
   obtain ⟨rfl, rfl, rfl⟩ := h
   refine ⟨h1, fun _ => ⟨hl, ?_⟩, fun e => by cases e⟩
   unfold encN
   rw [if_pos h1, h2]
   omega
  ·simp only [Prod.mk.injEq] at h
   obtain ⟨rfl, rfl, rfl⟩ := h
   exact ⟨one_formed, fun e => (by cases e), fun _ => ⟨rfl, rfl⟩⟩
 ·simp only [Prod.mk.injEq] at h
  obtain ⟨rfl, rfl, rfl⟩ := h
  exact ⟨one_formed, fun e => (by cases e), fun _ => ⟨rfl, rfl⟩⟩
theorem split31 {l : List Int} (h : l.length = 32) : l = l.take 31 ++ [l.getD 31 0] := by
 rw [List.getD_eq_getElem?_getD, List.getElem?_eq_getElem (by omega), Option.getD_some]
 conv => lhs; rw [← List.take_append_drop 31 l]
 rw [List.drop_eq_getElem_cons (by omega), List.drop_of_length_le (by omega)]
theorem set31 {l : List Int} (h : l.length = 32) (v : Int) : l.set 31 v = l.take 31 ++ [v] := by
 conv => lhs; rw [split31 h]
 rw [List.set_append_right _ _ (by rw [List.length_take]; omega), List.length_take, show 31 - min 31 l.length = 0 by omega]
 rfl
theorem leN_31 {l : List Int} (h : l.length = 32) {c : Nat} (hc : l.getD 31 0 = (c : Int)) : leN l = leN (l.take 31) + 452312848583266388373324160190187140051835877600158453279131187530910662656 * c := by
 have e := congrArg leN (split31 h)
 rw [leN_append, hc, List.length_take, show min 31 l.length = 31 by omega] at e
 rw [e, show leN [(c : Int)] = c from by unfold leN leN; omega]
theorem take31_lt {l : List Int} (h : l.length = 32) (hb : IsBytes l) : leN (l.take 31) < 452312848583266388373324160190187140051835877600158453279131187530910662656 := by
 have := leN_lt (hb.take 31)
 rw [List.length_take, show min 31 l.length = 31 by omega] at this
 exact this
theorem and127 : ∀ c : Fin 256, Go.bits .and .u8 ((c.val : Nat) : Int) 127 = ((c.val % 128 : Nat) : Int) := by decide +kernel
theorem mod128 : ∀ c : Fin 256, Int.tmod ((c.val : Nat) : Int) 128 = ((c.val % 128 : Nat) : Int) := by decide +kernel
theorem shr7 : ∀ c : Fin 256, Int.fdiv ((c.val : Nat) : Int) (2 ^ (min (7 : Int).toNat IntKind.u8.bits)) = ((c.val / 128 : Nat) : Int) := by decide +kernel
theorem low_31 {l : List Int} (h : l.length = 32) (hb : IsBytes l) {z : Int} (hz : ∀ c : Nat, c < 256 → l.getD 31 0 = (c : Int) → z = ((c % 128 : Nat) : Int)) : leN (l.set 31 z) = leN l % 57896044618658097711785492504343953926634992332820282019728792003956564819968 ∧ IsBytes (l.set 31 z) ∧ (l.set 31 z).length = 32 := by
 obtain ⟨c, hc, e⟩ := bytes_nat hb (j := 31) (by omega)
 have hz' := hz c hc e
 refine ⟨?_, ?_, by rw [List.length_set]; exact h⟩
 ·rw [set31 h, leN_append, hz', List.length_take, show min 31 l.length = 31 by omega, leN_31 h e, show leN [((c % 128 : Nat) : Int)] = c % 128 from by unfold leN leN; omega]
  have := take31_lt h hb
  generalize leN (l.take 31) = A at *
  omega
 ·rw [set31 h]
  refine (hb.take 31).append (IsBytes.cons ?_ IsBytes.nil)
  rw [hz']
  omega
theorem div128 {A c : Nat} (hA : A < 452312848583266388373324160190187140051835877600158453279131187530910662656) : (A + 452312848583266388373324160190187140051835877600158453279131187530910662656 * c) / 57896044618658097711785492504343953926634992332820282019728792003956564819968 = c / 128 := by omega
theorem high_31 {l : List Int} (h : l.length = 32) (hb : IsBytes l) : Int.fdiv (l.getD 31 0) (2 ^ (min (7 : Int).toNat IntKind.u8.bits)) = ((leN l / 57896044618658097711785492504343953926634992332820282019728792003956564819968 : Nat) : Int) := by
 obtain ⟨c, hc, e⟩ := bytes_nat hb (j := 31) (by omega)
 have hA := take31_lt h hb
 rw [e, shr7 ⟨c, hc⟩, leN_31 h e, div128 hA]
theorem low_and {l : List Int} (h : l.length = 32) (hb : IsBytes l) : leN (l.set ((31 : Int)).toNat (Go.bits .and .u8 (l.getD ((31 : Int)).toNat 0) (127 : Int))) = leN l % 57896044618658097711785492504343953926634992332820282019728792003956564819968 ∧ IsBytes (l.set ((31 : Int)).toNat (Go.bits .and .u8 (l.getD ((31 : Int)).toNat 0) (127 : Int))) ∧ (l.set ((31 : Int)).toNat (Go.bits .and .u8 (l.getD ((31 : Int)).toNat 0) (127 : Int))).length = 32 :=
 low_31 h hb fun c hc e => by rw [show ((31 : Int)).toNat = 31 from rfl, e]; exact and127 ⟨c, hc⟩
theorem low_mod {l : List Int} (h : l.length = 32) (hb : IsBytes l) : leN (l.set ((31 : Int)).toNat (Int.tmod (l.getD ((31 : Int)).toNat 0) (128 : Int))) = leN l % 57896044618658097711785492504343953926634992332820282019728792003956564819968 ∧ IsBytes (l.set ((31 : Int)).toNat (Int.tmod (l.getD ((31 : Int)).toNat 0) (128 : Int))) ∧ (l.set ((31 : Int)).toNat (Int.tmod (l.getD ((31 : Int)).toNat 0) (128 : Int))).length = 32 :=
 low_31 h hb fun c hc e => by rw [show ((31 : Int)).toNat = 31 from rfl, e]; exact mod128 ⟨c, hc⟩
theorem put_31 {y s : Nat} (hy : y < 57896044618658097711785492504343953926634992332820282019728792003956564819968) (hs : s < 2) {z : Int} (hz : ∀ c : Nat, c < 128 → (putN 32 y).getD 31 0 = (c : Int) → z = ((c + 128 * s : Nat) : Int)) : (putN 32 y).set 31 z = putN 32 (y + 57896044618658097711785492504343953926634992332820282019728792003956564819968 * s) := by
 have hl := putN_length 32 y
 have hb := putN_bytes 32 y
 have hN : N = 57896044618658097711785492504343953926634992332820282019728792003956564819968 + 57896044618658097711785492504343953926634992332820282019728792003956564819968 := by decide +kernel
 have hyN : y < N := by rw [hN]; omega
 obtain ⟨c, hc, e⟩ := bytes_nat hb (j := 31) (by omega)
 have h1 := leN_31 hl e
 rw [putN32 hyN] at h1
 have h2 := take31_lt hl hb
 have hc' : c < 128 := by omega
 have hz' := hz c hc' e
 have hbz : IsBytes ((putN 32 y).set 31 z) := by
  rw [set31 hl]
  refine (hb.take 31).append (IsBytes.cons ?_ IsBytes.nil)
  rw [hz']
  omega
 refine leN_inj hbz (putN_bytes _ _) (by rw [List.length_set, hl, putN_length]) ?_
 have hlt : y + 57896044618658097711785492504343953926634992332820282019728792003956564819968 * s < N := by
  have : s = 0 ∨ s = 1 := by omega
  rw [hN]
  rcases this with e | e <;> subst e <;> omega
 rw [putN32 hlt, set31 hl, leN_append, hz', List.length_take, show min 31 (putN 32 y).length = 31 by omega, show leN [((c + 128 * s : Nat) : Int)] = c + 128 * s from by unfold leN leN; omega]
 generalize leN ((putN 32 y).take 31) = A at *
 rw [h1]
 omega
theorem or128 : ∀ c : Fin 128, ∀ s : Fin 2, Go.bits .or .u8 ((c.val : Nat) : Int) (IntKind.u8.wrap (((s.val : Nat) : Int) * 2 ^ (min ((7 : Int)).toNat IntKind.u8.bits))) = ((c.val + 128 * s.val : Nat) : Int) := by decide +kernel
theorem add128 : ∀ c : Fin 128, IntKind.u8.wrap (((c.val : Nat) : Int) + 128) = ((c.val + 128 * 1 : Nat) : Int) := by decide +kernel
theorem lm_odd (x : Nat) : lm x 0 % 2 = x % 2 := by
 unfold lm
 rw [Nat.pow_zero, Nat.div_one]
 unfold B
 omega
theorem sq_zero {x : Nat} (h : x * x % Ed.P = 0) : x = 0 ∨ Ed.P ≤ x := by
 by_cases h0 : x = 0
 ·exact .inl h0
 ·right
  rcases Ed.P_prime.dvd_mul (Nat.dvd_of_mod_eq_zero h) with h1 | h1 <;> exact Nat.le_of_dvd (by omega) h1
theorem par_and (x : Nat) : IntKind.u8.wrap (Go.bits .and .u64 (lm x 0 : Int) (1 : Int)) = ((x % 2 : Nat) : Int) := by
 have hlt : lm x 0 < B := lm_lt x 0
 unfold B at hlt
 rw [show (1 : Int) = ((1 : Nat) : Int) from rfl, u64_and_nat _ _ (by omega) (by omega), Nat.and_one_is_mod, lm_odd]
 have h : x % 2 = 0 ∨ x % 2 = 1 := by omega
 rcases h with h | h <;> rw [h] <;> decide
theorem par_rem (x : Nat) : Int.tmod (lm x 0 : Int) (2 : Int) = ((x % 2 : Nat) : Int) := by
 rw [← lm_odd x]
 generalize lm x 0 = a
 exact (Int.ofNat_tmod a 2).symm
theorem put_or {y x : Nat} (hy : y < Ed.P) : (putN 32 y).set ((31 : Int)).toNat (Go.bits .or .u8 ((putN 32 y).getD ((31 : Int)).toNat 0) (IntKind.u8.wrap (((x % 2 : Nat) : Int) * 2 ^ (min ((7 : Int)).toNat IntKind.u8.bits)))) = putN 32 (y + 57896044618658097711785492504343953926634992332820282019728792003956564819968 * (x % 2)) :=
 put_31 (Nat.lt_trans hy P_255) (Nat.mod_lt _ (by decide)) fun c hc e => by rw [show ((31 : Int)).toNat = 31 from rfl, e]; exact or128 ⟨c, hc⟩ ⟨x % 2, Nat.mod_lt _ (by decide)⟩
theorem put_add {y : Nat} (hy : y < Ed.P) : (putN 32 y).set ((31 : Int)).toNat (IntKind.u8.wrap ((putN 32 y).getD ((31 : Int)).toNat 0 + (128 : Int))) = putN 32 (y + 57896044618658097711785492504343953926634992332820282019728792003956564819968 * 1) :=
 put_31 (Nat.lt_trans hy P_255) (by decide) fun c hc e => by rw [show ((31 : Int)).toNat = 31 from rfl, e]; exact add128 ⟨c, hc⟩
theorem add3_E8 {m r1 r3 r4 r5 : Nat} (hm : m = Ed.P) (h1 : r1 = (m + 3) % N) (h3 : r3 = r1 / 2) (h4 : r4 = r3 / 2) (h5 : r5 = r4 / 2) : r5 = Ed.E8 := by
 subst hm h1 h3 h4 h5
 decide +kernel
theorem fmod_g (Ts : TV) {r : Nat} (hr : r = Ed.P) : CallG Tryd.prog (LE Ts) 68 #[.int .i64 (2 : Int)] (vN r) := lf (xmodulus_g _ (by decide) (by decide) (hr.trans P_mo))
theorem ratio_in (u : Nat) (v : Nat) (Ts : TR) (hu : u < N) (hv : v < N) (ww X : Nat) (k : Bool) (hw : ww = u * (v ^ (Ed.P - 2) % Ed.P) % Ed.P) (hX : X = rtN ww) (hk : k = decide (X * X % Ed.P = ww)) (hin : rtX ww * rtX ww % Ed.P = ww) (mm ii : Nat) (hmm : mm = Ed.P) (hii : ii = iN) (w : World) (hK : (LE Ts).K ≤ w.heap.size) (hG : (LE Ts).G w) : Calls Tryd.prog 64 #[vN u, vN v] w fun e w' => e = .returned (.tuple #[vN X, .bool k]) ∧ Below w.heap.size w w' := by
 have bmm : mm < N := by rw [hmm]; exact PN
 obtain ⟨r1, hr1⟩ : ∃ r : Nat, r = v ^ (Ed.P - 2) % Ed.P := ⟨_, rfl⟩
 have br1 : r1 < Ed.P := (by rw [hr1]; exact Nat.mod_lt _ P_pos)
 obtain ⟨r2, hr2⟩ : ∃ r : Nat, r = u * r1 % Ed.P := ⟨_, rfl⟩
 have br2 : r2 < Ed.P := (by rw [hr2]; exact Nat.mod_lt _ P_pos)
 obtain ⟨r3, hr3⟩ : ∃ r : Nat, r = (mm + 3) % N := ⟨_, rfl⟩
 have br3 : r3 < N := (by rw [hr3]; exact Nat.mod_lt _ N_pos)
 obtain ⟨r4, hr4⟩ : ∃ r : Bool, r = decide (N ≤ mm + 3) := ⟨_, rfl⟩
 obtain ⟨r5, hr5⟩ : ∃ r : Nat, r = r3 / 2 := ⟨_, rfl⟩
 have br5 : r5 < N := (by rw [hr5]; omega)
 obtain ⟨r6, hr6⟩ : ∃ r : Nat, r = r5 / 2 := ⟨_, rfl⟩
 have br6 : r6 < N := (by rw [hr6]; omega)
 obtain ⟨r7, hr7⟩ : ∃ r : Nat, r = r6 / 2 := ⟨_, rfl⟩
 have br7 : r7 < N := (by rw [hr7]; omega)
 obtain ⟨r8, hr8⟩ : ∃ r : Nat, r = r2 ^ r7 % Ed.P := ⟨_, rfl⟩
 have br8 : r8 < Ed.P := (by rw [hr8]; exact Nat.mod_lt _ P_pos)
 obtain ⟨r9, hr9⟩ : ∃ r : Nat, r = r8 * r8 % Ed.P := ⟨_, rfl⟩
 have br9 : r9 < Ed.P := (by rw [hr9]; exact Nat.mod_lt _ P_pos)
 obtain ⟨r10, hr10⟩ : ∃ r : Nat, r = r8 * r8 % Ed.P := ⟨_, rfl⟩
 have br10 : r10 < Ed.P := (by rw [hr10]; exact Nat.mod_lt _ P_pos)
 have e2 : r2 = ww := by rw [hr2, hr1, hw]
 have e7 : r7 = Ed.E8 := add3_E8 hmm hr3 hr5 hr6 hr7
 have e8 : r8 = rtX ww := by rw [hr8, e2, e7]; rfl
 have eX : r8 = X := by rw [hX, e8]; unfold rtN; exact (if_pos hin).symm
 have hrun := calls_of_runG (P := Tryd.prog) (v := ⟨envI [(lm u 0 : Int), (lm u 1 : Int), (lm u 2 : Int), (lm u 3 : Int), (lm v 0 : Int), (lm v 1 : Int), (lm v 2 : Int), (lm v 3 : Int), (lm r1 0 : Int), (lm r1 1 : Int), (lm r1 2 : Int), (lm r1 3 : Int), (lm r2 0 : Int), (lm r2 1 : Int), (lm r2 2 : Int), (lm r2 3 : Int), (lm mm 0 : Int), (lm mm 1 : Int), (lm mm 2 : Int), (lm mm 3 : Int), (lm r3 0 : Int), (lm r3 1 : Int), (lm r3 2 : Int), (lm r3 3 : Int), 0, (lm r5 0 : Int), (lm r5 1 : Int), (lm r5 2 : Int), (lm r5 3 : Int), (lm r6 0 : Int), (lm r6 1 : Int), (lm r6 2 : Int), (lm r6 3 : Int), (lm r7 0 : Int), (lm r7 1 : Int), (lm r7 2 : Int), (lm r7 3 : Int), (lm r8 0 : Int), (lm r8 1 : Int), (lm r8 2 : Int), (lm r8 3 : Int), (lm r9 0 : Int), (lm r9 1 : Int), (lm r9 2 : Int), (lm r9 3 : Int), (lm r10 0 : Int), (lm r10 1 : Int), (lm r10 2 : Int), (lm r10 3 : Int)], envB [false, false, false, false, false, false, false, false, false, false, false, false, false, false, false, false, false, false, false, false, false, false, false, false, r4], envL [], envP [], LE Ts, w⟩) (gs := (edGs Ts [v_root])) (fuel := 3000) (nv := 8) (args := [JD45, JD35]) (ora := [none, some false]) (sums := []) (res := [JD33, (.sc (.bool (.and (.cmp .eql (.var 45) (.var 12)) (.and (.cmp .eql (.var 46) (.var 13)) (.and (.cmp .eql (.var 47) (.var 14)) (.cmp .eql (.var 48) (.var 15)))))))]) (ev := [.call 46 [JD6, JD35] (.one JD7), .call 63 [JD45, JD7] (.one JD27), .call 68 [JD6] (.one JD26), .call 87 [JD26, JD62] (.tup [JD24, (.sc (.bool (.var 24)))]), .call 89 [JD24] (.one JD52), .call 89 [JD52] (.one JD41), .call 89 [JD41] (.one JD51), .call 49 [JD6, JD27, JD51] (.one JD33), .call 63 [JD33, JD33] (.one (.agg [.v 41, .v 42, .v 43, .v 44])), .dec JD44 false, .call 63 [JD33, JD33] (.one JD47)]) (lev := []) Tryd.func64 (by kernel_rfl) (by kernel_rfl)
  (evs_of ⟨?_, ?_, ?_, ?_, ?_, ?_, ?_, ?_, ?_, ?_, ?_, trivial⟩) (by simp) (varsOk Ts _ (List.forall_mem_cons.2 ⟨Ts.root, (List.forall_mem_nil _)⟩) (by decide)) hK hG
 ·(subst eX; refine hrun.mono fun e w' h => ⟨h.1.trans (congrArg (fun z => Ending.returned (Value.tuple #[vN r8, .bool z])) (show (((lm r10 0 : Int) == (lm r2 0 : Int)) && (((lm r10 1 : Int) == (lm r2 1 : Int)) && (((lm r10 2 : Int) == (lm r2 2 : Int)) && ((lm r10 3 : Int) == (lm r2 3 : Int))))) = k from ?_)), h.2⟩; rw [lm_eq (Nat.lt_trans br10 PN) (Nat.lt_trans br2 PN), hk, hr10, e2])
 ·exact finv_g Ts v (by first | assumption | exact ltP ‹_› | decide +kernel) hr1
 ·exact emul_g Ts u r1 (by first | assumption | exact ltP ‹_› | decide +kernel) (by first | assumption | exact ltP ‹_› | decide +kernel) hr2
 ·exact fmod_g Ts hmm
 ·exact CallP.g (limb_add_l mm 3 (by first | assumption | exact Nat.mod_lt _ (by decide) | (show _ < _; decide) | omega) (by first | assumption | exact Nat.mod_lt _ (by decide) | (show _ < _; decide) | omega) hr3 hr4)
 ·exact CallP.g (limb_half_l r3 br3 hr5)
 ·exact CallP.g (limb_half_l r5 br5 hr6)
 ·exact CallP.g (limb_half_l r6 br6 hr7)
 ·exact fpow_g Ts r2 r7 (by first | assumption | exact ltP ‹_› | decide +kernel) (by first | assumption | exact ltP ‹_› | decide +kernel) hr8
 ·exact emul_g Ts r8 r8 (by first | assumption | exact ltP ‹_› | decide +kernel) (by first | assumption | exact ltP ‹_› | decide +kernel) hr9
 ·(show (!(((lm r9 0 : Int) == (lm r2 0 : Int)) && (((lm r9 1 : Int) == (lm r2 1 : Int)) && (((lm r9 2 : Int) == (lm r2 2 : Int)) && ((lm r9 3 : Int) == (lm r2 3 : Int)))))) = false; rw [lm_eq (Nat.lt_trans br9 PN) (Nat.lt_trans br2 PN), decide_eq_true (by rw [hr9, e8, e2]; exact hin)]; rfl)
 ·exact emul_g Ts r8 r8 (by first | assumption | exact ltP ‹_› | decide +kernel) (by first | assumption | exact ltP ‹_› | decide +kernel) hr10
theorem ratio_out (u : Nat) (v : Nat) (Ts : TR) (hu : u < N) (hv : v < N) (ww X : Nat) (k : Bool) (hw : ww = u * (v ^ (Ed.P - 2) % Ed.P) % Ed.P) (hX : X = rtN ww) (hk : k = decide (X * X % Ed.P = ww)) (hin : ¬ rtX ww * rtX ww % Ed.P = ww) (mm ii : Nat) (hmm : mm = Ed.P) (hii : ii = iN) (w : World) (hK : (LE Ts).K ≤ w.heap.size) (hG : (LE Ts).G w) : Calls Tryd.prog 64 #[vN u, vN v] w fun e w' => e = .returned (.tuple #[vN X, .bool k]) ∧ Below w.heap.size w w' := by
 have bmm : mm < N := by rw [hmm]; exact PN
 obtain ⟨r1, hr1⟩ : ∃ r : Nat, r = v ^ (Ed.P - 2) % Ed.P := ⟨_, rfl⟩
 have br1 : r1 < Ed.P := (by rw [hr1]; exact Nat.mod_lt _ P_pos)
 obtain ⟨r2, hr2⟩ : ∃ r : Nat, r = u * r1 % Ed.P := ⟨_, rfl⟩
 have br2 : r2 < Ed.P := (by rw [hr2]; exact Nat.mod_lt _ P_pos)
 obtain ⟨r3, hr3⟩ : ∃ r : Nat, r = (mm + 3) % N := ⟨_, rfl⟩
 have br3 : r3 < N := (by rw [hr3]; exact Nat.mod_lt _ N_pos)
 obtain ⟨r4, hr4⟩ : ∃ r : Bool, r = decide (N ≤ mm + 3) := ⟨_, rfl⟩
 obtain ⟨r5, hr5⟩ : ∃ r : Nat, r = r3 / 2 := ⟨_, rfl⟩
 have br5 : r5 < N := (by rw [hr5]; omega)
 obtain ⟨r6, hr6⟩ : ∃ r : Nat, r = r5 / 2 := ⟨_, rfl⟩
 have br6 : r6 < N := (by rw [hr6]; omega)
 obtain ⟨r7, hr7⟩ : ∃ r : Nat, r = r6 / 2 := ⟨_, rfl⟩
 have br7 : r7 < N := (by rw [hr7]; omega)
 obtain ⟨r8, hr8⟩ : ∃ r : Nat, r = r2 ^ r7 % Ed.P := ⟨_, rfl⟩
 have br8 : r8 < Ed.P := (by rw [hr8]; exact Nat.mod_lt _ P_pos)
 obtain ⟨r9, hr9⟩ : ∃ r : Nat, r = r8 * r8 % Ed.P := ⟨_, rfl⟩
 have br9 : r9 < Ed.P := (by rw [hr9]; exact Nat.mod_lt _ P_pos)
 obtain ⟨r10, hr10⟩ : ∃ r : Nat, r = r8 * ii % Ed.P := ⟨_, rfl⟩
 have br10 : r10 < Ed.P := (by rw [hr10]; exact Nat.mod_lt _ P_pos)
 obtain ⟨r11, hr11⟩ : ∃ r : Nat, r = r10 * r10 % Ed.P := ⟨_, rfl⟩
 have br11 : r11 < Ed.P := (by rw [hr11]; exact Nat.mod_lt _ P_pos)
 have e2 : r2 = ww := by rw [hr2, hr1, hw]
 have e7 : r7 = Ed.E8 := add3_E8 hmm hr3 hr5 hr6 hr7
 have e8 : r8 = rtX ww := by rw [hr8, e2, e7]; rfl
 have eX : r10 = X := by rw [hX, hr10, e8, hii]; unfold rtN; exact (if_neg hin).symm
 have hrun := calls_of_runG (P := Tryd.prog) (v := ⟨envI [(lm u 0 : Int), (lm u 1 : Int), (lm u 2 : Int), (lm u 3 : Int), (lm v 0 : Int), (lm v 1 : Int), (lm v 2 : Int), (lm v 3 : Int), (lm r1 0 : Int), (lm r1 1 : Int), (lm r1 2 : Int), (lm r1 3 : Int), (lm r2 0 : Int), (lm r2 1 : Int), (lm r2 2 : Int), (lm r2 3 : Int), (lm mm 0 : Int), (lm mm 1 : Int), (lm mm 2 : Int), (lm mm 3 : Int), (lm r3 0 : Int), (lm r3 1 : Int), (lm r3 2 : Int), (lm r3 3 : Int), 0, (lm r5 0 : Int), (lm r5 1 : Int), (lm r5 2 : Int), (lm r5 3 : Int), (lm r6 0 : Int), (lm r6 1 : Int), (lm r6 2 : Int), (lm r6 3 : Int), (lm r7 0 : Int), (lm r7 1 : Int), (lm r7 2 : Int), (lm r7 3 : Int), (lm r8 0 : Int), (lm r8 1 : Int), (lm r8 2 : Int), (lm r8 3 : Int), (lm r9 0 : Int), (lm r9 1 : Int), (lm r9 2 : Int), (lm r9 3 : Int), (lm r10 0 : Int), (lm r10 1 : Int), (lm r10 2 : Int), (lm r10 3 : Int), (lm r11 0 : Int), (lm r11 1 : Int), (lm r11 2 : Int), (lm r11 3 : Int)], envB [false, false, false, false, false, false, false, false, false, false, false, false, false, false, false, false, false, false, false, false, false, false, false, false, r4], envL [], envP [], LE Ts, w⟩) (gs := (edGs Ts [v_root])) (fuel := 3000) (nv := 8) (args := [JD45, JD35]) (ora := [none, some true]) (sums := []) (res := [JD47, (.sc (.bool (.and (.cmp .eql (.var 49) (.var 12)) (.and (.cmp .eql (.var 50) (.var 13)) (.and (.cmp .eql (.var 51) (.var 14)) (.cmp .eql (.var 52) (.var 15)))))))]) (ev := [.call 46 [JD6, JD35] (.one JD7), .call 63 [JD45, JD7] (.one JD27), .call 68 [JD6] (.one JD26), .call 87 [JD26, JD62] (.tup [JD24, (.sc (.bool (.var 24)))]), .call 89 [JD24] (.one JD52), .call 89 [JD52] (.one JD41), .call 89 [JD41] (.one JD51), .call 49 [JD6, JD27, JD51] (.one JD33), .call 63 [JD33, JD33] (.one (.agg [.v 41, .v 42, .v 43, .v 44])), .dec JD44 true, .call 63 [JD33, (.agg [.n 14190309331451158704, .n 3405592160176694392, .n 3120150775007532967, .n 3135389899092516619])] (.one JD47), .call 63 [JD47, JD47] (.one (.agg [.v 49, .v 50, .v 51, .v 52]))]) (lev := []) Tryd.func64 (by kernel_rfl) (by kernel_rfl)
  (evs_of ⟨?_, ?_, ?_, ?_, ?_, ?_, ?_, ?_, ?_, ?_, ?_, ?_, trivial⟩) (by simp) (varsOk Ts _ (List.forall_mem_cons.2 ⟨Ts.root, (List.forall_mem_nil _)⟩) (by decide)) hK hG
 ·(subst eX; refine hrun.mono fun e w' h => ⟨h.1.trans (congrArg (fun z => Ending.returned (Value.tuple #[vN r10, .bool z])) (show (((lm r11 0 : Int) == (lm r2 0 : Int)) && (((lm r11 1 : Int) == (lm r2 1 : Int)) && (((lm r11 2 : Int) == (lm r2 2 : Int)) && ((lm r11 3 : Int) == (lm r2 3 : Int))))) = k from ?_)), h.2⟩; rw [lm_eq (Nat.lt_trans br11 PN) (Nat.lt_trans br2 PN), hk, hr11, e2])
 ·exact finv_g Ts v (by first | assumption | exact ltP ‹_› | decide +kernel) hr1
 ·exact emul_g Ts u r1 (by first | assumption | exact ltP ‹_› | decide +kernel) (by first | assumption | exact ltP ‹_› | decide +kernel) hr2
 ·exact fmod_g Ts hmm
 ·exact CallP.g (limb_add_l mm 3 (by first | assumption | exact Nat.mod_lt _ (by decide) | (show _ < _; decide) | omega) (by first | assumption | exact Nat.mod_lt _ (by decide) | (show _ < _; decide) | omega) hr3 hr4)
 ·exact CallP.g (limb_half_l r3 br3 hr5)
 ·exact CallP.g (limb_half_l r5 br5 hr6)
 ·exact CallP.g (limb_half_l r6 br6 hr7)
 ·exact fpow_g Ts r2 r7 (by first | assumption | exact ltP ‹_› | decide +kernel) (by first | assumption | exact ltP ‹_› | decide +kernel) hr8
 ·exact emul_g Ts r8 r8 (by first | assumption | exact ltP ‹_› | decide +kernel) (by first | assumption | exact ltP ‹_› | decide +kernel) hr9
 ·(show (!(((lm r9 0 : Int) == (lm r2 0 : Int)) && (((lm r9 1 : Int) == (lm r2 1 : Int)) && (((lm r9 2 : Int) == (lm r2 2 : Int)) && ((lm r9 3 : Int) == (lm r2 3 : Int)))))) = true; rw [lm_eq (Nat.lt_trans br9 PN) (Nat.lt_trans br2 PN), decide_eq_false (by rw [hr9, e8, e2]; exact hin)]; rfl)
 ·(have hX := show CallG Tryd.prog (LE Ts) 63 #[vN r8, vN ii] (vN r10) from emul_g Ts r8 ii (by first | assumption | exact ltP ‹_› | decide +kernel) (by rw [hii]; decide +kernel) hr10; rw [hii] at hX; exact hX)
 ·exact emul_g Ts r10 r10 (by first | assumption | exact ltP ‹_› | decide +kernel) (by first | assumption | exact ltP ‹_› | decide +kernel) hr11
theorem ratio_g (Ts : TR) (u v : Nat) (hu : u < N) (hv : v < N) {w X : Nat} {k : Bool} (hw : w = u * (v ^ (Ed.P - 2) % Ed.P) % Ed.P) (hX : X = rtN w) (hk : k = decide (X * X % Ed.P = w)) : CallG Tryd.prog (LE Ts) 64 #[vN u, vN v] (.tuple #[vN X, .bool k]) := by
 refine callG_of Tryd.func64 (by kernel_rfl) (by kernel_rfl) (fun W hK hG => ?_)
 by_cases h : rtX w * rtX w % Ed.P = w
 ·exact ratio_in u v Ts hu hv w X k hw hX hk h _ _ rfl rfl W hK hG
 ·exact ratio_out u v Ts hu hv w X k hw hX hk h _ _ rfl rfl W hK hG
theorem eenc_yes (x y : Nat) (b : Bool) (Ts : TV) (hx : x < N) (hy : y < N) (hf : formedB x y b = true) {r : List Int} (hr : r = putN 32 (encN x y b)) : CallS Tryd.prog (LE Ts) 23 [.val (vP x y b)] [.fresh 5 r 0 r.length true] := by
 refine callS_of Tryd.func23 (by kernel_rfl) (by kernel_rfl) (fun w us hK hG ha => ?_)
 obtain ⟨_, _, rfl, rfl, rfl⟩ := ha
 obtain ⟨r1, hr1⟩ : ∃ r : Bool, r = formedB x y b := ⟨_, rfl⟩
 obtain ⟨r2, hr2⟩ : ∃ r : List Int, r = putN 32 y := ⟨_, rfl⟩
 have len1 : r2.length = 32 := by rw [hr2, putN_length]
 have hrun := calls_of_runS (P := Tryd.prog) (v := ⟨envI [lm x 0, lm x 1, lm x 2, lm x 3, lm y 0, lm y 1, lm y 2, lm y 3], envB [false, false, false, false, false, false, false, false, b, r1], envL [[], [], [], [], [], [], [], [], [], [], r2], envP [], LE Ts, w⟩) (gs := (edGs Ts [v_one])) (fuel := 3000) (nv := 9) (args := JD4) (ora := [some true]) (sums := []) (r := ⟨[(.fresh 5 (.set (.lvar 10) (.lit 31) (.bit .or .u8 JD63 (.shl .u8 (.conv .u8 (.bit .and .u64 (.var 0) (.lit 1))) (.lit 7)))) (.lit 0) (.len (.lvar 10)) true)], [.call 54 JD4 (.one JD57), .dec (.var 9) true, .callS 28 [(.val JD35)] [(.fresh 5 (.lvar 10) (.lit 0) (.len (.lvar 10)) true)], .dec JD13 true, .dec JD13 true, .dec JD13 true, .dec JD13 true], []⟩) Tryd.func23 (by kernel_rfl)
  (evs_of ⟨?_, ?_, ?_, ?_, ?_, ?_, ?_, trivial⟩) (by simp) (varsOk Ts _ (List.forall_mem_cons.2 ⟨Ts.one, (List.forall_mem_nil _)⟩) (by decide)) hK hG _ (⟨_, _, rfl, rfl, rfl⟩)
 ·exact runS_eq hrun (by (have e1 : (r2.set ((31 : Int)).toNat (Go.bits .or .u8 (r2.getD ((31 : Int)).toNat 0) (IntKind.u8.wrap ((IntKind.u8.wrap (Go.bits .and .u64 (lm x 0 : Int) (1 : Int))) * 2 ^ (min ((7 : Int)).toNat IntKind.u8.bits))))) = r := (by rw [par_and, hr2, hr]; unfold encN; rw [if_pos hf]; exact put_or (y_lt hf)); show [SRes.fresh 5 ((r2.set ((31 : Int)).toNat (Go.bits .or .u8 (r2.getD ((31 : Int)).toNat 0) (IntKind.u8.wrap ((IntKind.u8.wrap (Go.bits .and .u64 (lm x 0 : Int) (1 : Int))) * 2 ^ (min ((7 : Int)).toNat IntKind.u8.bits)))))) 0 (((r2.length : Nat) : Int)).toNat true] = _; rw [Int.toNat_natCast, len1, e1, hr, putN_length]))
 ·exact eformed_g Ts x y b (by first | assumption | exact ltP ‹_› | decide +kernel) (by first | assumption | exact ltP ‹_› | decide +kernel) hr1
 ·(show r1 = true; rw [hr1]; exact hf)
 ·exact CallS.g (putl_s y hr2)
 iterate 4 (exact dec_ixEdK (l := r2) rfl (by omega))
theorem eenc_no (x y : Nat) (b : Bool) (Ts : TV) (hx : x < N) (hy : y < N) (hf : ¬ formedB x y b = true) (r2 : List Int) (hr2 : r2 = putN 32 1) {r : List Int} (hr : r = putN 32 (encN x y b)) : CallS Tryd.prog (LE Ts) 23 [.val (vP x y b)] [.fresh 5 r 0 r.length true] := by
 refine callS_of Tryd.func23 (by kernel_rfl) (by kernel_rfl) (fun w us hK hG ha => ?_)
 obtain ⟨_, _, rfl, rfl, rfl⟩ := ha
 obtain ⟨r1, hr1⟩ : ∃ r : Bool, r = formedB x y b := ⟨_, rfl⟩
 have len1 : r2.length = 32 := by rw [hr2, putN_length]
 have hrun := calls_of_runS (P := Tryd.prog) (v := ⟨envI [lm x 0, lm x 1, lm x 2, lm x 3, lm y 0, lm y 1, lm y 2, lm y 3], envB [false, false, false, false, false, false, false, false, b, r1], envL [[], [], [], [], [], [], [], [], [], [], r2], envP [], LE Ts, w⟩) (gs := (edGs Ts [v_one])) (fuel := 3000) (nv := 9) (args := JD4) (ora := [some false]) (sums := []) (r := ⟨[(.fresh 5 (.set (.lvar 10) (.lit 31) (.bit .or .u8 JD63 (.lit 0))) (.lit 0) (.len (.lvar 10)) true)], [.call 54 JD4 (.one JD57), .dec (.var 9) false, .callS 28 [(.val JD36)] [(.fresh 5 (.lvar 10) (.lit 0) (.len (.lvar 10)) true)], .dec JD13 true, .dec JD13 true, .dec JD13 true, .dec JD13 true], []⟩) Tryd.func23 (by kernel_rfl)
  (evs_of ⟨?_, ?_, ?_, ?_, ?_, ?_, ?_, trivial⟩) (by simp) (varsOk Ts _ (List.forall_mem_cons.2 ⟨Ts.one, (List.forall_mem_nil _)⟩) (by decide)) hK hG _ (⟨_, _, rfl, rfl, rfl⟩)
 ·exact runS_eq hrun (by (have e1 : (r2.set ((31 : Int)).toNat (Go.bits .or .u8 (r2.getD ((31 : Int)).toNat 0) (0 : Int))) = r := (by rw [hr2, hr]; unfold encN; rw [if_neg hf]; decide +kernel); show [SRes.fresh 5 ((r2.set ((31 : Int)).toNat (Go.bits .or .u8 (r2.getD ((31 : Int)).toNat 0) (0 : Int)))) 0 (((r2.length : Nat) : Int)).toNat true] = _; rw [Int.toNat_natCast, len1, e1, hr, putN_length]))
 ·exact eformed_g Ts x y b (by first | assumption | exact ltP ‹_› | decide +kernel) (by first | assumption | exact ltP ‹_› | decide +kernel) hr1
 ·(show r1 = false; rw [hr1]; exact Bool.eq_false_iff.2 hf)
 ·exact CallS.g (putl_s 1 hr2)
 iterate 4 (exact dec_ixEdK (l := r2) rfl (by omega))
theorem eencode_g (Ts : TV) (x y : Nat) (b : Bool) (hx : x < N) (hy : y < N) {r : List Int} (hr : r = putN 32 (encN x y b)) : CallS Tryd.prog (LE Ts) 23 [.val (vP x y b)] [.fresh 5 r 0 r.length true] := by
 by_cases hf : formedB x y b = true
 ·exact eenc_yes x y b Ts hx hy hf hr
 ·exact eenc_no x y b Ts hx hy hf _ rfl hr
theorem renc_odd (x y : Nat) (b : Bool) (Ts : TV) (hx : x < N) (hy : y < N) (hf : formedB x y b = true) (hp : x % 2 = 1) {r : List Int} (hr : r = putN 32 (encN x y b)) : CallS Tryd.prog (LE Ts) 38 [.val (vP x y b)] [.fresh 5 r 0 r.length true] := by
 refine callS_of Tryd.func38 (by kernel_rfl) (by kernel_rfl) (fun w us hK hG ha => ?_)
 obtain ⟨_, _, rfl, rfl, rfl⟩ := ha
 obtain ⟨r1, hr1⟩ : ∃ r : Bool, r = formedB x y b := ⟨_, rfl⟩
 obtain ⟨r2, hr2⟩ : ∃ r : List Int, r = putN 32 y := ⟨_, rfl⟩
 have len1 : r2.length = 32 := by rw [hr2, putN_length]
 have hrun := calls_of_runS (P := Tryd.prog) (v := ⟨envI [lm x 0, lm x 1, lm x 2, lm x 3, lm y 0, lm y 1, lm y 2, lm y 3], envB [false, false, false, false, false, false, false, false, b, r1], envL [[], [], [], [], [], [], [], [], [], [], r2], envP [], LE Ts, w⟩) (gs := []) (fuel := 3000) (nv := 9) (args := JD4) (ora := [some true, some true]) (sums := []) (r := ⟨[(.fresh 5 (.set (.lvar 10) (.lit 31) (.add .u8 JD63 (.lit 128))) (.lit 0) (.len (.lvar 10)) true)], [.call 20 JD4 (.one JD57), .dec (.var 9) true, .callS 15 [(.val JD35)] [(.fresh 5 (.lvar 10) (.lit 0) (.len (.lvar 10)) true)], .dec (.cmp .eql (.rem (.var 0) (.lit 2)) (.lit 1)) true, .dec JD13 true, .dec JD13 true, .dec JD13 true, .dec JD13 true], []⟩) Tryd.func38 (by kernel_rfl)
  (evs_of ⟨?_, ?_, ?_, ?_, ?_, ?_, ?_, ?_, trivial⟩) (by simp) (GsOk.nil _) hK hG _ (⟨_, _, rfl, rfl, rfl⟩)
 ·exact runS_eq hrun (by (have e1 : (r2.set ((31 : Int)).toNat (IntKind.u8.wrap ((r2.getD ((31 : Int)).toNat 0) + (128 : Int)))) = r := (by rw [hr2, hr]; unfold encN; rw [if_pos hf, hp]; exact put_add (y_lt hf)); show [SRes.fresh 5 ((r2.set ((31 : Int)).toNat (IntKind.u8.wrap ((r2.getD ((31 : Int)).toNat 0) + (128 : Int))))) 0 (((r2.length : Nat) : Int)).toNat true] = _; rw [Int.toNat_natCast, len1, e1, hr, putN_length]))
 ·exact rformed_g Ts x y b (by first | assumption | exact ltP ‹_› | decide +kernel) (by first | assumption | exact ltP ‹_› | decide +kernel) hr1
 ·(show r1 = true; rw [hr1]; exact hf)
 ·exact CallS.g (rputl_s y hr2)
 ·exact dec_eq_t (a := (Int.tmod (lm x 0 : Int) (2 : Int))) (b := 1) rfl rfl (by rw [par_rem, hp]; decide)
 iterate 4 (exact dec_ixEdK (l := r2) rfl (by omega))
theorem renc_even (x y : Nat) (b : Bool) (Ts : TV) (hx : x < N) (hy : y < N) (hf : formedB x y b = true) (hp : x % 2 = 0) {r : List Int} (hr : r = putN 32 (encN x y b)) : CallS Tryd.prog (LE Ts) 38 [.val (vP x y b)] [.fresh 5 r 0 r.length true] := by
 refine callS_of Tryd.func38 (by kernel_rfl) (by kernel_rfl) (fun w us hK hG ha => ?_)
 obtain ⟨_, _, rfl, rfl, rfl⟩ := ha
 obtain ⟨r1, hr1⟩ : ∃ r : Bool, r = formedB x y b := ⟨_, rfl⟩
 obtain ⟨r2, hr2⟩ : ∃ r : List Int, r = putN 32 y := ⟨_, rfl⟩
 have len1 : r2.length = 32 := by rw [hr2, putN_length]
 have hrun := calls_of_runS (P := Tryd.prog) (v := ⟨envI [lm x 0, lm x 1, lm x 2, lm x 3, lm y 0, lm y 1, lm y 2, lm y 3], envB [false, false, false, false, false, false, false, false, b, r1], envL [[], [], [], [], [], [], [], [], [], [], r2], envP [], LE Ts, w⟩) (gs := []) (fuel := 3000) (nv := 9) (args := JD4) (ora := [some true, some false]) (sums := []) (r := ⟨[(.fresh 5 (.lvar 10) (.lit 0) (.len (.lvar 10)) true)], [.call 20 JD4 (.one JD57), .dec (.var 9) true, .callS 15 [(.val JD35)] [(.fresh 5 (.lvar 10) (.lit 0) (.len (.lvar 10)) true)], .dec (.cmp .eql (.rem (.var 0) (.lit 2)) (.lit 1)) false], []⟩) Tryd.func38 (by kernel_rfl)
  (evs_of ⟨?_, ?_, ?_, ?_, trivial⟩) (by simp) (GsOk.nil _) hK hG _ (⟨_, _, rfl, rfl, rfl⟩)
 ·exact runS_eq hrun (by (have e1 : r2 = r := (by rw [hr2, hr]; unfold encN; rw [if_pos hf, hp, Nat.mul_zero, Nat.add_zero]); show [SRes.fresh 5 (r2) 0 (((r2.length : Nat) : Int)).toNat true] = _; rw [Int.toNat_natCast, len1, e1, hr, putN_length]))
 ·exact rformed_g Ts x y b (by first | assumption | exact ltP ‹_› | decide +kernel) (by first | assumption | exact ltP ‹_› | decide +kernel) hr1
 ·(show r1 = true; rw [hr1]; exact hf)
 ·exact CallS.g (rputl_s y hr2)
 ·exact dec_eq_f (a := (Int.tmod (lm x 0 : Int) (2 : Int))) (b := 1) rfl rfl (by rw [par_rem, hp]; decide)
theorem renc_no (x y : Nat) (b : Bool) (Ts : TV) (hx : x < N) (hy : y < N) (hf : ¬ formedB x y b = true) (r2 : List Int) (hr2 : r2 = putN 32 1) (X0 Y0 : Nat) (hX0 : X0 = 0) (hY0 : Y0 = 1) {r : List Int} (hr : r = putN 32 (encN x y b)) : CallS Tryd.prog (LE Ts) 38 [.val (vP x y b)] [.fresh 5 r 0 r.length true] := by
 refine callS_of Tryd.func38 (by kernel_rfl) (by kernel_rfl) (fun w us hK hG ha => ?_)
 obtain ⟨_, _, rfl, rfl, rfl⟩ := ha
 obtain ⟨r1, hr1⟩ : ∃ r : Bool, r = formedB x y b := ⟨_, rfl⟩
 have len1 : r2.length = 32 := by rw [hr2, putN_length]
 have hrun := calls_of_runS (P := Tryd.prog) (v := ⟨envI [lm x 0, lm x 1, lm x 2, lm x 3, lm y 0, lm y 1, lm y 2, lm y 3, 0, 0, lm X0 0, lm X0 1, lm X0 2, lm X0 3, lm Y0 0, lm Y0 1, lm Y0 2, lm Y0 3], envB [false, false, false, false, false, false, false, false, b, r1, false, false, false, false, false, false, false, false, false], envL [[], [], [], [], [], [], [], [], [], [], [], [], [], [], [], [], [], [], [], r2], envP [], LE Ts, w⟩) (gs := []) (fuel := 3000) (nv := 9) (args := JD4) (ora := [some false, none, some false]) (sums := []) (r := ⟨[(.fresh 5 (.lvar 19) (.lit 0) (.len (.lvar 19)) true)], [.call 20 JD4 (.one JD57), .dec (.var 9) false, .call 42 [] (.one (.agg [.v 10, .v 11, .v 12, .v 13, .v 14, .v 15, .v 16, .v 17, .bool (.var 18)])), .callS 15 [(.val JD15)] [(.fresh 5 (.lvar 19) (.lit 0) (.len (.lvar 19)) true)], .dec (.cmp .eql (.rem (.var 10) (.lit 2)) (.lit 1)) false], []⟩) Tryd.func38 (by kernel_rfl)
  (evs_of ⟨?_, ?_, ?_, ?_, ?_, trivial⟩) (by simp) (GsOk.nil _) hK hG _ (⟨_, _, rfl, rfl, rfl⟩)
 ·exact runS_eq hrun (by (have e1 : r2 = r := (by rw [hr2, hr]; unfold encN; rw [if_neg hf]); show [SRes.fresh 5 (r2) 0 (((r2.length : Nat) : Int)).toNat true] = _; rw [Int.toNat_natCast, len1, e1, hr, putN_length]))
 ·exact rformed_g Ts x y b (by first | assumption | exact ltP ‹_› | decide +kernel) (by first | assumption | exact ltP ‹_› | decide +kernel) hr1
 ·(show r1 = false; rw [hr1]; exact Bool.eq_false_iff.2 hf)
 ·exact CallP.g (rnone_c hX0 hY0)
 ·exact CallS.g (rputl_s Y0 (hr2.trans (by rw [hY0])))
 ·exact dec_eq_f (a := (Int.tmod (lm X0 0 : Int) (2 : Int))) (b := 1) rfl rfl (by rw [par_rem, hX0]; decide)
theorem rencode_g (Ts : TV) (x y : Nat) (b : Bool) (hx : x < N) (hy : y < N) {r : List Int} (hr : r = putN 32 (encN x y b)) : CallS Tryd.prog (LE Ts) 38 [.val (vP x y b)] [.fresh 5 r 0 r.length true] := by
 by_cases hf : formedB x y b = true
 ·obtain hp | hp : x % 2 = 1 ∨ x % 2 = 0 := by omega
  ·exact renc_odd x y b Ts hx hy hf hp hr
  ·exact renc_even x y b Ts hx hy hf hp hr
 ·exact renc_no x y b Ts hx hy hf _ rfl _ _ rfl rfl hr
theorem edec_len (l : List Int) (Ts : TR) (h : ¬ l.length = 32) : CallS Tryd.prog (LE Ts) 31 [.bytes l] [.val (.agg #[.int .u64 (lm 0 0), .int .u64 (lm 0 1), .int .u64 (lm 0 2), .int .u64 (lm 0 3), .int .u64 (lm 1 0), .int .u64 (lm 1 1), .int .u64 (lm 1 2), .int .u64 (lm 1 3), .bool false]), .val (.bool false)] := by
 refine callS_of Tryd.func31 (by kernel_rfl) (by kernel_rfl) (fun w us hK hG ha => ?_)
 obtain ⟨u0, _, rfl, hu0, rfl⟩ := ha
 have hrun := calls_of_runS (P := Tryd.prog) (v := ⟨envI [], envB [], envL [l], envP [], LE Ts, w⟩) (gs := (edGs Ts [v_one, v_d])) (fuel := 3000) (nv := 1) (args := [(.imm (.lvar 0) none)]) (ora := [some true]) (sums := []) (r := ⟨[(.val JD37), (.val JD46)], [.dec JD12 true], []⟩) Tryd.func31 (by kernel_rfl)
  (evs_of ⟨?_, trivial⟩) (by simp) (varsOk Ts _ (List.forall_mem_cons.2 ⟨Ts.one, (List.forall_mem_cons.2 ⟨Ts.d, (List.forall_mem_nil _)⟩)⟩) (by decide)) hK hG _ (⟨u0, _, rfl, ⟨hu0, fun b hb => by cases hb⟩, rfl⟩)
 ·exact runS_eq hrun (by kernel_rfl)
 ·exact dec_ne_t (a := l.length) (b := 32) rfl rfl (by omega)
theorem edec_big (l : List Int) (Ts : TR) (h : l.length = 32) (hb : IsBytes l) (y s : Nat) (hy : y = leN l % 57896044618658097711785492504343953926634992332820282019728792003956564819968) (hs : s = leN l / 57896044618658097711785492504343953926634992332820282019728792003956564819968) (dd : Nat) (hdd : dd = Ed.dN) (hP : ¬ y < Ed.P) : CallS Tryd.prog (LE Ts) 31 [.bytes l] [.val (.agg #[.int .u64 (lm 0 0), .int .u64 (lm 0 1), .int .u64 (lm 0 2), .int .u64 (lm 0 3), .int .u64 (lm 1 0), .int .u64 (lm 1 1), .int .u64 (lm 1 2), .int .u64 (lm 1 3), .bool false]), .val (.bool false)] := by
 refine callS_of Tryd.func31 (by kernel_rfl) (by kernel_rfl) (fun w us hK hG ha => ?_)
 obtain ⟨u0, _, rfl, hu0, rfl⟩ := ha
 obtain ⟨r1, hr1⟩ : ∃ r : List Int, r = l := ⟨_, rfl⟩
 obtain ⟨r2, hr2⟩ : ∃ r : Nat, r = if (r1.set ((31 : Int)).toNat (Go.bits .and .u8 (r1.getD ((31 : Int)).toNat 0) (127 : Int))).length = 32 then leN (r1.set ((31 : Int)).toNat (Go.bits .and .u8 (r1.getD ((31 : Int)).toNat 0) (127 : Int))) else 0 := ⟨_, rfl⟩
 obtain ⟨r3, hr3⟩ : ∃ r : Bool, r = decide ((r1.set ((31 : Int)).toNat (Go.bits .and .u8 (r1.getD ((31 : Int)).toNat 0) (127 : Int))).length = 32) := ⟨_, rfl⟩
 obtain ⟨r4, hr4⟩ : ∃ r : Bool, r = decide (r2 < Ed.P) := ⟨_, rfl⟩
 have el : r1.length = 32 := by rw [hr1]; exact h
 have lo := low_and (l := r1) el (by rw [hr1]; exact hb)
 have lo1 := lo.2.1
 have ey : r2 = y := by rw [hr2, if_pos lo.2.2, lo.1, hr1, hy]
 have hyN : r2 < N := by rw [hr2]; split; exact leN32_lt lo.2.2 lo.2.1; decide
 have bdd : dd < N := by rw [hdd]; decide +kernel
 have hrun := calls_of_runS (P := Tryd.prog) (v := ⟨envI [0, 0, lm r2 0, lm r2 1, lm r2 2, lm r2 3], envB [false, false, false, false, false, false, r3, r4], envL [l, r1], envP [], LE Ts, w⟩) (gs := (edGs Ts [v_one, v_d])) (fuel := 3000) (nv := 1) (args := [(.imm (.lvar 0) none)]) (ora := [some false, none, some false]) (sums := []) (r := ⟨[(.val JD37), (.val JD46)], [.dec JD12 false, .callS 62 [(.bytes (.lvar 0))] [(.fresh 5 (.lvar 1) (.lit 0) (.len (.lvar 1)) true)], .dec JD3 true, .dec JD3 true, .dec JD3 true, .dec JD3 true, .callS 32 [(.bytes JD32)] [(.val JD9), (.val JD59)], .call 33 [JD6, JD9] (.one JD58), .dec (.var 7) false], []⟩) Tryd.func31 (by kernel_rfl)
  (evs_of ⟨?_, ?_, ?_, ?_, ?_, ?_, ?_, ?_, ?_, trivial⟩) (by simp) (varsOk Ts _ (List.forall_mem_cons.2 ⟨Ts.one, (List.forall_mem_cons.2 ⟨Ts.d, (List.forall_mem_nil _)⟩)⟩) (by decide)) hK hG _ (⟨u0, _, rfl, ⟨hu0, fun b hb => by cases hb⟩, rfl⟩)
 ·exact runS_eq hrun (by kernel_rfl)
 ·exact dec_ne_f (a := l.length) (b := 32) rfl rfl (by omega)
 ·exact CallS.g (clone_s l (by first | assumption | omega | (simp; omega) | (simp [*, putN_length]; done)) hr1)
 iterate 4 (exact dec_ixEdK (l := r1) rfl (by omega))
 ·exact CallS.g (little_s (r1.set ((31 : Int)).toNat (Go.bits .and .u8 (r1.getD ((31 : Int)).toNat 0) (127 : Int))) (by first | assumption | (simp only [*]; first | exact putN_bytes _ _ | exact (putN_bytes _ _).reverse | (apply IsBytes.reverse; assumption))) hr2 hr3)
 ·exact ebelow_g Ts r2 (by first | assumption | exact ltP ‹_› | decide +kernel) hr4
 ·(show r4 = false; rw [hr4, ey]; exact decide_eq_false hP)
theorem edec_no (l : List Int) (Ts : TR) (h : l.length = 32) (hb : IsBytes l) (y s : Nat) (hy : y = leN l % 57896044618658097711785492504343953926634992332820282019728792003956564819968) (hs : s = leN l / 57896044618658097711785492504343953926634992332820282019728792003956564819968) (dd : Nat) (hdd : dd = Ed.dN) (hP : y < Ed.P) (hok : ¬ rtN (wN y) * rtN (wN y) % Ed.P = wN y) : CallS Tryd.prog (LE Ts) 31 [.bytes l] [.val (.agg #[.int .u64 (lm 0 0), .int .u64 (lm 0 1), .int .u64 (lm 0 2), .int .u64 (lm 0 3), .int .u64 (lm 1 0), .int .u64 (lm 1 1), .int .u64 (lm 1 2), .int .u64 (lm 1 3), .bool false]), .val (.bool false)] := by
 refine callS_of Tryd.func31 (by kernel_rfl) (by kernel_rfl) (fun w us hK hG ha => ?_)
 obtain ⟨u0, _, rfl, hu0, rfl⟩ := ha
 obtain ⟨r1, hr1⟩ : ∃ r : List Int, r = l := ⟨_, rfl⟩
 obtain ⟨r2, hr2⟩ : ∃ r : Nat, r = if (r1.set ((31 : Int)).toNat (Go.bits .and .u8 (r1.getD ((31 : Int)).toNat 0) (127 : Int))).length = 32 then leN (r1.set ((31 : Int)).toNat (Go.bits .and .u8 (r1.getD ((31 : Int)).toNat 0) (127 : Int))) else 0 := ⟨_, rfl⟩
 obtain ⟨r3, hr3⟩ : ∃ r : Bool, r = decide ((r1.set ((31 : Int)).toNat (Go.bits .and .u8 (r1.getD ((31 : Int)).toNat 0) (127 : Int))).length = 32) := ⟨_, rfl⟩
 obtain ⟨r4, hr4⟩ : ∃ r : Bool, r = decide (r2 < Ed.P) := ⟨_, rfl⟩
 obtain ⟨r5, hr5⟩ : ∃ r : Nat, r = r2 * r2 % Ed.P := ⟨_, rfl⟩
 have br5 : r5 < Ed.P := (by rw [hr5]; exact Nat.mod_lt _ P_pos)
 obtain ⟨r6, hr6⟩ : ∃ r : Nat, r = sb Ed.P r5 1 := ⟨_, rfl⟩
 have br6 : r6 < Ed.P := (by rw [hr6]; exact sb_P _ _)
 obtain ⟨r7, hr7⟩ : ∃ r : Nat, r = dd * r5 % Ed.P := ⟨_, rfl⟩
 have br7 : r7 < Ed.P := (by rw [hr7]; exact Nat.mod_lt _ P_pos)
 obtain ⟨r8, hr8⟩ : ∃ r : Nat, r = (r7 + 1) % Ed.P := ⟨_, rfl⟩
 have br8 : r8 < Ed.P := (by rw [hr8]; exact Nat.mod_lt _ P_pos)
 obtain ⟨w9, hw9⟩ : ∃ w : Nat, w = r6 * (r8 ^ (Ed.P - 2) % Ed.P) % Ed.P := ⟨_, rfl⟩
 obtain ⟨r10, hr10⟩ : ∃ r : Nat, r = rtN w9 := ⟨_, rfl⟩
 obtain ⟨r11, hr11⟩ : ∃ r : Bool, r = decide (r10 * r10 % Ed.P = w9) := ⟨_, rfl⟩
 have br10 : r10 < Ed.P := (by rw [hr10]; exact rtN_lt _)
 have el : r1.length = 32 := by rw [hr1]; exact h
 have lo := low_and (l := r1) el (by rw [hr1]; exact hb)
 have lo1 := lo.2.1
 have ey : r2 = y := by rw [hr2, if_pos lo.2.2, lo.1, hr1, hy]
 have hyN : r2 < N := by rw [hr2]; split; exact leN32_lt lo.2.2 lo.2.1; decide
 have bdd : dd < N := by rw [hdd]; decide +kernel
 have ew : w9 = wN y := by rw [hw9, hr8, hr7, hr6, hr5, ey, hdd]; rfl
 have eX : r10 = rtN (wN y) := by rw [hr10, ew]
 have hi := high_31 h hb
 have hrun := calls_of_runS (P := Tryd.prog) (v := ⟨envI [0, 0, lm r2 0, lm r2 1, lm r2 2, lm r2 3, 0, 0, lm r5 0, lm r5 1, lm r5 2, lm r5 3, lm r6 0, lm r6 1, lm r6 2, lm r6 3, lm r7 0, lm r7 1, lm r7 2, lm r7 3, lm r8 0, lm r8 1, lm r8 2, lm r8 3, lm r10 0, lm r10 1, lm r10 2, lm r10 3], envB [false, false, false, false, false, false, r3, r4, false, false, false, false, false, false, false, false, false, false, false, false, false, false, false, false, false, false, false, false, r11], envL [l, r1], envP [], LE Ts, w⟩) (gs := (edGs Ts [v_one, v_d])) (fuel := 3000) (nv := 1) (args := [(.imm (.lvar 0) none)]) (ora := [some false, none, some true, some false]) (sums := []) (r := ⟨[(.val JD37), (.val JD46)], [.dec JD12 false, .callS 62 [(.bytes (.lvar 0))] [(.fresh 5 (.lvar 1) (.lit 0) (.len (.lvar 1)) true)], .dec JD3 true, .dec JD3 true, .dec JD3 true, .dec JD3 true, .callS 32 [(.bytes JD32)] [(.val JD9), (.val JD59)], .call 33 [JD6, JD9] (.one JD58), .dec (.var 7) true, .call 63 [JD9, JD9] (.one JD7), .call 65 [JD7, JD36] (.one JD27), .call 63 JD30 (.one JD26), .call 66 [JD26, JD36] (.one JD24), .call 64 [JD27, JD24] (.tup JD38), .dec (.var 28) false], []⟩) Tryd.func31 (by kernel_rfl)
  (evs_of ⟨?_, ?_, ?_, ?_, ?_, ?_, ?_, ?_, ?_, ?_, ?_, ?_, ?_, ?_, ?_, trivial⟩) (by simp) (varsOk Ts _ (List.forall_mem_cons.2 ⟨Ts.one, (List.forall_mem_cons.2 ⟨Ts.d, (List.forall_mem_nil _)⟩)⟩) (by decide)) hK hG _ (⟨u0, _, rfl, ⟨hu0, fun b hb => by cases hb⟩, rfl⟩)
 ·exact runS_eq hrun (by kernel_rfl)
 ·exact dec_ne_f (a := l.length) (b := 32) rfl rfl (by omega)
 ·exact CallS.g (clone_s l (by first | assumption | omega | (simp; omega) | (simp [*, putN_length]; done)) hr1)
 iterate 4 (exact dec_ixEdK (l := r1) rfl (by omega))
 ·exact CallS.g (little_s (r1.set ((31 : Int)).toNat (Go.bits .and .u8 (r1.getD ((31 : Int)).toNat 0) (127 : Int))) (by first | assumption | (simp only [*]; first | exact putN_bytes _ _ | exact (putN_bytes _ _).reverse | (apply IsBytes.reverse; assumption))) hr2 hr3)
 ·exact ebelow_g Ts r2 (by first | assumption | exact ltP ‹_› | decide +kernel) hr4
 ·(show r4 = true; rw [hr4, ey]; exact decide_eq_true hP)
 ·exact emul_g Ts r2 r2 (by first | assumption | exact ltP ‹_› | decide +kernel) (by first | assumption | exact ltP ‹_› | decide +kernel) hr5
 ·exact esub_g Ts r5 1 (by first | assumption | exact ltP ‹_› | decide +kernel) (by first | assumption | exact ltP ‹_› | decide +kernel) hr6
 ·(have hX := show CallG Tryd.prog (LE Ts) 63 #[vN dd, vN r5] (vN r7) from emul_g Ts dd r5 (by rw [hdd]; decide +kernel) (by first | assumption | exact ltP ‹_› | decide +kernel) hr7; rw [hdd] at hX; exact hX)
 ·exact eadd_g Ts r7 1 (by first | assumption | exact ltP ‹_› | decide +kernel) (by first | assumption | exact ltP ‹_› | decide +kernel) hr8
 ·exact ratio_g Ts r6 r8 (by first | assumption | exact ltP ‹_› | decide +kernel) (by first | assumption | exact ltP ‹_› | decide +kernel) hw9 hr10 hr11
 ·(show r11 = false; rw [hr11, ew, eX]; exact decide_eq_false hok)
theorem edec_same (l : List Int) (Ts : TR) (h : l.length = 32) (hb : IsBytes l) (y s : Nat) (hy : y = leN l % 57896044618658097711785492504343953926634992332820282019728792003956564819968) (hs : s = leN l / 57896044618658097711785492504343953926634992332820282019728792003956564819968) (dd : Nat) (hdd : dd = Ed.dN) (hP : y < Ed.P) (hok : rtN (wN y) * rtN (wN y) % Ed.P = wN y) (hp : rtN (wN y) % 2 = s) (X : Nat) (hX : X = rtN (wN y)) : CallS Tryd.prog (LE Ts) 31 [.bytes l] [.val (vP X y false), .val (.bool true)] := by
 refine callS_of Tryd.func31 (by kernel_rfl) (by kernel_rfl) (fun w us hK hG ha => ?_)
 obtain ⟨u0, _, rfl, hu0, rfl⟩ := ha
 obtain ⟨r1, hr1⟩ : ∃ r : List Int, r = l := ⟨_, rfl⟩
 obtain ⟨r2, hr2⟩ : ∃ r : Nat, r = if (r1.set ((31 : Int)).toNat (Go.bits .and .u8 (r1.getD ((31 : Int)).toNat 0) (127 : Int))).length = 32 then leN (r1.set ((31 : Int)).toNat (Go.bits .and .u8 (r1.getD ((31 : Int)).toNat 0) (127 : Int))) else 0 := ⟨_, rfl⟩
 obtain ⟨r3, hr3⟩ : ∃ r : Bool, r = decide ((r1.set ((31 : Int)).toNat (Go.bits .and .u8 (r1.getD ((31 : Int)).toNat 0) (127 : Int))).length = 32) := ⟨_, rfl⟩
 obtain ⟨r4, hr4⟩ : ∃ r : Bool, r = decide (r2 < Ed.P) := ⟨_, rfl⟩
 obtain ⟨r5, hr5⟩ : ∃ r : Nat, r = r2 * r2 % Ed.P := ⟨_, rfl⟩
 have br5 : r5 < Ed.P := (by rw [hr5]; exact Nat.mod_lt _ P_pos)
 obtain ⟨r6, hr6⟩ : ∃ r : Nat, r = sb Ed.P r5 1 := ⟨_, rfl⟩
 have br6 : r6 < Ed.P := (by rw [hr6]; exact sb_P _ _)
 obtain ⟨r7, hr7⟩ : ∃ r : Nat, r = dd * r5 % Ed.P := ⟨_, rfl⟩
 have br7 : r7 < Ed.P := (by rw [hr7]; exact Nat.mod_lt _ P_pos)
 obtain ⟨r8, hr8⟩ : ∃ r : Nat, r = (r7 + 1) % Ed.P := ⟨_, rfl⟩
 have br8 : r8 < Ed.P := (by rw [hr8]; exact Nat.mod_lt _ P_pos)
 obtain ⟨w9, hw9⟩ : ∃ w : Nat, w = r6 * (r8 ^ (Ed.P - 2) % Ed.P) % Ed.P := ⟨_, rfl⟩
 obtain ⟨r10, hr10⟩ : ∃ r : Nat, r = rtN w9 := ⟨_, rfl⟩
 obtain ⟨r11, hr11⟩ : ∃ r : Bool, r = decide (r10 * r10 % Ed.P = w9) := ⟨_, rfl⟩
 have br10 : r10 < Ed.P := (by rw [hr10]; exact rtN_lt _)
 have el : r1.length = 32 := by rw [hr1]; exact h
 have lo := low_and (l := r1) el (by rw [hr1]; exact hb)
 have lo1 := lo.2.1
 have ey : r2 = y := by rw [hr2, if_pos lo.2.2, lo.1, hr1, hy]
 have hyN : r2 < N := by rw [hr2]; split; exact leN32_lt lo.2.2 lo.2.1; decide
 have bdd : dd < N := by rw [hdd]; decide +kernel
 have ew : w9 = wN y := by rw [hw9, hr8, hr7, hr6, hr5, ey, hdd]; rfl
 have eX : r10 = rtN (wN y) := by rw [hr10, ew]
 have hi := high_31 h hb
 have hrun := calls_of_runS (P := Tryd.prog) (v := ⟨envI [0, 0, lm r2 0, lm r2 1, lm r2 2, lm r2 3, 0, 0, lm r5 0, lm r5 1, lm r5 2, lm r5 3, lm r6 0, lm r6 1, lm r6 2, lm r6 3, lm r7 0, lm r7 1, lm r7 2, lm r7 3, lm r8 0, lm r8 1, lm r8 2, lm r8 3, lm r10 0, lm r10 1, lm r10 2, lm r10 3], envB [false, false, false, false, false, false, r3, r4, false, false, false, false, false, false, false, false, false, false, false, false, false, false, false, false, false, false, false, false, r11], envL [l, r1], envP [], LE Ts, w⟩) (gs := (edGs Ts [v_one, v_d])) (fuel := 3000) (nv := 1) (args := [(.imm (.lvar 0) none)]) (ora := [some false, none, some true, some true, some false, some false]) (sums := []) (r := ⟨[(.val (.agg [.v 24, .v 25, .v 26, .v 27, .v 2, .v 3, .v 4, .v 5, .bool (.lit false)])), (.val JD48)], [.dec JD12 false, .callS 62 [(.bytes (.lvar 0))] [(.fresh 5 (.lvar 1) (.lit 0) (.len (.lvar 1)) true)], .dec JD3 true, .dec JD3 true, .dec JD3 true, .dec JD3 true, .callS 32 [(.bytes JD32)] [(.val JD9), (.val JD59)], .call 33 [JD6, JD9] (.one JD58), .dec (.var 7) true, .call 63 [JD9, JD9] (.one JD7), .call 65 [JD7, JD36] (.one JD27), .call 63 JD30 (.one JD26), .call 66 [JD26, JD36] (.one JD24), .call 64 [JD27, JD24] (.tup JD38), .dec (.var 28) true, .dec JD0 true, .dec JD31 false, .dec JD0 true, .dec JD31 false], []⟩) Tryd.func31 (by kernel_rfl)
  (evs_of ⟨?_, ?_, ?_, ?_, ?_, ?_, ?_, ?_, ?_, ?_, ?_, ?_, ?_, ?_, ?_, ?_, ?_, ?_, ?_, trivial⟩) (by simp) (varsOk Ts _ (List.forall_mem_cons.2 ⟨Ts.one, (List.forall_mem_cons.2 ⟨Ts.d, (List.forall_mem_nil _)⟩)⟩) (by decide)) hK hG _ (⟨u0, _, rfl, ⟨hu0, fun b hb => by cases hb⟩, rfl⟩)
 ·exact runS_eq hrun (by (rw [hX, ← eX, ← ey]; rfl))
 ·exact dec_ne_f (a := l.length) (b := 32) rfl rfl (by omega)
 ·exact CallS.g (clone_s l (by first | assumption | omega | (simp; omega) | (simp [*, putN_length]; done)) hr1)
 iterate 4 (exact dec_ixEdK (l := r1) rfl (by omega))
 ·exact CallS.g (little_s (r1.set ((31 : Int)).toNat (Go.bits .and .u8 (r1.getD ((31 : Int)).toNat 0) (127 : Int))) (by first | assumption | (simp only [*]; first | exact putN_bytes _ _ | exact (putN_bytes _ _).reverse | (apply IsBytes.reverse; assumption))) hr2 hr3)
 ·exact ebelow_g Ts r2 (by first | assumption | exact ltP ‹_› | decide +kernel) hr4
 ·(show r4 = true; rw [hr4, ey]; exact decide_eq_true hP)
 ·exact emul_g Ts r2 r2 (by first | assumption | exact ltP ‹_› | decide +kernel) (by first | assumption | exact ltP ‹_› | decide +kernel) hr5
 ·exact esub_g Ts r5 1 (by first | assumption | exact ltP ‹_› | decide +kernel) (by first | assumption | exact ltP ‹_› | decide +kernel) hr6
 ·(have hX := show CallG Tryd.prog (LE Ts) 63 #[vN dd, vN r5] (vN r7) from emul_g Ts dd r5 (by rw [hdd]; decide +kernel) (by first | assumption | exact ltP ‹_› | decide +kernel) hr7; rw [hdd] at hX; exact hX)
 ·exact eadd_g Ts r7 1 (by first | assumption | exact ltP ‹_› | decide +kernel) (by first | assumption | exact ltP ‹_› | decide +kernel) hr8
 ·exact ratio_g Ts r6 r8 (by first | assumption | exact ltP ‹_› | decide +kernel) (by first | assumption | exact ltP ‹_› | decide +kernel) hw9 hr10 hr11
 ·(show r11 = true; rw [hr11, ew, eX]; exact decide_eq_true hok)
 ·exact dec_lt_t (a := 31) (b := l.length) rfl rfl (by omega)
 ·exact dec_ne_f (a := (IntKind.u8.wrap (Go.bits .and .u64 (lm r10 0 : Int) (1 : Int)))) (b := (Int.fdiv (l.getD ((31 : Int)).toNat 0) (2 ^ (min ((7 : Int)).toNat IntKind.u8.bits)))) rfl rfl (by rw [par_and, show ((31 : Int)).toNat = 31 from rfl, hi, ← hs]; rw [eX, hp])
 ·exact dec_lt_t (a := 31) (b := l.length) rfl rfl (by omega)
 ·exact dec_ne_f (a := (IntKind.u8.wrap (Go.bits .and .u64 (lm r10 0 : Int) (1 : Int)))) (b := (Int.fdiv (l.getD ((31 : Int)).toNat 0) (2 ^ (min ((7 : Int)).toNat IntKind.u8.bits)))) rfl rfl (by rw [par_and, show ((31 : Int)).toNat = 31 from rfl, hi, ← hs]; rw [eX, hp])
theorem edec_flip (l : List Int) (Ts : TR) (h : l.length = 32) (hb : IsBytes l) (y s : Nat) (hy : y = leN l % 57896044618658097711785492504343953926634992332820282019728792003956564819968) (hs : s = leN l / 57896044618658097711785492504343953926634992332820282019728792003956564819968) (dd : Nat) (hdd : dd = Ed.dN) (hP : y < Ed.P) (hok : rtN (wN y) * rtN (wN y) % Ed.P = wN y) (hp : ¬ rtN (wN y) % 2 = s) (hq : sb Ed.P 0 (rtN (wN y)) % 2 = s) (X : Nat) (hX : X = sb Ed.P 0 (rtN (wN y))) : CallS Tryd.prog (LE Ts) 31 [.bytes l] [.val (vP X y false), .val (.bool true)] := by
 refine callS_of Tryd.func31 (by kernel_rfl) (by kernel_rfl) (fun w us hK hG ha => ?_)
 obtain ⟨u0, _, rfl, hu0, rfl⟩ := ha
 obtain ⟨r1, hr1⟩ : ∃ r : List Int, r = l := ⟨_, rfl⟩
 obtain ⟨r2, hr2⟩ : ∃ r : Nat, r = if (r1.set ((31 : Int)).toNat (Go.bits .and .u8 (r1.getD ((31 : Int)).toNat 0) (127 : Int))).length = 32 then leN (r1.set ((31 : Int)).toNat (Go.bits .and .u8 (r1.getD ((31 : Int)).toNat 0) (127 : Int))) else 0 := ⟨_, rfl⟩
 obtain ⟨r3, hr3⟩ : ∃ r : Bool, r = decide ((r1.set ((31 : Int)).toNat (Go.bits .and .u8 (r1.getD ((31 : Int)).toNat 0) (127 : Int))).length = 32) := ⟨_, rfl⟩
 obtain ⟨r4, hr4⟩ : ∃ r : Bool, r = decide (r2 < Ed.P) := ⟨_, rfl⟩
 obtain ⟨r5, hr5⟩ : ∃ r : Nat, r = r2 * r2 % Ed.P := ⟨_, rfl⟩
 have br5 : r5 < Ed.P := (by rw [hr5]; exact Nat.mod_lt _ P_pos)
 obtain ⟨r6, hr6⟩ : ∃ r : Nat, r = sb Ed.P r5 1 := ⟨_, rfl⟩
 have br6 : r6 < Ed.P := (by rw [hr6]; exact sb_P _ _)
 obtain ⟨r7, hr7⟩ : ∃ r : Nat, r = dd * r5 % Ed.P := ⟨_, rfl⟩
 have br7 : r7 < Ed.P := (by rw [hr7]; exact Nat.mod_lt _ P_pos)
 obtain ⟨r8, hr8⟩ : ∃ r : Nat, r = (r7 + 1) % Ed.P := ⟨_, rfl⟩
 have br8 : r8 < Ed.P := (by rw [hr8]; exact Nat.mod_lt _ P_pos)
 obtain ⟨w9, hw9⟩ : ∃ w : Nat, w = r6 * (r8 ^ (Ed.P - 2) % Ed.P) % Ed.P := ⟨_, rfl⟩
 obtain ⟨r10, hr10⟩ : ∃ r : Nat, r = rtN w9 := ⟨_, rfl⟩
 obtain ⟨r11, hr11⟩ : ∃ r : Bool, r = decide (r10 * r10 % Ed.P = w9) := ⟨_, rfl⟩
 have br10 : r10 < Ed.P := (by rw [hr10]; exact rtN_lt _)
 obtain ⟨r12, hr12⟩ : ∃ r : Nat, r = sb Ed.P 0 r10 := ⟨_, rfl⟩
 have br12 : r12 < Ed.P := (by rw [hr12]; exact sb_P _ _)
 have el : r1.length = 32 := by rw [hr1]; exact h
 have lo := low_and (l := r1) el (by rw [hr1]; exact hb)
 have lo1 := lo.2.1
 have ey : r2 = y := by rw [hr2, if_pos lo.2.2, lo.1, hr1, hy]
 have hyN : r2 < N := by rw [hr2]; split; exact leN32_lt lo.2.2 lo.2.1; decide
 have bdd : dd < N := by rw [hdd]; decide +kernel
 have ew : w9 = wN y := by rw [hw9, hr8, hr7, hr6, hr5, ey, hdd]; rfl
 have eX : r10 = rtN (wN y) := by rw [hr10, ew]
 have hi := high_31 h hb
 have e12 : r12 = sb Ed.P 0 (rtN (wN y)) := by rw [hr12, eX]
 have hrun := calls_of_runS (P := Tryd.prog) (v := ⟨envI [0, 0, (lm r2 0 : Int), (lm r2 1 : Int), (lm r2 2 : Int), (lm r2 3 : Int), 0, 0, (lm r5 0 : Int), (lm r5 1 : Int), (lm r5 2 : Int), (lm r5 3 : Int), (lm r6 0 : Int), (lm r6 1 : Int), (lm r6 2 : Int), (lm r6 3 : Int), (lm r7 0 : Int), (lm r7 1 : Int), (lm r7 2 : Int), (lm r7 3 : Int), (lm r8 0 : Int), (lm r8 1 : Int), (lm r8 2 : Int), (lm r8 3 : Int), (lm r10 0 : Int), (lm r10 1 : Int), (lm r10 2 : Int), (lm r10 3 : Int), 0, (lm r12 0 : Int), (lm r12 1 : Int), (lm r12 2 : Int), (lm r12 3 : Int)], envB [false, false, false, false, false, false, r3, r4, false, false, false, false, false, false, false, false, false, false, false, false, false, false, false, false, false, false, false, false, r11], envL [l, r1], envP [], LE Ts, w⟩) (gs := (edGs Ts [v_one, v_d])) (fuel := 3000) (nv := 1) (args := [(.imm (.lvar 0) none)]) (ora := [some false, none, some true, some true, some true, some false]) (sums := []) (r := ⟨[(.val (.agg [.v 29, .v 30, .v 31, .v 32, .v 2, .v 3, .v 4, .v 5, .bool (.lit false)])), (.val JD48)], [.dec JD12 false, .callS 62 [(.bytes (.lvar 0))] [(.fresh 5 (.lvar 1) (.lit 0) (.len (.lvar 1)) true)], .dec JD3 true, .dec JD3 true, .dec JD3 true, .dec JD3 true, .callS 32 [(.bytes JD32)] [(.val JD9), (.val JD59)], .call 33 [JD6, JD9] (.one JD58), .dec (.var 7) true, .call 63 [JD9, JD9] (.one JD7), .call 65 [JD7, JD36] (.one JD27), .call 63 JD30 (.one JD26), .call 66 [JD26, JD36] (.one JD24), .call 64 [JD27, JD24] (.tup JD38), .dec (.var 28) true, .dec JD0 true, .dec JD31 true, .call 65 [JD16, (.agg [.v 24, .v 25, .v 26, .v 27])] (.one JD41), .dec JD0 true, .dec JD49 false], []⟩) Tryd.func31 (by kernel_rfl)
  (evs_of ⟨?_, ?_, ?_, ?_, ?_, ?_, ?_, ?_, ?_, ?_, ?_, ?_, ?_, ?_, ?_, ?_, ?_, ?_, ?_, ?_, trivial⟩) (by simp) (varsOk Ts _ (List.forall_mem_cons.2 ⟨Ts.one, (List.forall_mem_cons.2 ⟨Ts.d, (List.forall_mem_nil _)⟩)⟩) (by decide)) hK hG _ (⟨u0, _, rfl, ⟨hu0, fun b hb => by cases hb⟩, rfl⟩)
 ·exact runS_eq hrun (by (rw [hX, ← e12, ← ey]; rfl))
 ·exact dec_ne_f (a := l.length) (b := 32) rfl rfl (by omega)
 ·exact CallS.g (clone_s l (by first | assumption | omega | (simp; omega) | (simp [*, putN_length]; done)) hr1)
 iterate 4 (exact dec_ixEdK (l := r1) rfl (by omega))
 ·exact CallS.g (little_s (r1.set ((31 : Int)).toNat (Go.bits .and .u8 (r1.getD ((31 : Int)).toNat 0) (127 : Int))) (by first | assumption | (simp only [*]; first | exact putN_bytes _ _ | exact (putN_bytes _ _).reverse | (apply IsBytes.reverse; assumption))) hr2 hr3)
 ·exact ebelow_g Ts r2 (by first | assumption | exact ltP ‹_› | decide +kernel) hr4
 ·(show r4 = true; rw [hr4, ey]; exact decide_eq_true hP)
 ·exact emul_g Ts r2 r2 (by first | assumption | exact ltP ‹_› | decide +kernel) (by first | assumption | exact ltP ‹_› | decide +kernel) hr5
 ·exact esub_g Ts r5 1 (by first | assumption | exact ltP ‹_› | decide +kernel) (by first | assumption | exact ltP ‹_› | decide +kernel) hr6
 ·(have hX := show CallG Tryd.prog (LE Ts) 63 #[vN dd, vN r5] (vN r7) from emul_g Ts dd r5 (by rw [hdd]; decide +kernel) (by first | assumption | exact ltP ‹_› | decide +kernel) hr7; rw [hdd] at hX; exact hX)
 ·exact eadd_g Ts r7 1 (by first | assumption | exact ltP ‹_› | decide +kernel) (by first | assumption | exact ltP ‹_› | decide +kernel) hr8
 ·exact ratio_g Ts r6 r8 (by first | assumption | exact ltP ‹_› | decide +kernel) (by first | assumption | exact ltP ‹_› | decide +kernel) hw9 hr10 hr11
 ·(show r11 = true; rw [hr11, ew, eX]; exact decide_eq_true hok)
 ·exact dec_lt_t (a := 31) (b := l.length) rfl rfl (by omega)
 ·exact dec_ne_t (a := (IntKind.u8.wrap (Go.bits .and .u64 (lm r10 0 : Int) (1 : Int)))) (b := (Int.fdiv (l.getD ((31 : Int)).toNat 0) (2 ^ (min ((7 : Int)).toNat IntKind.u8.bits)))) rfl rfl (by rw [par_and, show ((31 : Int)).toNat = 31 from rfl, hi, ← hs]; rw [eX]; omega)
 ·exact esub_g Ts 0 r10 (by first | assumption | exact ltP ‹_› | decide +kernel) (by first | assumption | exact ltP ‹_› | decide +kernel) hr12
 ·exact dec_lt_t (a := 31) (b := l.length) rfl rfl (by omega)
 ·exact dec_ne_f (a := (IntKind.u8.wrap (Go.bits .and .u64 (lm r12 0 : Int) (1 : Int)))) (b := (Int.fdiv (l.getD ((31 : Int)).toNat 0) (2 ^ (min ((7 : Int)).toNat IntKind.u8.bits)))) rfl rfl (by rw [par_and, show ((31 : Int)).toNat = 31 from rfl, hi, ← hs]; rw [e12, hq])
theorem edec_none (l : List Int) (Ts : TR) (h : l.length = 32) (hb : IsBytes l) (y s : Nat) (hy : y = leN l % 57896044618658097711785492504343953926634992332820282019728792003956564819968) (hs : s = leN l / 57896044618658097711785492504343953926634992332820282019728792003956564819968) (dd : Nat) (hdd : dd = Ed.dN) (hP : y < Ed.P) (hok : rtN (wN y) * rtN (wN y) % Ed.P = wN y) (hp : ¬ rtN (wN y) % 2 = s) (hq : ¬ sb Ed.P 0 (rtN (wN y)) % 2 = s) : CallS Tryd.prog (LE Ts) 31 [.bytes l] [.val (.agg #[.int .u64 (lm 0 0), .int .u64 (lm 0 1), .int .u64 (lm 0 2), .int .u64 (lm 0 3), .int .u64 (lm 1 0), .int .u64 (lm 1 1), .int .u64 (lm 1 2), .int .u64 (lm 1 3), .bool false]), .val (.bool false)] := by
 refine callS_of Tryd.func31 (by kernel_rfl) (by kernel_rfl) (fun w us hK hG ha => ?_)
 obtain ⟨u0, _, rfl, hu0, rfl⟩ := ha
 obtain ⟨r1, hr1⟩ : ∃ r : List Int, r = l := ⟨_, rfl⟩
 obtain ⟨r2, hr2⟩ : ∃ r : Nat, r = if (r1.set ((31 : Int)).toNat (Go.bits .and .u8 (r1.getD ((31 : Int)).toNat 0) (127 : Int))).length = 32 then leN (r1.set ((31 : Int)).toNat (Go.bits .and .u8 (r1.getD ((31 : Int)).toNat 0) (127 : Int))) else 0 := ⟨_, rfl⟩
 obtain ⟨r3, hr3⟩ : ∃ r : Bool, r = decide ((r1.set ((31 : Int)).toNat (Go.bits .and .u8 (r1.getD ((31 : Int)).toNat 0) (127 : Int))).length = 32) := ⟨_, rfl⟩
 obtain ⟨r4, hr4⟩ : ∃ r : Bool, r = decide (r2 < Ed.P) := ⟨_, rfl⟩
 obtain ⟨r5, hr5⟩ : ∃ r : Nat, r = r2 * r2 % Ed.P := ⟨_, rfl⟩
 have br5 : r5 < Ed.P := (by rw [hr5]; exact Nat.mod_lt _ P_pos)
 obtain ⟨r6, hr6⟩ : ∃ r : Nat, r = sb Ed.P r5 1 := ⟨_, rfl⟩
 have br6 : r6 < Ed.P := (by rw [hr6]; exact sb_P _ _)
 obtain ⟨r7, hr7⟩ : ∃ r : Nat, r = dd * r5 % Ed.P := ⟨_, rfl⟩
 have br7 : r7 < Ed.P := (by rw [hr7]; exact Nat.mod_lt _ P_pos)
 obtain ⟨r8, hr8⟩ : ∃ r : Nat, r = (r7 + 1) % Ed.P := ⟨_, rfl⟩
 have br8 : r8 < Ed.P := (by rw [hr8]; exact Nat.mod_lt _ P_pos)
 obtain ⟨w9, hw9⟩ : ∃ w : Nat, w = r6 * (r8 ^ (Ed.P - 2) % Ed.P) % Ed.P := ⟨_, rfl⟩
 obtain ⟨r10, hr10⟩ : ∃ r : Nat, r = rtN w9 := ⟨_, rfl⟩
 obtain ⟨r11, hr11⟩ : ∃ r : Bool, r = decide (r10 * r10 % Ed.P = w9) := ⟨_, rfl⟩
 have br10 : r10 < Ed.P := (by rw [hr10]; exact rtN_lt _)
 obtain ⟨r12, hr12⟩ : ∃ r : Nat, r = sb Ed.P 0 r10 := ⟨_, rfl⟩
 have br12 : r12 < Ed.P := (by rw [hr12]; exact sb_P _ _)
 have el : r1.length = 32 := by rw [hr1]; exact h
 have lo := low_and (l := r1) el (by rw [hr1]; exact hb)
 have lo1 := lo.2.1
 have ey : r2 = y := by rw [hr2, if_pos lo.2.2, lo.1, hr1, hy]
 have hyN : r2 < N := by rw [hr2]; split; exact leN32_lt lo.2.2 lo.2.1; decide
 have bdd : dd < N := by rw [hdd]; decide +kernel
 have ew : w9 = wN y := by rw [hw9, hr8, hr7, hr6, hr5, ey, hdd]; rfl
 have eX : r10 = rtN (wN y) := by rw [hr10, ew]
 have hi := high_31 h hb
 have e12 : r12 = sb Ed.P 0 (rtN (wN y)) := by rw [hr12, eX]
 have hrun := calls_of_runS (P := Tryd.prog) (v := ⟨envI [0, 0, (lm r2 0 : Int), (lm r2 1 : Int), (lm r2 2 : Int), (lm r2 3 : Int), 0, 0, (lm r5 0 : Int), (lm r5 1 : Int), (lm r5 2 : Int), (lm r5 3 : Int), (lm r6 0 : Int), (lm r6 1 : Int), (lm r6 2 : Int), (lm r6 3 : Int), (lm r7 0 : Int), (lm r7 1 : Int), (lm r7 2 : Int), (lm r7 3 : Int), (lm r8 0 : Int), (lm r8 1 : Int), (lm r8 2 : Int), (lm r8 3 : Int), (lm r10 0 : Int), (lm r10 1 : Int), (lm r10 2 : Int), (lm r10 3 : Int), 0, (lm r12 0 : Int), (lm r12 1 : Int), (lm r12 2 : Int), (lm r12 3 : Int)], envB [false, false, false, false, false, false, r3, r4, false, false, false, false, false, false, false, false, false, false, false, false, false, false, false, false, false, false, false, false, r11], envL [l, r1], envP [], LE Ts, w⟩) (gs := (edGs Ts [v_one, v_d])) (fuel := 3000) (nv := 1) (args := [(.imm (.lvar 0) none)]) (ora := [some false, none, some true, some true, some true, some true]) (sums := []) (r := ⟨[(.val JD37), (.val JD46)], [.dec JD12 false, .callS 62 [(.bytes (.lvar 0))] [(.fresh 5 (.lvar 1) (.lit 0) (.len (.lvar 1)) true)], .dec JD3 true, .dec JD3 true, .dec JD3 true, .dec JD3 true, .callS 32 [(.bytes JD32)] [(.val JD9), (.val JD59)], .call 33 [JD6, JD9] (.one JD58), .dec (.var 7) true, .call 63 [JD9, JD9] (.one JD7), .call 65 [JD7, JD36] (.one JD27), .call 63 JD30 (.one JD26), .call 66 [JD26, JD36] (.one JD24), .call 64 [JD27, JD24] (.tup JD38), .dec (.var 28) true, .dec JD0 true, .dec JD31 true, .call 65 [JD16, (.agg [.v 24, .v 25, .v 26, .v 27])] (.one JD41), .dec JD0 true, .dec JD49 true], []⟩) Tryd.func31 (by kernel_rfl)
  (evs_of ⟨?_, ?_, ?_, ?_, ?_, ?_, ?_, ?_, ?_, ?_, ?_, ?_, ?_, ?_, ?_, ?_, ?_, ?_, ?_, ?_, trivial⟩) (by simp) (varsOk Ts _ (List.forall_mem_cons.2 ⟨Ts.one, (List.forall_mem_cons.2 ⟨Ts.d, (List.forall_mem_nil _)⟩)⟩) (by decide)) hK hG _ (⟨u0, _, rfl, ⟨hu0, fun b hb => by cases hb⟩, rfl⟩)
 ·exact runS_eq hrun (by kernel_rfl)
 ·exact dec_ne_f (a := l.length) (b := 32) rfl rfl (by omega)
 ·exact CallS.g (clone_s l (by first | assumption | omega | (simp; omega) | (simp [*, putN_length]; done)) hr1)
 iterate 4 (exact dec_ixEdK (l := r1) rfl (by omega))
 ·exact CallS.g (little_s (r1.set ((31 : Int)).toNat (Go.bits .and .u8 (r1.getD ((31 : Int)).toNat 0) (127 : Int))) (by first | assumption | (simp only [*]; first | exact putN_bytes _ _ | exact (putN_bytes _ _).reverse | (apply IsBytes.reverse; assumption))) hr2 hr3)
 ·exact ebelow_g Ts r2 (by first | assumption | exact ltP ‹_› | decide +kernel) hr4
 ·(show r4 = true; rw [hr4, ey]; exact decide_eq_true hP)
 ·exact emul_g Ts r2 r2 (by first | assumption | exact ltP ‹_› | decide +kernel) (by first | assumption | exact ltP ‹_› | decide +kernel) hr5
 ·exact esub_g Ts r5 1 (by first | assumption | exact ltP ‹_› | decide +kernel) (by first | assumption | exact ltP ‹_› | decide +kernel) hr6
 ·(have hX := show CallG Tryd.prog (LE Ts) 63 #[vN dd, vN r5] (vN r7) from emul_g Ts dd r5 (by rw [hdd]; decide +kernel) (by first | assumption | exact ltP ‹_› | decide +kernel) hr7; rw [hdd] at hX; exact hX)
 ·exact eadd_g Ts r7 1 (by first | assumption | exact ltP ‹_› | decide +kernel) (by first | assumption | exact ltP ‹_› | decide +kernel) hr8
 ·exact ratio_g Ts r6 r8 (by first | assumption | exact ltP ‹_› | decide +kernel) (by first | assumption | exact ltP ‹_› | decide +kernel) hw9 hr10 hr11
 ·(show r11 = true; rw [hr11, ew, eX]; exact decide_eq_true hok)
 ·exact dec_lt_t (a := 31) (b := l.length) rfl rfl (by omega)
 ·exact dec_ne_t (a := (IntKind.u8.wrap (Go.bits .and .u64 (lm r10 0 : Int) (1 : Int)))) (b := (Int.fdiv (l.getD ((31 : Int)).toNat 0) (2 ^ (min ((7 : Int)).toNat IntKind.u8.bits)))) rfl rfl (by rw [par_and, show ((31 : Int)).toNat = 31 from rfl, hi, ← hs]; rw [eX]; omega)
 ·exact esub_g Ts 0 r10 (by first | assumption | exact ltP ‹_› | decide +kernel) (by first | assumption | exact ltP ‹_› | decide +kernel) hr12
 ·exact dec_lt_t (a := 31) (b := l.length) rfl rfl (by omega)
 ·exact dec_ne_t (a := (IntKind.u8.wrap (Go.bits .and .u64 (lm r12 0 : Int) (1 : Int)))) (b := (Int.fdiv (l.getD ((31 : Int)).toNat 0) (2 ^ (min ((7 : Int)).toNat IntKind.u8.bits)))) rfl rfl (by rw [par_and, show ((31 : Int)).toNat = 31 from rfl, hi, ← hs]; rw [e12]; omega)
theorem edecode_g (Ts : TR) (l : List Int) (hb : IsBytes l) {X Y : Nat} {k : Bool} (hd : decL l = (X, Y, k)) : CallS Tryd.prog (LE Ts) 31 [.bytes l] [.val (vP X Y false), .val (.bool k)] := by
 by_cases h : l.length = 32
 ·obtain ⟨y, hy⟩ : ∃ y, y = leN l % 57896044618658097711785492504343953926634992332820282019728792003956564819968 := ⟨_, rfl⟩
  obtain ⟨s, hs⟩ : ∃ s, s = leN l / 57896044618658097711785492504343953926634992332820282019728792003956564819968 := ⟨_, rfl⟩
  by_cases hP : y < Ed.P
  ·by_cases hok : rtN (wN y) * rtN (wN y) % Ed.P = wN y
   ·have f1 : formedB (rtN (wN y)) y false = true := (formed_sq (rtN_lt _) hP).2 hok
    by_cases hp : rtN (wN y) % 2 = s
    ·rw [decL_some h hy hs f1 hp] at hd
     simp only [Prod.mk.injEq] at hd
     obtain ⟨rfl, rfl, rfl⟩ := hd
     exact edec_same l Ts h hb _ s hy hs _ rfl hP hok hp _ rfl
    ·have f2 : formedB (sb Ed.P 0 (rtN (wN y))) y false = true := by rw [neg_formed (rtN_lt _) hP]; exact f1
     by_cases hq : sb Ed.P 0 (rtN (wN y)) % 2 = s
     ·rw [decL_some h hy hs f2 hq] at hd
      simp only [Prod.mk.injEq] at hd
      obtain ⟨rfl, rfl, rfl⟩ := hd
      exact edec_flip l Ts h hb _ s hy hs _ rfl hP hok hp hq _ rfl
     ·have hn : ∀ x, formedB x y false = true → x % 2 ≠ s := by
       intro x hx hxs
       obtain e | e : x % 2 = rtN (wN y) % 2 ∨ x % 2 = sb Ed.P 0 (rtN (wN y)) % 2 := by
        by_cases h0 : rtN (wN y) = 0
        ·rw [h0, neg_zero] at hq
         rw [h0] at hp
         have hx0 : x * x % Ed.P = 0 := by rw [(formed_sq (x_lt hx) hP).1 hx, ← hok, h0]; decide +kernel
         rcases sq_zero hx0 with e | e
         ·rw [e, h0]; exact .inl rfl
         ·exact absurd (x_lt hx) (by omega)
        ·have := neg_par (rtN_lt (wN y)) h0
         omega
       ·exact hp (e ▸ hxs)
       ·exact hq (e ▸ hxs)
      rw [decL_none h hy hs hn] at hd
      simp only [Prod.mk.injEq] at hd
      obtain ⟨rfl, rfl, rfl⟩ := hd
      exact edec_none l Ts h hb _ s hy hs _ rfl hP hok hp hq
   ·rw [decL_none h hy hs (fun x hx _ => hok (formed_root hx))] at hd
    simp only [Prod.mk.injEq] at hd
    obtain ⟨rfl, rfl, rfl⟩ := hd
    exact edec_no l Ts h hb _ s hy hs _ rfl hP hok
  ·rw [decL_none h hy hs (fun x hx _ => hP (y_lt hx))] at hd
   simp only [Prod.mk.injEq] at hd
   obtain ⟨rfl, rfl, rfl⟩ := hd
   exact edec_big l Ts h hb _ s hy hs _ rfl hP
 ·rw [decL_len h] at hd
  simp only [Prod.mk.injEq] at hd
  obtain ⟨rfl, rfl, rfl⟩ := hd
  exact edec_len l Ts h
theorem reighth_run  (Ts : TV) (mm t3 : Nat) (hmm : mm = Ed.P) (ht3 : t3 = 3) (hs3 : CallP Tryd.prog 79 #[.int .u64 (3 : Int)] (vN t3)) (ee : Nat) (hee : ee = Ed.E8) (w : World) (hK : (LE Ts).K ≤ w.heap.size) (hG : (LE Ts).G w) : Calls Tryd.prog 50 #[] w fun e w' => e = .returned (vN ee) ∧ Below w.heap.size w w' := by
 have bmm : mm < N := by rw [hmm]; exact PN
 have bt3 : t3 < N := by rw [ht3]; decide
 obtain ⟨r1, hr1⟩ : ∃ r : Nat, r = (mm + t3) % N := ⟨_, rfl⟩
 have br1 : r1 < N := (by rw [hr1]; exact Nat.mod_lt _ N_pos)
 obtain ⟨r2, hr2⟩ : ∃ r : Bool, r = decide (N ≤ mm + t3) := ⟨_, rfl⟩
 obtain ⟨r3, hr3⟩ : ∃ r : Nat, r = r1 / 2 := ⟨_, rfl⟩
 have br3 : r3 < N := (by rw [hr3]; omega)
 obtain ⟨r4, hr4⟩ : ∃ r : Nat, r = r3 / 2 := ⟨_, rfl⟩
 have br4 : r4 < N := (by rw [hr4]; omega)
 obtain ⟨r5, hr5⟩ : ∃ r : Nat, r = r4 / 2 := ⟨_, rfl⟩
 have br5 : r5 < N := (by rw [hr5]; omega)
 have e5 : r5 = ee := by rw [hee]; exact add3_E8 hmm (by rw [hr1, ht3]) hr3 hr4 hr5
 have hrun := calls_of_runG (P := Tryd.prog) (v := ⟨envI [lm mm 0, lm mm 1, lm mm 2, lm mm 3, lm t3 0, lm t3 1, lm t3 2, lm t3 3, lm r1 0, lm r1 1, lm r1 2, lm r1 3, 0, lm r3 0, lm r3 1, lm r3 2, lm r3 3, lm r4 0, lm r4 1, lm r4 2, lm r4 3, lm r5 0, lm r5 1, lm r5 2, lm r5 3], envB [false, false, false, false, false, false, false, false, false, false, false, false, r2], envL [], envP [], LE Ts, w⟩) (gs := []) (fuel := 3000) (nv := 0) (args := []) (ora := [none]) (sums := []) (res := [(.agg [.v 21, .v 22, .v 23, .v 24])]) (ev := [.call 68 [JD6] (.one JD45), .call 79 [(.sc (.n 3))] (.one JD35), .call 82 [JD45, JD35] (.tup [JD7, (.sc (.bool (.var 12)))]), .call 83 [JD7] (.one (.agg [.v 13, .v 14, .v 15, .v 16])), .call 83 [(.agg [.v 13, .v 14, .v 15, .v 16])] (.one (.agg [.v 17, .v 18, .v 19, .v 20])), .call 83 [(.agg [.v 17, .v 18, .v 19, .v 20])] (.one (.agg [.v 21, .v 22, .v 23, .v 24]))]) (lev := []) Tryd.func50 (by kernel_rfl) (by kernel_rfl)
  (evs_of ⟨?_, ?_, ?_, ?_, ?_, ?_, trivial⟩) (by simp) (GsOk.nil _) hK hG
 ·(subst e5; exact hrun)
 ·exact fmod_g Ts hmm
 ·exact CallP.g ((hs3))
 ·exact CallP.g (ref_add_l mm t3 (by first | assumption | exact Nat.mod_lt _ (by decide) | (show _ < _; decide) | omega) (by first | assumption | exact Nat.mod_lt _ (by decide) | (show _ < _; decide) | omega) hr1 hr2)
 ·exact CallP.g (ref_half_l r1 br1 hr3)
 ·exact CallP.g (ref_half_l r3 br3 hr4)
 ·exact CallP.g (ref_half_l r4 br4 hr5)
theorem rsmall3   (w : World) : Calls Tryd.prog 79 #[.int .u64 (3 : Int)] w fun e w' => e = .returned (.agg #[.int .u64 (lm 3 0), .int .u64 (lm 3 1), .int .u64 (lm 3 2), .int .u64 (lm 3 3)]) ∧ Below w.heap.size w w' := by
 have hrun := calls_of_runG (P := Tryd.prog) (v := ⟨envI [], envB [], envL [], envP [], L0, w⟩) (gs := []) (fuel := 3000) (nv := 0) (args := [(.sc (.n 3))]) (ora := []) (sums := []) (res := [JD62]) (ev := []) (lev := []) Tryd.func79 (by kernel_rfl) (by kernel_rfl)
  (by simp) (by simp) (GsOk.nil _) (Nat.zero_le _) trivial
 ·(exact calls_eq hrun (by kernel_rfl))
theorem small3 : CallP Tryd.prog 79 #[.int .u64 (3 : Int)] (.agg #[.int .u64 (lm 3 0), .int .u64 (lm 3 1), .int .u64 (lm 3 2), .int .u64 (lm 3 3)]) :=
 callP_of Tryd.func79 (by kernel_rfl) (by kernel_rfl) (fun w => rsmall3 w)
theorem reighth_g (Ts : TV) {ee : Nat} (hee : ee = Ed.E8) : CallG Tryd.prog (LE Ts) 50 #[] (vN ee) :=
 callG_of Tryd.func50 (by kernel_rfl) (by kernel_rfl) (fun w hK hG => reighth_run Ts _ 3 rfl rfl small3 ee hee w hK hG)
theorem enc_same {l : List Int} {x y s : Nat} (h : l.length = 32) (hb : IsBytes l) (hy : y = leN l % 57896044618658097711785492504343953926634992332820282019728792003956564819968) (hs : s = leN l / 57896044618658097711785492504343953926634992332820282019728792003956564819968) (hf : formedB x y false = true) : decide (putN 32 (encN x y false) = l) = decide (x % 2 = s) := by
 have e : encN x y false = y + 57896044618658097711785492504343953926634992332820282019728792003956564819968 * (x % 2) := by unfold encN; rw [if_pos hf]
 by_cases hp : x % 2 = s
 ·rw [decide_eq_true hp, decide_eq_true_eq, e, hp, hy, hs, Nat.mod_add_div, ← h]
  exact putN_leN hb
 ·rw [decide_eq_false hp, decide_eq_false_iff_not]
  intro hl
  apply hp
  have := congrArg leN hl
  rw [putN32 (encN_lt _ _ _), e] at this
  rw [hs, ← this, Nat.add_mul_div_left _ _ (by decide), Nat.div_eq_of_lt (Nat.lt_trans (y_lt hf) P_255), Nat.zero_add]
theorem rdec_len (l : List Int) (Ts : TV) (h : ¬ l.length = 32) (X0 Y0 : Nat) (hX0 : X0 = 0) (hY0 : Y0 = 1) : CallS Tryd.prog (LE Ts) 18 [.bytes l] [.val (vP X0 Y0 false), .val (.bool false)] := by
 refine callS_of Tryd.func18 (by kernel_rfl) (by kernel_rfl) (fun w us hK hG ha => ?_)
 obtain ⟨u0, _, rfl, hu0, rfl⟩ := ha
 have hrun := calls_of_runS (P := Tryd.prog) (v := ⟨envI [0, lm X0 0, lm X0 1, lm X0 2, lm X0 3, lm Y0 0, lm Y0 1, lm Y0 2, lm Y0 3], envB [false, false, false, false, false, false, false, false, false, false], envL [l], envP [], LE Ts, w⟩) (gs := []) (fuel := 3000) (nv := 1) (args := [(.imm (.lvar 0) none)]) (ora := [some true]) (sums := []) (r := ⟨[(.val JD60), (.val JD46)], [.dec JD12 true, .call 42 [] (.one JD60)], []⟩) Tryd.func18 (by kernel_rfl)
  (evs_of ⟨?_, ?_, trivial⟩) (by simp) (GsOk.nil _) hK hG _ (⟨u0, _, rfl, ⟨hu0, fun b hb => by cases hb⟩, rfl⟩)
 ·exact runS_eq hrun (by rfl)
 ·exact dec_ne_t (a := l.length) (b := 32) rfl rfl (by omega)
 ·exact CallP.g (rnone_c hX0 hY0)
theorem rdec_1 (l : List Int) (Ts : TV) (h : l.length = 32) (hb : IsBytes l) (y s : Nat) (hy : y = leN l % 57896044618658097711785492504343953926634992332820282019728792003956564819968) (hs : s = leN l / 57896044618658097711785492504343953926634992332820282019728792003956564819968) (dd ee ii one1 X0 Y0 : Nat) (hdd : dd = Ed.dN) (hee : ee = Ed.E8) (hii : ii = iN) (hone1 : one1 = 1) (hX0 : X0 = 0) (hY0 : Y0 = 1) (A0 A1 : Nat) (hA0 : A0 = rtX (wN y)) (hA1 : A1 = rtX (wN y) * iN % Ed.P) (f0 : formedB A0 y false = true) (p0 : A0 % 2 = s) (X : Nat) (hX : X = A0) : CallS Tryd.prog (LE Ts) 18 [.bytes l] [.val (vP X y false), .val (.bool true)] := by
 refine callS_of Tryd.func18 (by kernel_rfl) (by kernel_rfl) (fun w us hK hG ha => ?_)
 obtain ⟨u0, _, rfl, hu0, rfl⟩ := ha
 obtain ⟨r1, hr1⟩ : ∃ r : Nat, r = if (l.set ((31 : Int)).toNat (Int.tmod (l.getD ((31 : Int)).toNat 0) (128 : Int))).length = 32 then leN (l.set ((31 : Int)).toNat (Int.tmod (l.getD ((31 : Int)).toNat 0) (128 : Int))) else 0 := ⟨_, rfl⟩
 obtain ⟨r2, hr2⟩ : ∃ r : Bool, r = decide ((l.set ((31 : Int)).toNat (Int.tmod (l.getD ((31 : Int)).toNat 0) (128 : Int))).length = 32) := ⟨_, rfl⟩
 obtain ⟨r3, hr3⟩ : ∃ r : Nat, r = r1 * r1 % Ed.P := ⟨_, rfl⟩
 have br3 : r3 < Ed.P := (by rw [hr3]; exact Nat.mod_lt _ P_pos)
 obtain ⟨r4, hr4⟩ : ∃ r : Nat, r = sb Ed.P r3 one1 := ⟨_, rfl⟩
 have br4 : r4 < Ed.P := (by rw [hr4]; exact sb_P _ _)
 obtain ⟨r5, hr5⟩ : ∃ r : Nat, r = dd * r3 % Ed.P := ⟨_, rfl⟩
 have br5 : r5 < Ed.P := (by rw [hr5]; exact Nat.mod_lt _ P_pos)
 obtain ⟨r6, hr6⟩ : ∃ r : Nat, r = (r5 + one1) % Ed.P := ⟨_, rfl⟩
 have br6 : r6 < Ed.P := (by rw [hr6]; exact Nat.mod_lt _ P_pos)
 obtain ⟨r7, hr7⟩ : ∃ r : Nat, r = r6 ^ (Ed.P - 2) % Ed.P := ⟨_, rfl⟩
 have br7 : r7 < Ed.P := (by rw [hr7]; exact Nat.mod_lt _ P_pos)
 obtain ⟨r8, hr8⟩ : ∃ r : Nat, r = r4 * r7 % Ed.P := ⟨_, rfl⟩
 have br8 : r8 < Ed.P := (by rw [hr8]; exact Nat.mod_lt _ P_pos)
 obtain ⟨r9, hr9⟩ : ∃ r : Nat, r = r8 ^ ee % Ed.P := ⟨_, rfl⟩
 have br9 : r9 < Ed.P := (by rw [hr9]; exact Nat.mod_lt _ P_pos)
 obtain ⟨r10, hr10⟩ : ∃ r : Nat, r = r9 * ii % Ed.P := ⟨_, rfl⟩
 have br10 : r10 < Ed.P := (by rw [hr10]; exact Nat.mod_lt _ P_pos)
 obtain ⟨r11, hr11⟩ : ∃ r : Nat, r = sb Ed.P 0 r9 := ⟨_, rfl⟩
 have br11 : r11 < Ed.P := (by rw [hr11]; exact sb_P _ _)
 obtain ⟨r12, hr12⟩ : ∃ r : Nat, r = sb Ed.P 0 r10 := ⟨_, rfl⟩
 have br12 : r12 < Ed.P := (by rw [hr12]; exact sb_P _ _)
 obtain ⟨r13, hr13⟩ : ∃ r : Bool, r = formedB r9 r1 false := ⟨_, rfl⟩
 obtain ⟨r14, hr14⟩ : ∃ r : List Int, r = putN 32 (encN r9 r1 false) := ⟨_, rfl⟩
 obtain ⟨r15, hr15⟩ : ∃ r : Bool, r = decide (r14 = l) := ⟨_, rfl⟩
 have lo := low_mod (l := l) h hb
 have lo1 := lo.2.1
 have ey : r1 = y := by rw [hr1, if_pos lo.2.2, lo.1, hy]
 have hyN : r1 < N := by rw [hr1]; split; exact leN32_lt lo.2.2 lo.2.1; decide
 have bdd : dd < N := by rw [hdd]; decide +kernel
 have bee : ee < N := by rw [hee]; decide +kernel
 have bone : one1 < N := by rw [hone1]; decide
 have ew : r8 = wN y := by rw [hr8, hr7, hr6, hr5, hr4, hr3, ey, hdd, hone1]; rfl
 have e9 : r9 = A0 := by rw [hr9, ew, hee, hA0]; rfl
 have e10 : r10 = A1 := by rw [hr10, e9, hA0, hii, hA1]
 have e11 : r11 = sb Ed.P 0 A0 := by rw [hr11, e9]
 have e12 : r12 = sb Ed.P 0 A1 := by rw [hr12, e10]
 have hrun := calls_of_runS (P := Tryd.prog) (v := ⟨envI [0, (lm r1 0 : Int), (lm r1 1 : Int), (lm r1 2 : Int), (lm r1 3 : Int), 0, (lm r3 0 : Int), (lm r3 1 : Int), (lm r3 2 : Int), (lm r3 3 : Int), (lm one1 0 : Int), (lm one1 1 : Int), (lm one1 2 : Int), (lm one1 3 : Int), (lm r4 0 : Int), (lm r4 1 : Int), (lm r4 2 : Int), (lm r4 3 : Int), (lm dd 0 : Int), (lm dd 1 : Int), (lm dd 2 : Int), (lm dd 3 : Int), (lm r5 0 : Int), (lm r5 1 : Int), (lm r5 2 : Int), (lm r5 3 : Int), (lm one1 0 : Int), (lm one1 1 : Int), (lm one1 2 : Int), (lm one1 3 : Int), (lm r6 0 : Int), (lm r6 1 : Int), (lm r6 2 : Int), (lm r6 3 : Int), (lm r7 0 : Int), (lm r7 1 : Int), (lm r7 2 : Int), (lm r7 3 : Int), (lm r8 0 : Int), (lm r8 1 : Int), (lm r8 2 : Int), (lm r8 3 : Int), (lm ee 0 : Int), (lm ee 1 : Int), (lm ee 2 : Int), (lm ee 3 : Int), (lm r9 0 : Int), (lm r9 1 : Int), (lm r9 2 : Int), (lm r9 3 : Int), (lm r10 0 : Int), (lm r10 1 : Int), (lm r10 2 : Int), (lm r10 3 : Int), (lm r11 0 : Int), (lm r11 1 : Int), (lm r11 2 : Int), (lm r11 3 : Int), (lm r12 0 : Int), (lm r12 1 : Int), (lm r12 2 : Int), (lm r12 3 : Int)], envB [false, false, false, false, false, r2, false, false, false, false, false, false, false, false, false, false, false, false, false, false, false, false, false, false, false, false, false, false, false, false, false, false, false, false, false, false, false, false, false, false, false, false, false, false, false, false, false, false, false, false, false, false, false, false, false, false, false, false, false, false, false, false, r13, false, r15], envL [l, [], [], [], [], [], [], [], [], [], [], [], [], [], [], [], [], [], [], [], [], [], [], [], [], [], [], [], [], [], [], [], [], [], [], [], [], [], [], [], [], [], [], [], [], [], [], [], [], [], [], [], [], [], [], [], [], [], [], [], [], [], [], r14], envP [], LE Ts, w⟩) (gs := []) (fuel := 3000) (nv := 1) (args := [(.imm (.lvar 0) none)]) (ora := [some false, none, some true, some true]) (sums := []) (r := ⟨[(.val JD2), (.val JD48)], [.dec JD12 false, .dec JD34 true, .dec JD0 true, .dec JD0 true, .dec JD0 true, .dec JD0 true, .callS 13 [(.bytes JD29)] [(.val JD10), (.val JD53)], .call 43 [JD10, JD10] (.one JD8), .call 45 [] (.one JD28), .call 44 [JD8, JD28] (.one JD15), .call 48 [] (.one JD25), .call 43 [JD25, JD8] (.one JD43), .call 45 [] (.one JD42), .call 47 JD17 (.one JD23), .call 46 [JD6, JD23] (.one JD22), .call 43 [JD15, JD22] (.one JD21), .call 50 [] (.one JD20), .call 49 [JD6, JD21, JD20] (.one JD19), .call 43 JD1 (.one JD18), .call 44 [JD16, JD19] (.one JD40), .call 44 [JD16, JD18] (.one JD39), .call 20 [JD2] (.one JD50), .dec (.var 62) true, .callS 38 [(.val JD2)] [(.fresh 5 (.lvar 63) (.lit 0) (.len (.lvar 63)) true)], .callS 12 [(.bytes (.lvar 63)), (.bytes (.lvar 0))] [(.val JD61)], .dec (.var 64) true], []⟩) Tryd.func18 (by kernel_rfl)
  (evs_of ⟨?_, ?_, ?_, ?_, ?_, ?_, ?_, ?_, ?_, ?_, ?_, ?_, ?_, ?_, ?_, ?_, ?_, ?_, ?_, ?_, ?_, ?_, ?_, ?_, ?_, ?_, trivial⟩) (by simp) (GsOk.nil _) hK hG _ (⟨u0, _, rfl, ⟨hu0, fun b hb => by cases hb⟩, rfl⟩)
 ·exact runS_eq hrun (by (have eX : r9 = X := (by rw [hX, e9]); subst eX; rw [← ey]; rfl))
 ·exact dec_ne_f (a := l.length) (b := 32) rfl rfl (by omega)
 ·exact dec_le_t (a := l.length) (b := 1099511627776) rfl rfl (by omega)
 iterate 4 (exact dec_ixEdK (l := l) rfl (by omega))
 ·exact CallS.g (rlittle_s (l.set ((31 : Int)).toNat (Int.tmod (l.getD ((31 : Int)).toNat 0) (128 : Int))) (by first | assumption | (simp only [*]; first | exact putN_bytes _ _ | exact (putN_bytes _ _).reverse | (apply IsBytes.reverse; assumption))) hr1 hr2)
 ·exact rmul_g Ts r1 r1 (by first | assumption | exact ltP ‹_› | decide +kernel) (by first | assumption | exact ltP ‹_› | decide +kernel) hr3
 ·exact CallP.g (rone_c hone1)
 ·exact rsub_g Ts r3 one1 (by first | assumption | exact ltP ‹_› | decide +kernel) (by first | assumption | exact ltP ‹_› | decide +kernel) hr4
 ·exact CallP.g (rd_c hdd)
 ·exact rmul_g Ts dd r3 (by first | assumption | exact ltP ‹_› | decide +kernel) (by first | assumption | exact ltP ‹_› | decide +kernel) hr5
 ·exact CallP.g (rone_c hone1)
 ·exact radd_g Ts r5 one1 (by first | assumption | exact ltP ‹_› | decide +kernel) (by first | assumption | exact ltP ‹_› | decide +kernel) hr6
 ·exact finv_g Ts r6 (by first | assumption | exact ltP ‹_› | decide +kernel) hr7
 ·exact rmul_g Ts r4 r7 (by first | assumption | exact ltP ‹_› | decide +kernel) (by first | assumption | exact ltP ‹_› | decide +kernel) hr8
 ·exact reighth_g Ts hee
 ·exact fpow_g Ts r8 ee (by first | assumption | exact ltP ‹_› | decide +kernel) (by first | assumption | exact ltP ‹_› | decide +kernel) hr9
 ·(have hX := show CallG Tryd.prog (LE Ts) 43 #[vN r9, vN ii] (vN r10) from rmul_g Ts r9 ii (by first | assumption | exact ltP ‹_› | decide +kernel) (by rw [hii]; decide +kernel) hr10; rw [hii] at hX; exact hX)
 ·exact rsub_g Ts 0 r9 (by decide) (by first | assumption | exact ltP ‹_› | decide +kernel) hr11
 ·exact rsub_g Ts 0 r10 (by decide) (by first | assumption | exact ltP ‹_› | decide +kernel) hr12
 ·exact rformed_g Ts r9 r1 false (by first | assumption | exact ltP ‹_› | decide +kernel) (by first | assumption | exact ltP ‹_› | decide +kernel) hr13
 ·(show r13 = true; rw [hr13, e9, ey]; exact f0)
 ·exact rencode_g Ts r9 r1 false (by first | assumption | exact ltP ‹_› | decide +kernel) (by first | assumption | exact ltP ‹_› | decide +kernel) hr14
 ·exact CallS.g (same_s r14 l (by first | assumption | omega | (simp; omega) | (simp [*, putN_length]; done)) hr15)
 ·(show r15 = true; rw [hr15, hr14, e9, ey, enc_same h hb hy hs (f0)]; exact decide_eq_true p0)
theorem rdec_2 (l : List Int) (Ts : TV) (h : l.length = 32) (hb : IsBytes l) (y s : Nat) (hy : y = leN l % 57896044618658097711785492504343953926634992332820282019728792003956564819968) (hs : s = leN l / 57896044618658097711785492504343953926634992332820282019728792003956564819968) (dd ee ii one1 X0 Y0 : Nat) (hdd : dd = Ed.dN) (hee : ee = Ed.E8) (hii : ii = iN) (hone1 : one1 = 1) (hX0 : X0 = 0) (hY0 : Y0 = 1) (A0 A1 : Nat) (hA0 : A0 = rtX (wN y)) (hA1 : A1 = rtX (wN y) * iN % Ed.P) (f0 : formedB A0 y false = true) (p0 : ¬ A0 % 2 = s) (f1 : formedB A1 y false = false)(g0 : formedB (sb Ed.P 0 A0) y false = true) (q0 : sb Ed.P 0 A0 % 2 = s) (X : Nat) (hX : X = sb Ed.P 0 A0) : CallS Tryd.prog (LE Ts) 18 [.bytes l] [.val (vP X y false), .val (.bool true)] := by
 refine callS_of Tryd.func18 (by kernel_rfl) (by kernel_rfl) (fun w us hK hG ha => ?_)
 obtain ⟨u0, _, rfl, hu0, rfl⟩ := ha
 obtain ⟨r1, hr1⟩ : ∃ r : Nat, r = if (l.set ((31 : Int)).toNat (Int.tmod (l.getD ((31 : Int)).toNat 0) (128 : Int))).length = 32 then leN (l.set ((31 : Int)).toNat (Int.tmod (l.getD ((31 : Int)).toNat 0) (128 : Int))) else 0 := ⟨_, rfl⟩
 obtain ⟨r2, hr2⟩ : ∃ r : Bool, r = decide ((l.set ((31 : Int)).toNat (Int.tmod (l.getD ((31 : Int)).toNat 0) (128 : Int))).length = 32) := ⟨_, rfl⟩
 obtain ⟨r3, hr3⟩ : ∃ r : Nat, r = r1 * r1 % Ed.P := ⟨_, rfl⟩
 have br3 : r3 < Ed.P := (by rw [hr3]; exact Nat.mod_lt _ P_pos)
 obtain ⟨r4, hr4⟩ : ∃ r : Nat, r = sb Ed.P r3 one1 := ⟨_, rfl⟩
 have br4 : r4 < Ed.P := (by rw [hr4]; exact sb_P _ _)
 obtain ⟨r5, hr5⟩ : ∃ r : Nat, r = dd * r3 % Ed.P := ⟨_, rfl⟩
 have br5 : r5 < Ed.P := (by rw [hr5]; exact Nat.mod_lt _ P_pos)
 obtain ⟨r6, hr6⟩ : ∃ r : Nat, r = (r5 + one1) % Ed.P := ⟨_, rfl⟩
 have br6 : r6 < Ed.P := (by rw [hr6]; exact Nat.mod_lt _ P_pos)
 obtain ⟨r7, hr7⟩ : ∃ r : Nat, r = r6 ^ (Ed.P - 2) % Ed.P := ⟨_, rfl⟩
 have br7 : r7 < Ed.P := (by rw [hr7]; exact Nat.mod_lt _ P_pos)
 obtain ⟨r8, hr8⟩ : ∃ r : Nat, r = r4 * r7 % Ed.P := ⟨_, rfl⟩
 have br8 : r8 < Ed.P := (by rw [hr8]; exact Nat.mod_lt _ P_pos)
 obtain ⟨r9, hr9⟩ : ∃ r : Nat, r = r8 ^ ee % Ed.P := ⟨_, rfl⟩
 have br9 : r9 < Ed.P := (by rw [hr9]; exact Nat.mod_lt _ P_pos)
 obtain ⟨r10, hr10⟩ : ∃ r : Nat, r = r9 * ii % Ed.P := ⟨_, rfl⟩
 have br10 : r10 < Ed.P := (by rw [hr10]; exact Nat.mod_lt _ P_pos)
 obtain ⟨r11, hr11⟩ : ∃ r : Nat, r = sb Ed.P 0 r9 := ⟨_, rfl⟩
 have br11 : r11 < Ed.P := (by rw [hr11]; exact sb_P _ _)
 obtain ⟨r12, hr12⟩ : ∃ r : Nat, r = sb Ed.P 0 r10 := ⟨_, rfl⟩
 have br12 : r12 < Ed.P := (by rw [hr12]; exact sb_P _ _)
 obtain ⟨r13, hr13⟩ : ∃ r : Bool, r = formedB r9 r1 false := ⟨_, rfl⟩
 obtain ⟨r14, hr14⟩ : ∃ r : List Int, r = putN 32 (encN r9 r1 false) := ⟨_, rfl⟩
 obtain ⟨r15, hr15⟩ : ∃ r : Bool, r = decide (r14 = l) := ⟨_, rfl⟩
 obtain ⟨r16, hr16⟩ : ∃ r : Bool, r = formedB r10 r1 false := ⟨_, rfl⟩
 obtain ⟨r17, hr17⟩ : ∃ r : Bool, r = formedB r11 r1 false := ⟨_, rfl⟩
 obtain ⟨r18, hr18⟩ : ∃ r : List Int, r = putN 32 (encN r11 r1 false) := ⟨_, rfl⟩
 obtain ⟨r19, hr19⟩ : ∃ r : Bool, r = decide (r18 = l) := ⟨_, rfl⟩
 have lo := low_mod (l := l) h hb
 have lo1 := lo.2.1
 have ey : r1 = y := by rw [hr1, if_pos lo.2.2, lo.1, hy]
 have hyN : r1 < N := by rw [hr1]; split; exact leN32_lt lo.2.2 lo.2.1; decide
 have bdd : dd < N := by rw [hdd]; decide +kernel
 have bee : ee < N := by rw [hee]; decide +kernel
 have bone : one1 < N := by rw [hone1]; decide
 have ew : r8 = wN y := by rw [hr8, hr7, hr6, hr5, hr4, hr3, ey, hdd, hone1]; rfl
 have e9 : r9 = A0 := by rw [hr9, ew, hee, hA0]; rfl
 have e10 : r10 = A1 := by rw [hr10, e9, hA0, hii, hA1]
 have e11 : r11 = sb Ed.P 0 A0 := by rw [hr11, e9]
 have e12 : r12 = sb Ed.P 0 A1 := by rw [hr12, e10]
 have hrun := calls_of_runS (P := Tryd.prog) (v := ⟨envI [0, (lm r1 0 : Int), (lm r1 1 : Int), (lm r1 2 : Int), (lm r1 3 : Int), 0, (lm r3 0 : Int), (lm r3 1 : Int), (lm r3 2 : Int), (lm r3 3 : Int), (lm one1 0 : Int), (lm one1 1 : Int), (lm one1 2 : Int), (lm one1 3 : Int), (lm r4 0 : Int), (lm r4 1 : Int), (lm r4 2 : Int), (lm r4 3 : Int), (lm dd 0 : Int), (lm dd 1 : Int), (lm dd 2 : Int), (lm dd 3 : Int), (lm r5 0 : Int), (lm r5 1 : Int), (lm r5 2 : Int), (lm r5 3 : Int), (lm one1 0 : Int), (lm one1 1 : Int), (lm one1 2 : Int), (lm one1 3 : Int), (lm r6 0 : Int), (lm r6 1 : Int), (lm r6 2 : Int), (lm r6 3 : Int), (lm r7 0 : Int), (lm r7 1 : Int), (lm r7 2 : Int), (lm r7 3 : Int), (lm r8 0 : Int), (lm r8 1 : Int), (lm r8 2 : Int), (lm r8 3 : Int), (lm ee 0 : Int), (lm ee 1 : Int), (lm ee 2 : Int), (lm ee 3 : Int), (lm r9 0 : Int), (lm r9 1 : Int), (lm r9 2 : Int), (lm r9 3 : Int), (lm r10 0 : Int), (lm r10 1 : Int), (lm r10 2 : Int), (lm r10 3 : Int), (lm r11 0 : Int), (lm r11 1 : Int), (lm r11 2 : Int), (lm r11 3 : Int), (lm r12 0 : Int), (lm r12 1 : Int), (lm r12 2 : Int), (lm r12 3 : Int)], envB [false, false, false, false, false, r2, false, false, false, false, false, false, false, false, false, false, false, false, false, false, false, false, false, false, false, false, false, false, false, false, false, false, false, false, false, false, false, false, false, false, false, false, false, false, false, false, false, false, false, false, false, false, false, false, false, false, false, false, false, false, false, false, r13, false, r15, r16, r17, false, r19], envL [l, [], [], [], [], [], [], [], [], [], [], [], [], [], [], [], [], [], [], [], [], [], [], [], [], [], [], [], [], [], [], [], [], [], [], [], [], [], [], [], [], [], [], [], [], [], [], [], [], [], [], [], [], [], [], [], [], [], [], [], [], [], [], r14, [], [], [], r18], envP [], LE Ts, w⟩) (gs := []) (fuel := 3000) (nv := 1) (args := [(.imm (.lvar 0) none)]) (ora := [some false, none, some true, some false, some false, some true, some true]) (sums := []) (r := ⟨[(.val JD11), (.val JD48)], [.dec JD12 false, .dec JD34 true, .dec JD0 true, .dec JD0 true, .dec JD0 true, .dec JD0 true, .callS 13 [(.bytes JD29)] [(.val JD10), (.val JD53)], .call 43 [JD10, JD10] (.one JD8), .call 45 [] (.one JD28), .call 44 [JD8, JD28] (.one JD15), .call 48 [] (.one JD25), .call 43 [JD25, JD8] (.one JD43), .call 45 [] (.one JD42), .call 47 JD17 (.one JD23), .call 46 [JD6, JD23] (.one JD22), .call 43 [JD15, JD22] (.one JD21), .call 50 [] (.one JD20), .call 49 [JD6, JD21, JD20] (.one JD19), .call 43 JD1 (.one JD18), .call 44 [JD16, JD19] (.one JD40), .call 44 [JD16, JD18] (.one JD39), .call 20 [JD2] (.one JD50), .dec (.var 62) true, .callS 38 [(.val JD2)] [(.fresh 5 (.lvar 63) (.lit 0) (.len (.lvar 63)) true)], .callS 12 [(.bytes (.lvar 63)), (.bytes (.lvar 0))] [(.val JD61)], .dec (.var 64) false, .call 20 [JD5] (.one JD54), .dec (.var 65) false, .call 20 [JD11] (.one (.sc (.bool (.var 66)))), .dec (.var 66) true, .callS 38 [(.val JD11)] [(.fresh 5 (.lvar 67) (.lit 0) (.len (.lvar 67)) true)], .callS 12 [(.bytes (.lvar 67)), (.bytes (.lvar 0))] [(.val (.sc (.bool (.var 68))))], .dec (.var 68) true], []⟩) Tryd.func18 (by kernel_rfl)
  (evs_of ⟨?_, ?_, ?_, ?_, ?_, ?_, ?_, ?_, ?_, ?_, ?_, ?_, ?_, ?_, ?_, ?_, ?_, ?_, ?_, ?_, ?_, ?_, ?_, ?_, ?_, ?_, ?_, ?_, ?_, ?_, ?_, ?_, ?_, trivial⟩) (by simp) (GsOk.nil _) hK hG _ (⟨u0, _, rfl, ⟨hu0, fun b hb => by cases hb⟩, rfl⟩)
 ·exact runS_eq hrun (by (have eX : r11 = X := (by rw [hX, e11]); subst eX; rw [← ey]; rfl))
 ·exact dec_ne_f (a := l.length) (b := 32) rfl rfl (by omega)
 ·exact dec_le_t (a := l.length) (b := 1099511627776) rfl rfl (by omega)
 iterate 4 (exact dec_ixEdK (l := l) rfl (by omega))
 ·exact CallS.g (rlittle_s (l.set ((31 : Int)).toNat (Int.tmod (l.getD ((31 : Int)).toNat 0) (128 : Int))) (by first | assumption | (simp only [*]; first | exact putN_bytes _ _ | exact (putN_bytes _ _).reverse | (apply IsBytes.reverse; assumption))) hr1 hr2)
 ·exact rmul_g Ts r1 r1 (by first | assumption | exact ltP ‹_› | decide +kernel) (by first | assumption | exact ltP ‹_› | decide +kernel) hr3
 ·exact CallP.g (rone_c hone1)
 ·exact rsub_g Ts r3 one1 (by first | assumption | exact ltP ‹_› | decide +kernel) (by first | assumption | exact ltP ‹_› | decide +kernel) hr4
 ·exact CallP.g (rd_c hdd)
 ·exact rmul_g Ts dd r3 (by first | assumption | exact ltP ‹_› | decide +kernel) (by first | assumption | exact ltP ‹_› | decide +kernel) hr5
 ·exact CallP.g (rone_c hone1)
 ·exact radd_g Ts r5 one1 (by first | assumption | exact ltP ‹_› | decide +kernel) (by first | assumption | exact ltP ‹_› | decide +kernel) hr6
 ·exact finv_g Ts r6 (by first | assumption | exact ltP ‹_› | decide +kernel) hr7
 ·exact rmul_g Ts r4 r7 (by first | assumption | exact ltP ‹_› | decide +kernel) (by first | assumption | exact ltP ‹_› | decide +kernel) hr8
 ·exact reighth_g Ts hee
 ·exact fpow_g Ts r8 ee (by first | assumption | exact ltP ‹_› | decide +kernel) (by first | assumption | exact ltP ‹_› | decide +kernel) hr9
 ·(have hX := show CallG Tryd.prog (LE Ts) 43 #[vN r9, vN ii] (vN r10) from rmul_g Ts r9 ii (by first | assumption | exact ltP ‹_› | decide +kernel) (by rw [hii]; decide +kernel) hr10; rw [hii] at hX; exact hX)
 ·exact rsub_g Ts 0 r9 (by decide) (by first | assumption | exact ltP ‹_› | decide +kernel) hr11
 ·exact rsub_g Ts 0 r10 (by decide) (by first | assumption | exact ltP ‹_› | decide +kernel) hr12
 ·exact rformed_g Ts r9 r1 false (by first | assumption | exact ltP ‹_› | decide +kernel) (by first | assumption | exact ltP ‹_› | decide +kernel) hr13
 ·(show r13 = true; rw [hr13, e9, ey]; exact f0)
 ·exact rencode_g Ts r9 r1 false (by first | assumption | exact ltP ‹_› | decide +kernel) (by first | assumption | exact ltP ‹_› | decide +kernel) hr14
 ·exact CallS.g (same_s r14 l (by first | assumption | omega | (simp; omega) | (simp [*, putN_length]; done)) hr15)
 ·(show r15 = false; rw [hr15, hr14, e9, ey, enc_same h hb hy hs (f0)]; exact decide_eq_false p0)
 ·exact rformed_g Ts r10 r1 false (by first | assumption | exact ltP ‹_› | decide +kernel) (by first | assumption | exact ltP ‹_› | decide +kernel) hr16
 ·(show r16 = false; rw [hr16, e10, ey]; exact f1)
 ·exact rformed_g Ts r11 r1 false (by first | assumption | exact ltP ‹_› | decide +kernel) (by first | assumption | exact ltP ‹_› | decide +kernel) hr17
 ·(show r17 = true; rw [hr17, e11, ey]; exact g0)
 ·exact rencode_g Ts r11 r1 false (by first | assumption | exact ltP ‹_› | decide +kernel) (by first | assumption | exact ltP ‹_› | decide +kernel) hr18
 ·exact CallS.g (same_s r18 l (by first | assumption | omega | (simp; omega) | (simp [*, putN_length]; done)) hr19)
 ·(show r19 = true; rw [hr19, hr18, e11, ey, enc_same h hb hy hs (g0)]; exact decide_eq_true q0)
theorem rdec_3 (l : List Int) (Ts : TV) (h : l.length = 32) (hb : IsBytes l) (y s : Nat) (hy : y = leN l % 57896044618658097711785492504343953926634992332820282019728792003956564819968) (hs : s = leN l / 57896044618658097711785492504343953926634992332820282019728792003956564819968) (dd ee ii one1 X0 Y0 : Nat) (hdd : dd = Ed.dN) (hee : ee = Ed.E8) (hii : ii = iN) (hone1 : one1 = 1) (hX0 : X0 = 0) (hY0 : Y0 = 1) (A0 A1 : Nat) (hA0 : A0 = rtX (wN y)) (hA1 : A1 = rtX (wN y) * iN % Ed.P) (f0 : formedB A0 y false = true) (p0 : ¬ A0 % 2 = s) (f1 : formedB A1 y false = true) (p1 : ¬ A1 % 2 = s) (g0 : formedB (sb Ed.P 0 A0) y false = true) (q0 : ¬ sb Ed.P 0 A0 % 2 = s) (g1 : formedB (sb Ed.P 0 A1) y false = true) (q1 : ¬ sb Ed.P 0 A1 % 2 = s) : CallS Tryd.prog (LE Ts) 18 [.bytes l] [.val (vP X0 Y0 false), .val (.bool false)] := by
 refine callS_of Tryd.func18 (by kernel_rfl) (by kernel_rfl) (fun w us hK hG ha => ?_)
 obtain ⟨u0, _, rfl, hu0, rfl⟩ := ha
 obtain ⟨r1, hr1⟩ : ∃ r : Nat, r = if (l.set ((31 : Int)).toNat (Int.tmod (l.getD ((31 : Int)).toNat 0) (128 : Int))).length = 32 then leN (l.set ((31 : Int)).toNat (Int.tmod (l.getD ((31 : Int)).toNat 0) (128 : Int))) else 0 := ⟨_, rfl⟩
 obtain ⟨r2, hr2⟩ : ∃ r : Bool, r = decide ((l.set ((31 : Int)).toNat (Int.tmod (l.getD ((31 : Int)).toNat 0) (128 : Int))).length = 32) := ⟨_, rfl⟩
 obtain ⟨r3, hr3⟩ : ∃ r : Nat, r = r1 * r1 % Ed.P := ⟨_, rfl⟩
 have br3 : r3 < Ed.P := (by rw [hr3]; exact Nat.mod_lt _ P_pos)
 obtain ⟨r4, hr4⟩ : ∃ r : Nat, r = sb Ed.P r3 one1 := ⟨_, rfl⟩
 have br4 : r4 < Ed.P := (by rw [hr4]; exact sb_P _ _)
 obtain ⟨r5, hr5⟩ : ∃ r : Nat, r = dd * r3 % Ed.P := ⟨_, rfl⟩
 have br5 : r5 < Ed.P := (by rw [hr5]; exact Nat.mod_lt _ P_pos)
 obtain ⟨r6, hr6⟩ : ∃ r : Nat, r = (r5 + one1) % Ed.P := ⟨_, rfl⟩
 have br6 : r6 < Ed.P := (by rw [hr6]; exact Nat.mod_lt _ P_pos)
 obtain ⟨r7, hr7⟩ : ∃ r : Nat, r = r6 ^ (Ed.P - 2) % Ed.P := ⟨_, rfl⟩
 have br7 : r7 < Ed.P := (by rw [hr7]; exact Nat.mod_lt _ P_pos)
 obtain ⟨r8, hr8⟩ : ∃ r : Nat, r = r4 * r7 % Ed.P := ⟨_, rfl⟩
 have br8 : r8 < Ed.P := (by rw [hr8]; exact Nat.mod_lt _ P_pos)
 obtain ⟨r9, hr9⟩ : ∃ r : Nat, r = r8 ^ ee % Ed.P := ⟨_, rfl⟩
 have br9 : r9 < Ed.P := (by rw [hr9]; exact Nat.mod_lt _ P_pos)
 obtain ⟨r10, hr10⟩ : ∃ r : Nat, r = r9 * ii % Ed.P := ⟨_, rfl⟩
 have br10 : r10 < Ed.P := (by rw [hr10]; exact Nat.mod_lt _ P_pos)
 obtain ⟨r11, hr11⟩ : ∃ r : Nat, r = sb Ed.P 0 r9 := ⟨_, rfl⟩
 have br11 : r11 < Ed.P := (by rw [hr11]; exact sb_P _ _)
 obtain ⟨r12, hr12⟩ : ∃ r : Nat, r = sb Ed.P 0 r10 := ⟨_, rfl⟩
 have br12 : r12 < Ed.P := (by rw [hr12]; exact sb_P _ _)
 obtain ⟨r13, hr13⟩ : ∃ r : Bool, r = formedB r9 r1 false := ⟨_, rfl⟩
 obtain ⟨r14, hr14⟩ : ∃ r : List Int, r = putN 32 (encN r9 r1 false) := ⟨_, rfl⟩
 obtain ⟨r15, hr15⟩ : ∃ r : Bool, r = decide (r14 = l) := ⟨_, rfl⟩
 obtain ⟨r16, hr16⟩ : ∃ r : Bool, r = formedB r10 r1 false := ⟨_, rfl⟩
 obtain ⟨r17, hr17⟩ : ∃ r : List Int, r = putN 32 (encN r10 r1 false) := ⟨_, rfl⟩
 obtain ⟨r18, hr18⟩ : ∃ r : Bool, r = decide (r17 = l) := ⟨_, rfl⟩
 obtain ⟨r19, hr19⟩ : ∃ r : Bool, r = formedB r11 r1 false := ⟨_, rfl⟩
 obtain ⟨r20, hr20⟩ : ∃ r : List Int, r = putN 32 (encN r11 r1 false) := ⟨_, rfl⟩
 obtain ⟨r21, hr21⟩ : ∃ r : Bool, r = decide (r20 = l) := ⟨_, rfl⟩
 obtain ⟨r22, hr22⟩ : ∃ r : Bool, r = formedB r12 r1 false := ⟨_, rfl⟩
 obtain ⟨r23, hr23⟩ : ∃ r : List Int, r = putN 32 (encN r12 r1 false) := ⟨_, rfl⟩
 obtain ⟨r24, hr24⟩ : ∃ r : Bool, r = decide (r23 = l) := ⟨_, rfl⟩
 have lo := low_mod (l := l) h hb
 have lo1 := lo.2.1
 have ey : r1 = y := by rw [hr1, if_pos lo.2.2, lo.1, hy]
 have hyN : r1 < N := by rw [hr1]; split; exact leN32_lt lo.2.2 lo.2.1; decide
 have bdd : dd < N := by rw [hdd]; decide +kernel
 have bee : ee < N := by rw [hee]; decide +kernel
 have bone : one1 < N := by rw [hone1]; decide
 have ew : r8 = wN y := by rw [hr8, hr7, hr6, hr5, hr4, hr3, ey, hdd, hone1]; rfl
 have e9 : r9 = A0 := by rw [hr9, ew, hee, hA0]; rfl
 have e10 : r10 = A1 := by rw [hr10, e9, hA0, hii, hA1]
 have e11 : r11 = sb Ed.P 0 A0 := by rw [hr11, e9]
 have e12 : r12 = sb Ed.P 0 A1 := by rw [hr12, e10]
 have hrun := calls_of_runS (P := Tryd.prog) (v := ⟨envI [0, (lm r1 0 : Int), (lm r1 1 : Int), (lm r1 2 : Int), (lm r1 3 : Int), 0, (lm r3 0 : Int), (lm r3 1 : Int), (lm r3 2 : Int), (lm r3 3 : Int), (lm one1 0 : Int), (lm one1 1 : Int), (lm one1 2 : Int), (lm one1 3 : Int), (lm r4 0 : Int), (lm r4 1 : Int), (lm r4 2 : Int), (lm r4 3 : Int), (lm dd 0 : Int), (lm dd 1 : Int), (lm dd 2 : Int), (lm dd 3 : Int), (lm r5 0 : Int), (lm r5 1 : Int), (lm r5 2 : Int), (lm r5 3 : Int), (lm one1 0 : Int), (lm one1 1 : Int), (lm one1 2 : Int), (lm one1 3 : Int), (lm r6 0 : Int), (lm r6 1 : Int), (lm r6 2 : Int), (lm r6 3 : Int), (lm r7 0 : Int), (lm r7 1 : Int), (lm r7 2 : Int), (lm r7 3 : Int), (lm r8 0 : Int), (lm r8 1 : Int), (lm r8 2 : Int), (lm r8 3 : Int), (lm ee 0 : Int), (lm ee 1 : Int), (lm ee 2 : Int), (lm ee 3 : Int), (lm r9 0 : Int), (lm r9 1 : Int), (lm r9 2 : Int), (lm r9 3 : Int), (lm r10 0 : Int), (lm r10 1 : Int), (lm r10 2 : Int), (lm r10 3 : Int), (lm r11 0 : Int), (lm r11 1 : Int), (lm r11 2 : Int), (lm r11 3 : Int), (lm r12 0 : Int), (lm r12 1 : Int), (lm r12 2 : Int), (lm r12 3 : Int), 0, 0, 0, 0, 0, 0, 0, 0, 0, 0, 0, 0, (lm X0 0 : Int), (lm X0 1 : Int), (lm X0 2 : Int), (lm X0 3 : Int), (lm Y0 0 : Int), (lm Y0 1 : Int), (lm Y0 2 : Int), (lm Y0 3 : Int)], envB [false, false, false, false, false, r2, false, false, false, false, false, false, false, false, false, false, false, false, false, false, false, false, false, false, false, false, false, false, false, false, false, false, false, false, false, false, false, false, false, false, false, false, false, false, false, false, false, false, false, false, false, false, false, false, false, false, false, false, false, false, false, false, r13, false, r15, r16, false, r18, r19, false, r21, r22, false, r24, false, false, false, false, false, false, false, false, false], envL [l, [], [], [], [], [], [], [], [], [], [], [], [], [], [], [], [], [], [], [], [], [], [], [], [], [], [], [], [], [], [], [], [], [], [], [], [], [], [], [], [], [], [], [], [], [], [], [], [], [], [], [], [], [], [], [], [], [], [], [], [], [], [], r14, [], [], r17, [], [], r20, [], [], r23], envP [], LE Ts, w⟩) (gs := []) (fuel := 3000) (nv := 1) (args := [(.imm (.lvar 0) none)]) (ora := [some false, none, some true, some false, some true, some false, some true, some false, some true, some false]) (sums := []) (r := ⟨[(.val JD55), (.val JD46)], [.dec JD12 false, .dec JD34 true, .dec JD0 true, .dec JD0 true, .dec JD0 true, .dec JD0 true, .callS 13 [(.bytes JD29)] [(.val JD10), (.val JD53)], .call 43 [JD10, JD10] (.one JD8), .call 45 [] (.one JD28), .call 44 [JD8, JD28] (.one JD15), .call 48 [] (.one JD25), .call 43 [JD25, JD8] (.one JD43), .call 45 [] (.one JD42), .call 47 JD17 (.one JD23), .call 46 [JD6, JD23] (.one JD22), .call 43 [JD15, JD22] (.one JD21), .call 50 [] (.one JD20), .call 49 [JD6, JD21, JD20] (.one JD19), .call 43 JD1 (.one JD18), .call 44 [JD16, JD19] (.one JD40), .call 44 [JD16, JD18] (.one JD39), .call 20 [JD2] (.one JD50), .dec (.var 62) true, .callS 38 [(.val JD2)] [(.fresh 5 (.lvar 63) (.lit 0) (.len (.lvar 63)) true)], .callS 12 [(.bytes (.lvar 63)), (.bytes (.lvar 0))] [(.val JD61)], .dec (.var 64) false, .call 20 [JD5] (.one JD54), .dec (.var 65) true, .callS 38 [(.val JD5)] [(.fresh 5 (.lvar 66) (.lit 0) (.len (.lvar 66)) true)], .callS 12 [(.bytes (.lvar 66)), (.bytes (.lvar 0))] [(.val (.sc (.bool (.var 67))))], .dec (.var 67) false, .call 20 [JD11] (.one (.sc (.bool (.var 68)))), .dec (.var 68) true, .callS 38 [(.val JD11)] [(.fresh 5 (.lvar 69) (.lit 0) (.len (.lvar 69)) true)], .callS 12 [(.bytes (.lvar 69)), (.bytes (.lvar 0))] [(.val (.sc (.bool (.var 70))))], .dec (.var 70) false, .call 20 [JD14] (.one (.sc (.bool (.var 71)))), .dec (.var 71) true, .callS 38 [(.val JD14)] [(.fresh 5 (.lvar 72) (.lit 0) (.len (.lvar 72)) true)], .callS 12 [(.bytes (.lvar 72)), (.bytes (.lvar 0))] [(.val (.sc (.bool (.var 73))))], .dec (.var 73) false, .call 42 [] (.one JD55)], []⟩) Tryd.func18 (by kernel_rfl)
  (evs_of ⟨?_, ?_, ?_, ?_, ?_, ?_, ?_, ?_, ?_, ?_, ?_, ?_, ?_, ?_, ?_, ?_, ?_, ?_, ?_, ?_, ?_, ?_, ?_, ?_, ?_, ?_, ?_, ?_, ?_, ?_, ?_, ?_, ?_, ?_, ?_, ?_, ?_, ?_, ?_, ?_, ?_, ?_, trivial⟩) (by simp) (GsOk.nil _) hK hG _ (⟨u0, _, rfl, ⟨hu0, fun b hb => by cases hb⟩, rfl⟩)
 ·exact runS_eq hrun (by rfl)
 ·exact dec_ne_f (a := l.length) (b := 32) rfl rfl (by omega)
 ·exact dec_le_t (a := l.length) (b := 1099511627776) rfl rfl (by omega)
 iterate 4 (exact dec_ixEdK (l := l) rfl (by omega))
 ·exact CallS.g (rlittle_s (l.set ((31 : Int)).toNat (Int.tmod (l.getD ((31 : Int)).toNat 0) (128 : Int))) (by first | assumption | (simp only [*]; first | exact putN_bytes _ _ | exact (putN_bytes _ _).reverse | (apply IsBytes.reverse; assumption))) hr1 hr2)
 ·exact rmul_g Ts r1 r1 (by first | assumption | exact ltP ‹_› | decide +kernel) (by first | assumption | exact ltP ‹_› | decide +kernel) hr3
 ·exact CallP.g (rone_c hone1)
 ·exact rsub_g Ts r3 one1 (by first | assumption | exact ltP ‹_› | decide +kernel) (by first | assumption | exact ltP ‹_› | decide +kernel) hr4
 ·exact CallP.g (rd_c hdd)
 ·exact rmul_g Ts dd r3 (by first | assumption | exact ltP ‹_› | decide +kernel) (by first | assumption | exact ltP ‹_› | decide +kernel) hr5
 ·exact CallP.g (rone_c hone1)
 ·exact radd_g Ts r5 one1 (by first | assumption | exact ltP ‹_› | decide +kernel) (by first | assumption | exact ltP ‹_› | decide +kernel) hr6
 ·exact finv_g Ts r6 (by first | assumption | exact ltP ‹_› | decide +kernel) hr7
 ·exact rmul_g Ts r4 r7 (by first | assumption | exact ltP ‹_› | decide +kernel) (by first | assumption | exact ltP ‹_› | decide +kernel) hr8
 ·exact reighth_g Ts hee
 ·exact fpow_g Ts r8 ee (by first | assumption | exact ltP ‹_› | decide +kernel) (by first | assumption | exact ltP ‹_› | decide +kernel) hr9
 ·(have hX := show CallG Tryd.prog (LE Ts) 43 #[vN r9, vN ii] (vN r10) from rmul_g Ts r9 ii (by first | assumption | exact ltP ‹_› | decide +kernel) (by rw [hii]; decide +kernel) hr10; rw [hii] at hX; exact hX)
 ·exact rsub_g Ts 0 r9 (by decide) (by first | assumption | exact ltP ‹_› | decide +kernel) hr11
 ·exact rsub_g Ts 0 r10 (by decide) (by first | assumption | exact ltP ‹_› | decide +kernel) hr12
 ·exact rformed_g Ts r9 r1 false (by first | assumption | exact ltP ‹_› | decide +kernel) (by first | assumption | exact ltP ‹_› | decide +kernel) hr13
 ·(show r13 = true; rw [hr13, e9, ey]; exact f0)
 ·exact rencode_g Ts r9 r1 false (by first | assumption | exact ltP ‹_› | decide +kernel) (by first | assumption | exact ltP ‹_› | decide +kernel) hr14
 ·exact CallS.g (same_s r14 l (by first | assumption | omega | (simp; omega) | (simp [*, putN_length]; done)) hr15)
 ·(show r15 = false; rw [hr15, hr14, e9, ey, enc_same h hb hy hs (f0)]; exact decide_eq_false p0)
 ·exact rformed_g Ts r10 r1 false (by first | assumption | exact ltP ‹_› | decide +kernel) (by first | assumption | exact ltP ‹_› | decide +kernel) hr16
 ·(show r16 = true; rw [hr16, e10, ey]; exact f1)
 ·exact rencode_g Ts r10 r1 false (by first | assumption | exact ltP ‹_› | decide +kernel) (by first | assumption | exact ltP ‹_› | decide +kernel) hr17
 ·exact CallS.g (same_s r17 l (by first | assumption | omega | (simp; omega) | (simp [*, putN_length]; done)) hr18)
 ·(show r18 = false; rw [hr18, hr17, e10, ey, enc_same h hb hy hs (f1)]; exact decide_eq_false p1)
 ·exact rformed_g Ts r11 r1 false (by first | assumption | exact ltP ‹_› | decide +kernel) (by first | assumption | exact ltP ‹_› | decide +kernel) hr19
 ·(show r19 = true; rw [hr19, e11, ey]; exact g0)
 ·exact rencode_g Ts r11 r1 false (by first | assumption | exact ltP ‹_› | decide +kernel) (by first | assumption | exact ltP ‹_› | decide +kernel) hr20
 ·exact CallS.g (same_s r20 l (by first | assumption | omega | (simp; omega) | (simp [*, putN_length]; done)) hr21)
 ·(show r21 = false; rw [hr21, hr20, e11, ey, enc_same h hb hy hs (g0)]; exact decide_eq_false q0)
 ·exact rformed_g Ts r12 r1 false (by first | assumption | exact ltP ‹_› | decide +kernel) (by first | assumption | exact ltP ‹_› | decide +kernel) hr22
 ·(show r22 = true; rw [hr22, e12, ey]; exact g1)
 ·exact rencode_g Ts r12 r1 false (by first | assumption | exact ltP ‹_› | decide +kernel) (by first | assumption | exact ltP ‹_› | decide +kernel) hr23
 ·exact CallS.g (same_s r23 l (by first | assumption | omega | (simp; omega) | (simp [*, putN_length]; done)) hr24)
 ·(show r24 = false; rw [hr24, hr23, e12, ey, enc_same h hb hy hs (g1)]; exact decide_eq_false q1)
 ·exact CallP.g (rnone_c hX0 hY0)
theorem rdec_4 (l : List Int) (Ts : TV) (h : l.length = 32) (hb : IsBytes l) (y s : Nat) (hy : y = leN l % 57896044618658097711785492504343953926634992332820282019728792003956564819968) (hs : s = leN l / 57896044618658097711785492504343953926634992332820282019728792003956564819968) (dd ee ii one1 X0 Y0 : Nat) (hdd : dd = Ed.dN) (hee : ee = Ed.E8) (hii : ii = iN) (hone1 : one1 = 1) (hX0 : X0 = 0) (hY0 : Y0 = 1) (A0 A1 : Nat) (hA0 : A0 = rtX (wN y)) (hA1 : A1 = rtX (wN y) * iN % Ed.P) (f0 : formedB A0 y false = false)(f1 : formedB A1 y false = true) (p1 : A1 % 2 = s) (X : Nat) (hX : X = A1) : CallS Tryd.prog (LE Ts) 18 [.bytes l] [.val (vP X y false), .val (.bool true)] := by
 refine callS_of Tryd.func18 (by kernel_rfl) (by kernel_rfl) (fun w us hK hG ha => ?_)
 obtain ⟨u0, _, rfl, hu0, rfl⟩ := ha
 obtain ⟨r1, hr1⟩ : ∃ r : Nat, r = if (l.set ((31 : Int)).toNat (Int.tmod (l.getD ((31 : Int)).toNat 0) (128 : Int))).length = 32 then leN (l.set ((31 : Int)).toNat (Int.tmod (l.getD ((31 : Int)).toNat 0) (128 : Int))) else 0 := ⟨_, rfl⟩
 obtain ⟨r2, hr2⟩ : ∃ r : Bool, r = decide ((l.set ((31 : Int)).toNat (Int.tmod (l.getD ((31 : Int)).toNat 0) (128 : Int))).length = 32) := ⟨_, rfl⟩
 obtain ⟨r3, hr3⟩ : ∃ r : Nat, r = r1 * r1 % Ed.P := ⟨_, rfl⟩
 have br3 : r3 < Ed.P := (by rw [hr3]; exact Nat.mod_lt _ P_pos)
 obtain ⟨r4, hr4⟩ : ∃ r : Nat, r = sb Ed.P r3 one1 := ⟨_, rfl⟩
 have br4 : r4 < Ed.P := (by rw [hr4]; exact sb_P _ _)
 obtain ⟨r5, hr5⟩ : ∃ r : Nat, r = dd * r3 % Ed.P := ⟨_, rfl⟩
 have br5 : r5 < Ed.P := (by rw [hr5]; exact Nat.mod_lt _ P_pos)
 obtain ⟨r6, hr6⟩ : ∃ r : Nat, r = (r5 + one1) % Ed.P := ⟨_, rfl⟩
 have br6 : r6 < Ed.P := (by rw [hr6]; exact Nat.mod_lt _ P_pos)
 obtain ⟨r7, hr7⟩ : ∃ r : Nat, r = r6 ^ (Ed.P - 2) % Ed.P := ⟨_, rfl⟩
 have br7 : r7 < Ed.P := (by rw [hr7]; exact Nat.mod_lt _ P_pos)
 obtain ⟨r8, hr8⟩ : ∃ r : Nat, r = r4 * r7 % Ed.P := ⟨_, rfl⟩
 have br8 : r8 < Ed.P := (by rw [hr8]; exact Nat.mod_lt _ P_pos)
 obtain ⟨r9, hr9⟩ : ∃ r : Nat, r = r8 ^ ee % Ed.P := ⟨_, rfl⟩
 have br9 : r9 < Ed.P := (by rw [hr9]; exact Nat.mod_lt _ P_pos)
 obtain ⟨r10, hr10⟩ : ∃ r : Nat, r = r9 * ii % Ed.P := ⟨_, rfl⟩
 have br10 : r10 < Ed.P := (by rw [hr10]; exact Nat.mod_lt _ P_pos)
 obtain ⟨r11, hr11⟩ : ∃ r : Nat, r = sb Ed.P 0 r9 := ⟨_, rfl⟩
 have br11 : r11 < Ed.P := (by rw [hr11]; exact sb_P _ _)
 obtain ⟨r12, hr12⟩ : ∃ r : Nat, r = sb Ed.P 0 r10 := ⟨_, rfl⟩
 have br12 : r12 < Ed.P := (by rw [hr12]; exact sb_P _ _)
 obtain ⟨r13, hr13⟩ : ∃ r : Bool, r = formedB r9 r1 false := ⟨_, rfl⟩
 obtain ⟨r14, hr14⟩ : ∃ r : Bool, r = formedB r10 r1 false := ⟨_, rfl⟩
 obtain ⟨r15, hr15⟩ : ∃ r : List Int, r = putN 32 (encN r10 r1 false) := ⟨_, rfl⟩
 obtain ⟨r16, hr16⟩ : ∃ r : Bool, r = decide (r15 = l) := ⟨_, rfl⟩
 have lo := low_mod (l := l) h hb
 have lo1 := lo.2.1
 have ey : r1 = y := by rw [hr1, if_pos lo.2.2, lo.1, hy]
 have hyN : r1 < N := by rw [hr1]; split; exact leN32_lt lo.2.2 lo.2.1; decide
 have bdd : dd < N := by rw [hdd]; decide +kernel
 have bee : ee < N := by rw [hee]; decide +kernel
 have bone : one1 < N := by rw [hone1]; decide
 have ew : r8 = wN y := by rw [hr8, hr7, hr6, hr5, hr4, hr3, ey, hdd, hone1]; rfl
 have e9 : r9 = A0 := by rw [hr9, ew, hee, hA0]; rfl
 have e10 : r10 = A1 := by rw [hr10, e9, hA0, hii, hA1]
 have e11 : r11 = sb Ed.P 0 A0 := by rw [hr11, e9]
 have e12 : r12 = sb Ed.P 0 A1 := by rw [hr12, e10]
 have hrun := calls_of_runS (P := Tryd.prog) (v := ⟨envI [0, (lm r1 0 : Int), (lm r1 1 : Int), (lm r1 2 : Int), (lm r1 3 : Int), 0, (lm r3 0 : Int), (lm r3 1 : Int), (lm r3 2 : Int), (lm r3 3 : Int), (lm one1 0 : Int), (lm one1 1 : Int), (lm one1 2 : Int), (lm one1 3 : Int), (lm r4 0 : Int), (lm r4 1 : Int), (lm r4 2 : Int), (lm r4 3 : Int), (lm dd 0 : Int), (lm dd 1 : Int), (lm dd 2 : Int), (lm dd 3 : Int), (lm r5 0 : Int), (lm r5 1 : Int), (lm r5 2 : Int), (lm r5 3 : Int), (lm one1 0 : Int), (lm one1 1 : Int), (lm one1 2 : Int), (lm one1 3 : Int), (lm r6 0 : Int), (lm r6 1 : Int), (lm r6 2 : Int), (lm r6 3 : Int), (lm r7 0 : Int), (lm r7 1 : Int), (lm r7 2 : Int), (lm r7 3 : Int), (lm r8 0 : Int), (lm r8 1 : Int), (lm r8 2 : Int), (lm r8 3 : Int), (lm ee 0 : Int), (lm ee 1 : Int), (lm ee 2 : Int), (lm ee 3 : Int), (lm r9 0 : Int), (lm r9 1 : Int), (lm r9 2 : Int), (lm r9 3 : Int), (lm r10 0 : Int), (lm r10 1 : Int), (lm r10 2 : Int), (lm r10 3 : Int), (lm r11 0 : Int), (lm r11 1 : Int), (lm r11 2 : Int), (lm r11 3 : Int), (lm r12 0 : Int), (lm r12 1 : Int), (lm r12 2 : Int), (lm r12 3 : Int)], envB [false, false, false, false, false, r2, false, false, false, false, false, false, false, false, false, false, false, false, false, false, false, false, false, false, false, false, false, false, false, false, false, false, false, false, false, false, false, false, false, false, false, false, false, false, false, false, false, false, false, false, false, false, false, false, false, false, false, false, false, false, false, false, r13, r14, false, r16], envL [l, [], [], [], [], [], [], [], [], [], [], [], [], [], [], [], [], [], [], [], [], [], [], [], [], [], [], [], [], [], [], [], [], [], [], [], [], [], [], [], [], [], [], [], [], [], [], [], [], [], [], [], [], [], [], [], [], [], [], [], [], [], [], [], r15], envP [], LE Ts, w⟩) (gs := []) (fuel := 3000) (nv := 1) (args := [(.imm (.lvar 0) none)]) (ora := [some false, none, some false, some true, some true]) (sums := []) (r := ⟨[(.val JD5), (.val JD48)], [.dec JD12 false, .dec JD34 true, .dec JD0 true, .dec JD0 true, .dec JD0 true, .dec JD0 true, .callS 13 [(.bytes JD29)] [(.val JD10), (.val JD53)], .call 43 [JD10, JD10] (.one JD8), .call 45 [] (.one JD28), .call 44 [JD8, JD28] (.one JD15), .call 48 [] (.one JD25), .call 43 [JD25, JD8] (.one JD43), .call 45 [] (.one JD42), .call 47 JD17 (.one JD23), .call 46 [JD6, JD23] (.one JD22), .call 43 [JD15, JD22] (.one JD21), .call 50 [] (.one JD20), .call 49 [JD6, JD21, JD20] (.one JD19), .call 43 JD1 (.one JD18), .call 44 [JD16, JD19] (.one JD40), .call 44 [JD16, JD18] (.one JD39), .call 20 [JD2] (.one JD50), .dec (.var 62) false, .call 20 [JD5] (.one (.sc (.bool (.var 63)))), .dec (.var 63) true, .callS 38 [(.val JD5)] [(.fresh 5 (.lvar 64) (.lit 0) (.len (.lvar 64)) true)], .callS 12 [(.bytes (.lvar 64)), (.bytes (.lvar 0))] [(.val JD54)], .dec (.var 65) true], []⟩) Tryd.func18 (by kernel_rfl)
  (evs_of ⟨?_, ?_, ?_, ?_, ?_, ?_, ?_, ?_, ?_, ?_, ?_, ?_, ?_, ?_, ?_, ?_, ?_, ?_, ?_, ?_, ?_, ?_, ?_, ?_, ?_, ?_, ?_, ?_, trivial⟩) (by simp) (GsOk.nil _) hK hG _ (⟨u0, _, rfl, ⟨hu0, fun b hb => by cases hb⟩, rfl⟩)
 ·exact runS_eq hrun (by (have eX : r10 = X := (by rw [hX, e10]); subst eX; rw [← ey]; rfl))
 ·exact dec_ne_f (a := l.length) (b := 32) rfl rfl (by omega)
 ·exact dec_le_t (a := l.length) (b := 1099511627776) rfl rfl (by omega)
 iterate 4 (exact dec_ixEdK (l := l) rfl (by omega))
 ·exact CallS.g (rlittle_s (l.set ((31 : Int)).toNat (Int.tmod (l.getD ((31 : Int)).toNat 0) (128 : Int))) (by first | assumption | (simp only [*]; first | exact putN_bytes _ _ | exact (putN_bytes _ _).reverse | (apply IsBytes.reverse; assumption))) hr1 hr2)
 ·exact rmul_g Ts r1 r1 (by first | assumption | exact ltP ‹_› | decide +kernel) (by first | assumption | exact ltP ‹_› | decide +kernel) hr3
 ·exact CallP.g (rone_c hone1)
 ·exact rsub_g Ts r3 one1 (by first | assumption | exact ltP ‹_› | decide +kernel) (by first | assumption | exact ltP ‹_› | decide +kernel) hr4
 ·exact CallP.g (rd_c hdd)
 ·exact rmul_g Ts dd r3 (by first | assumption | exact ltP ‹_› | decide +kernel) (by first | assumption | exact ltP ‹_› | decide +kernel) hr5
 ·exact CallP.g (rone_c hone1)
 ·exact radd_g Ts r5 one1 (by first | assumption | exact ltP ‹_› | decide +kernel) (by first | assumption | exact ltP ‹_› | decide +kernel) hr6
 ·exact finv_g Ts r6 (by first | assumption | exact ltP ‹_› | decide +kernel) hr7
 ·exact rmul_g Ts r4 r7 (by first | assumption | exact ltP ‹_› | decide +kernel) (by first | assumption | exact ltP ‹_› | decide +kernel) hr8
 ·exact reighth_g Ts hee
 ·exact fpow_g Ts r8 ee (by first | assumption | exact ltP ‹_› | decide +kernel) (by first | assumption | exact ltP ‹_› | decide +kernel) hr9
 ·(have hX := show CallG Tryd.prog (LE Ts) 43 #[vN r9, vN ii] (vN r10) from rmul_g Ts r9 ii (by first | assumption | exact ltP ‹_› | decide +kernel) (by rw [hii]; decide +kernel) hr10; rw [hii] at hX; exact hX)
 ·exact rsub_g Ts 0 r9 (by decide) (by first | assumption | exact ltP ‹_› | decide +kernel) hr11
 ·exact rsub_g Ts 0 r10 (by decide) (by first | assumption | exact ltP ‹_› | decide +kernel) hr12
 ·exact rformed_g Ts r9 r1 false (by first | assumption | exact ltP ‹_› | decide +kernel) (by first | assumption | exact ltP ‹_› | decide +kernel) hr13
 ·(show r13 = false; rw [hr13, e9, ey]; exact f0)
 ·exact rformed_g Ts r10 r1 false (by first | assumption | exact ltP ‹_› | decide +kernel) (by first | assumption | exact ltP ‹_› | decide +kernel) hr14
 ·(show r14 = true; rw [hr14, e10, ey]; exact f1)
 ·exact rencode_g Ts r10 r1 false (by first | assumption | exact ltP ‹_› | decide +kernel) (by first | assumption | exact ltP ‹_› | decide +kernel) hr15
 ·exact CallS.g (same_s r15 l (by first | assumption | omega | (simp; omega) | (simp [*, putN_length]; done)) hr16)
 ·(show r16 = true; rw [hr16, hr15, e10, ey, enc_same h hb hy hs (f1)]; exact decide_eq_true p1)
theorem rdec_5 (l : List Int) (Ts : TV) (h : l.length = 32) (hb : IsBytes l) (y s : Nat) (hy : y = leN l % 57896044618658097711785492504343953926634992332820282019728792003956564819968) (hs : s = leN l / 57896044618658097711785492504343953926634992332820282019728792003956564819968) (dd ee ii one1 X0 Y0 : Nat) (hdd : dd = Ed.dN) (hee : ee = Ed.E8) (hii : ii = iN) (hone1 : one1 = 1) (hX0 : X0 = 0) (hY0 : Y0 = 1) (A0 A1 : Nat) (hA0 : A0 = rtX (wN y)) (hA1 : A1 = rtX (wN y) * iN % Ed.P) (f0 : formedB A0 y false = false)(f1 : formedB A1 y false = true) (p1 : ¬ A1 % 2 = s) (g0 : formedB (sb Ed.P 0 A0) y false = false)(g1 : formedB (sb Ed.P 0 A1) y false = true) (q1 : sb Ed.P 0 A1 % 2 = s) (X : Nat) (hX : X = sb Ed.P 0 A1) : CallS Tryd.prog (LE Ts) 18 [.bytes l] [.val (vP X y false), .val (.bool true)] := by
 refine callS_of Tryd.func18 (by kernel_rfl) (by kernel_rfl) (fun w us hK hG ha => ?_)
 obtain ⟨u0, _, rfl, hu0, rfl⟩ := ha
 obtain ⟨r1, hr1⟩ : ∃ r : Nat, r = if (l.set ((31 : Int)).toNat (Int.tmod (l.getD ((31 : Int)).toNat 0) (128 : Int))).length = 32 then leN (l.set ((31 : Int)).toNat (Int.tmod (l.getD ((31 : Int)).toNat 0) (128 : Int))) else 0 := ⟨_, rfl⟩
 obtain ⟨r2, hr2⟩ : ∃ r : Bool, r = decide ((l.set ((31 : Int)).toNat (Int.tmod (l.getD ((31 : Int)).toNat 0) (128 : Int))).length = 32) := ⟨_, rfl⟩
 obtain ⟨r3, hr3⟩ : ∃ r : Nat, r = r1 * r1 % Ed.P := ⟨_, rfl⟩
 have br3 : r3 < Ed.P := (by rw [hr3]; exact Nat.mod_lt _ P_pos)
 obtain ⟨r4, hr4⟩ : ∃ r : Nat, r = sb Ed.P r3 one1 := ⟨_, rfl⟩
 have br4 : r4 < Ed.P := (by rw [hr4]; exact sb_P _ _)
 obtain ⟨r5, hr5⟩ : ∃ r : Nat, r = dd * r3 % Ed.P := ⟨_, rfl⟩
 have br5 : r5 < Ed.P := (by rw [hr5]; exact Nat.mod_lt _ P_pos)
 obtain ⟨r6, hr6⟩ : ∃ r : Nat, r = (r5 + one1) % Ed.P := ⟨_, rfl⟩
 have br6 : r6 < Ed.P := (by rw [hr6]; exact Nat.mod_lt _ P_pos)
 obtain ⟨r7, hr7⟩ : ∃ r : Nat, r = r6 ^ (Ed.P - 2) % Ed.P := ⟨_, rfl⟩
 have br7 : r7 < Ed.P := (by rw [hr7]; exact Nat.mod_lt _ P_pos)
 obtain ⟨r8, hr8⟩ : ∃ r : Nat, r = r4 * r7 % Ed.P := ⟨_, rfl⟩
 have br8 : r8 < Ed.P := (by rw [hr8]; exact Nat.mod_lt _ P_pos)
 obtain ⟨r9, hr9⟩ : ∃ r : Nat, r = r8 ^ ee % Ed.P := ⟨_, rfl⟩
 have br9 : r9 < Ed.P := (by rw [hr9]; exact Nat.mod_lt _ P_pos)
 obtain ⟨r10, hr10⟩ : ∃ r : Nat, r = r9 * ii % Ed.P := ⟨_, rfl⟩
 have br10 : r10 < Ed.P := (by rw [hr10]; exact Nat.mod_lt _ P_pos)
 obtain ⟨r11, hr11⟩ : ∃ r : Nat, r = sb Ed.P 0 r9 := ⟨_, rfl⟩
 have br11 : r11 < Ed.P := (by rw [hr11]; exact sb_P _ _)
 obtain ⟨r12, hr12⟩ : ∃ r : Nat, r = sb Ed.P 0 r10 := ⟨_, rfl⟩
 have br12 : r12 < Ed.P := (by rw [hr12]; exact sb_P _ _)
 obtain ⟨r13, hr13⟩ : ∃ r : Bool, r = formedB r9 r1 false := ⟨_, rfl⟩
 obtain ⟨r14, hr14⟩ : ∃ r : Bool, r = formedB r10 r1 false := ⟨_, rfl⟩
 obtain ⟨r15, hr15⟩ : ∃ r : List Int, r = putN 32 (encN r10 r1 false) := ⟨_, rfl⟩
 obtain ⟨r16, hr16⟩ : ∃ r : Bool, r = decide (r15 = l) := ⟨_, rfl⟩
 obtain ⟨r17, hr17⟩ : ∃ r : Bool, r = formedB r11 r1 false := ⟨_, rfl⟩
 obtain ⟨r18, hr18⟩ : ∃ r : Bool, r = formedB r12 r1 false := ⟨_, rfl⟩
 obtain ⟨r19, hr19⟩ : ∃ r : List Int, r = putN 32 (encN r12 r1 false) := ⟨_, rfl⟩
 obtain ⟨r20, hr20⟩ : ∃ r : Bool, r = decide (r19 = l) := ⟨_, rfl⟩
 have lo := low_mod (l := l) h hb
 have lo1 := lo.2.1
 have ey : r1 = y := by rw [hr1, if_pos lo.2.2, lo.1, hy]
 have hyN : r1 < N := by rw [hr1]; split; exact leN32_lt lo.2.2 lo.2.1; decide
 have bdd : dd < N := by rw [hdd]; decide +kernel
 have bee : ee < N := by rw [hee]; decide +kernel
 have bone : one1 < N := by rw [hone1]; decide
 have ew : r8 = wN y := by rw [hr8, hr7, hr6, hr5, hr4, hr3, ey, hdd, hone1]; rfl
 have e9 : r9 = A0 := by rw [hr9, ew, hee, hA0]; rfl
 have e10 : r10 = A1 := by rw [hr10, e9, hA0, hii, hA1]
 have e11 : r11 = sb Ed.P 0 A0 := by rw [hr11, e9]
 have e12 : r12 = sb Ed.P 0 A1 := by rw [hr12, e10]
 have hrun := calls_of_runS (P := Tryd.prog) (v := ⟨envI [0, (lm r1 0 : Int), (lm r1 1 : Int), (lm r1 2 : Int), (lm r1 3 : Int), 0, (lm r3 0 : Int), (lm r3 1 : Int), (lm r3 2 : Int), (lm r3 3 : Int), (lm one1 0 : Int), (lm one1 1 : Int), (lm one1 2 : Int), (lm one1 3 : Int), (lm r4 0 : Int), (lm r4 1 : Int), (lm r4 2 : Int), (lm r4 3 : Int), (lm dd 0 : Int), (lm dd 1 : Int), (lm dd 2 : Int), (lm dd 3 : Int), (lm r5 0 : Int), (lm r5 1 : Int), (lm r5 2 : Int), (lm r5 3 : Int), (lm one1 0 : Int), (lm one1 1 : Int), (lm one1 2 : Int), (lm one1 3 : Int), (lm r6 0 : Int), (lm r6 1 : Int), (lm r6 2 : Int), (lm r6 3 : Int), (lm r7 0 : Int), (lm r7 1 : Int), (lm r7 2 : Int), (lm r7 3 : Int), (lm r8 0 : Int), (lm r8 1 : Int), (lm r8 2 : Int), (lm r8 3 : Int), (lm ee 0 : Int), (lm ee 1 : Int), (lm ee 2 : Int), (lm ee 3 : Int), (lm r9 0 : Int), (lm r9 1 : Int), (lm r9 2 : Int), (lm r9 3 : Int), (lm r10 0 : Int), (lm r10 1 : Int), (lm r10 2 : Int), (lm r10 3 : Int), (lm r11 0 : Int), (lm r11 1 : Int), (lm r11 2 : Int), (lm r11 3 : Int), (lm r12 0 : Int), (lm r12 1 : Int), (lm r12 2 : Int), (lm r12 3 : Int)], envB [false, false, false, false, false, r2, false, false, false, false, false, false, false, false, false, false, false, false, false, false, false, false, false, false, false, false, false, false, false, false, false, false, false, false, false, false, false, false, false, false, false, false, false, false, false, false, false, false, false, false, false, false, false, false, false, false, false, false, false, false, false, false, r13, r14, false, r16, r17, r18, false, r20], envL [l, [], [], [], [], [], [], [], [], [], [], [], [], [], [], [], [], [], [], [], [], [], [], [], [], [], [], [], [], [], [], [], [], [], [], [], [], [], [], [], [], [], [], [], [], [], [], [], [], [], [], [], [], [], [], [], [], [], [], [], [], [], [], [], r15, [], [], [], r19], envP [], LE Ts, w⟩) (gs := []) (fuel := 3000) (nv := 1) (args := [(.imm (.lvar 0) none)]) (ora := [some false, none, some false, some true, some false, some false, some true, some true]) (sums := []) (r := ⟨[(.val JD14), (.val JD48)], [.dec JD12 false, .dec JD34 true, .dec JD0 true, .dec JD0 true, .dec JD0 true, .dec JD0 true, .callS 13 [(.bytes JD29)] [(.val JD10), (.val JD53)], .call 43 [JD10, JD10] (.one JD8), .call 45 [] (.one JD28), .call 44 [JD8, JD28] (.one JD15), .call 48 [] (.one JD25), .call 43 [JD25, JD8] (.one JD43), .call 45 [] (.one JD42), .call 47 JD17 (.one JD23), .call 46 [JD6, JD23] (.one JD22), .call 43 [JD15, JD22] (.one JD21), .call 50 [] (.one JD20), .call 49 [JD6, JD21, JD20] (.one JD19), .call 43 JD1 (.one JD18), .call 44 [JD16, JD19] (.one JD40), .call 44 [JD16, JD18] (.one JD39), .call 20 [JD2] (.one JD50), .dec (.var 62) false, .call 20 [JD5] (.one (.sc (.bool (.var 63)))), .dec (.var 63) true, .callS 38 [(.val JD5)] [(.fresh 5 (.lvar 64) (.lit 0) (.len (.lvar 64)) true)], .callS 12 [(.bytes (.lvar 64)), (.bytes (.lvar 0))] [(.val JD54)], .dec (.var 65) false, .call 20 [JD11] (.one (.sc (.bool (.var 66)))), .dec (.var 66) false, .call 20 [JD14] (.one (.sc (.bool (.var 67)))), .dec (.var 67) true, .callS 38 [(.val JD14)] [(.fresh 5 (.lvar 68) (.lit 0) (.len (.lvar 68)) true)], .callS 12 [(.bytes (.lvar 68)), (.bytes (.lvar 0))] [(.val (.sc (.bool (.var 69))))], .dec (.var 69) true], []⟩) Tryd.func18 (by kernel_rfl)
  (evs_of ⟨?_, ?_, ?_, ?_, ?_, ?_, ?_, ?_, ?_, ?_, ?_, ?_, ?_, ?_, ?_, ?_, ?_, ?_, ?_, ?_, ?_, ?_, ?_, ?_, ?_, ?_, ?_, ?_, ?_, ?_, ?_, ?_, ?_, ?_, ?_, trivial⟩) (by simp) (GsOk.nil _) hK hG _ (⟨u0, _, rfl, ⟨hu0, fun b hb => by cases hb⟩, rfl⟩)
 ·exact runS_eq hrun (by (have eX : r12 = X := (by rw [hX, e12]); subst eX; rw [← ey]; rfl))
 ·exact dec_ne_f (a := l.length) (b := 32) rfl rfl (by omega)
 ·exact dec_le_t (a := l.length) (b := 1099511627776) rfl rfl (by omega)
 iterate 4 (exact dec_ixEdK (l := l) rfl (by omega))
 ·exact CallS.g (rlittle_s (l.set ((31 : Int)).toNat (Int.tmod (l.getD ((31 : Int)).toNat 0) (128 : Int))) (by first | assumption | (simp only [*]; first | exact putN_bytes _ _ | exact (putN_bytes _ _).reverse | (apply IsBytes.reverse; assumption))) hr1 hr2)
 ·exact rmul_g Ts r1 r1 (by first | assumption | exact ltP ‹_› | decide +kernel) (by first | assumption | exact ltP ‹_› | decide +kernel) hr3
 ·exact CallP.g (rone_c hone1)
 ·exact rsub_g Ts r3 one1 (by first | assumption | exact ltP ‹_› | decide +kernel) (by first | assumption | exact ltP ‹_› | decide +kernel) hr4
 ·exact CallP.g (rd_c hdd)
 ·exact rmul_g Ts dd r3 (by first | assumption | exact ltP ‹_› | decide +kernel) (by first | assumption | exact ltP ‹_› | decide +kernel) hr5
 ·exact CallP.g (rone_c hone1)
 ·exact radd_g Ts r5 one1 (by first | assumption | exact ltP ‹_› | decide +kernel) (by first | assumption | exact ltP ‹_› | decide +kernel) hr6
 ·exact finv_g Ts r6 (by first | assumption | exact ltP ‹_› | decide +kernel) hr7
 ·exact rmul_g Ts r4 r7 (by first | assumption | exact ltP ‹_› | decide +kernel) (by first | assumption | exact ltP ‹_› | decide +kernel) hr8
 ·exact reighth_g Ts hee
 ·exact fpow_g Ts r8 ee (by first | assumption | exact ltP ‹_› | decide +kernel) (by first | assumption | exact ltP ‹_› | decide +kernel) hr9
 ·(have hX := show CallG Tryd.prog (LE Ts) 43 #[vN r9, vN ii] (vN r10) from rmul_g Ts r9 ii (by first | assumption | exact ltP ‹_› | decide +kernel) (by rw [hii]; decide +kernel) hr10; rw [hii] at hX; exact hX)
 ·exact rsub_g Ts 0 r9 (by decide) (by first | assumption | exact ltP ‹_› | decide +kernel) hr11
 ·exact rsub_g Ts 0 r10 (by decide) (by first | assumption | exact ltP ‹_› | decide +kernel) hr12
 ·exact rformed_g Ts r9 r1 false (by first | assumption | exact ltP ‹_› | decide +kernel) (by first | assumption | exact ltP ‹_› | decide +kernel) hr13
 ·(show r13 = false; rw [hr13, e9, ey]; exact f0)
 ·exact rformed_g Ts r10 r1 false (by first | assumption | exact ltP ‹_› | decide +kernel) (by first | assumption | exact ltP ‹_› | decide +kernel) hr14
 ·(show r14 = true; rw [hr14, e10, ey]; exact f1)
 ·exact rencode_g Ts r10 r1 false (by first | assumption | exact ltP ‹_› | decide +kernel) (by first | assumption | exact ltP ‹_› | decide +kernel) hr15
 ·exact CallS.g (same_s r15 l (by first | assumption | omega | (simp; omega) | (simp [*, putN_length]; done)) hr16)
 ·(show r16 = false; rw [hr16, hr15, e10, ey, enc_same h hb hy hs (f1)]; exact decide_eq_false p1)
 ·exact rformed_g Ts r11 r1 false (by first | assumption | exact ltP ‹_› | decide +kernel) (by first | assumption | exact ltP ‹_› | decide +kernel) hr17
 ·(show r17 = false; rw [hr17, e11, ey]; exact g0)
 ·exact rformed_g Ts r12 r1 false (by first | assumption | exact ltP ‹_› | decide +kernel) (by first | assumption | exact ltP ‹_› | decide +kernel) hr18
 ·(show r18 = true; rw [hr18, e12, ey]; exact g1)
 ·exact rencode_g Ts r12 r1 false (by first | assumption | exact ltP ‹_› | decide +kernel) (by first | assumption | exact ltP ‹_› | decide +kernel) hr19
 ·exact CallS.g (same_s r19 l (by first | assumption | omega | (simp; omega) | (simp [*, putN_length]; done)) hr20)
 ·(show r20 = true; rw [hr20, hr19, e12, ey, enc_same h hb hy hs (g1)]; exact decide_eq_true q1)
theorem rdec_6 (l : List Int) (Ts : TV) (h : l.length = 32) (hb : IsBytes l) (y s : Nat) (hy : y = leN l % 57896044618658097711785492504343953926634992332820282019728792003956564819968) (hs : s = leN l / 57896044618658097711785492504343953926634992332820282019728792003956564819968) (dd ee ii one1 X0 Y0 : Nat) (hdd : dd = Ed.dN) (hee : ee = Ed.E8) (hii : ii = iN) (hone1 : one1 = 1) (hX0 : X0 = 0) (hY0 : Y0 = 1) (A0 A1 : Nat) (hA0 : A0 = rtX (wN y)) (hA1 : A1 = rtX (wN y) * iN % Ed.P) (f0 : formedB A0 y false = false)(f1 : formedB A1 y false = false)(g0 : formedB (sb Ed.P 0 A0) y false = false)(g1 : formedB (sb Ed.P 0 A1) y false = false) : CallS Tryd.prog (LE Ts) 18 [.bytes l] [.val (vP X0 Y0 false), .val (.bool false)] := by
 refine callS_of Tryd.func18 (by kernel_rfl) (by kernel_rfl) (fun w us hK hG ha => ?_)
 obtain ⟨u0, _, rfl, hu0, rfl⟩ := ha
 obtain ⟨r1, hr1⟩ : ∃ r : Nat, r = if (l.set ((31 : Int)).toNat (Int.tmod (l.getD ((31 : Int)).toNat 0) (128 : Int))).length = 32 then leN (l.set ((31 : Int)).toNat (Int.tmod (l.getD ((31 : Int)).toNat 0) (128 : Int))) else 0 := ⟨_, rfl⟩
 obtain ⟨r2, hr2⟩ : ∃ r : Bool, r = decide ((l.set ((31 : Int)).toNat (Int.tmod (l.getD ((31 : Int)).toNat 0) (128 : Int))).length = 32) := ⟨_, rfl⟩
 obtain ⟨r3, hr3⟩ : ∃ r : Nat, r = r1 * r1 % Ed.P := ⟨_, rfl⟩
 have br3 : r3 < Ed.P := (by rw [hr3]; exact Nat.mod_lt _ P_pos)
 obtain ⟨r4, hr4⟩ : ∃ r : Nat, r = sb Ed.P r3 one1 := ⟨_, rfl⟩
 have br4 : r4 < Ed.P := (by rw [hr4]; exact sb_P _ _)
 obtain ⟨r5, hr5⟩ : ∃ r : Nat, r = dd * r3 % Ed.P := ⟨_, rfl⟩
 have br5 : r5 < Ed.P := (by rw [hr5]; exact Nat.mod_lt _ P_pos)
 obtain ⟨r6, hr6⟩ : ∃ r : Nat, r = (r5 + one1) % Ed.P := ⟨_, rfl⟩
 have br6 : r6 < Ed.P := (by rw [hr6]; exact Nat.mod_lt _ P_pos)
 obtain ⟨r7, hr7⟩ : ∃ r : Nat, r = r6 ^ (Ed.P - 2) % Ed.P := ⟨_, rfl⟩
 have br7 : r7 < Ed.P := (by rw [hr7]; exact Nat.mod_lt _ P_pos)
 obtain ⟨r8, hr8⟩ : ∃ r : Nat, r = r4 * r7 % Ed.P := ⟨_, rfl⟩
 have br8 : r8 < Ed.P := (by rw [hr8]; exact Nat.mod_lt _ P_pos)
 obtain ⟨r9, hr9⟩ : ∃ r : Nat, r = r8 ^ ee % Ed.P := ⟨_, rfl⟩
 have br9 : r9 < Ed.P := (by rw [hr9]; exact Nat.mod_lt _ P_pos)
 obtain ⟨r10, hr10⟩ : ∃ r : Nat, r = r9 * ii % Ed.P := ⟨_, rfl⟩
 have br10 : r10 < Ed.P := (by rw [hr10]; exact Nat.mod_lt _ P_pos)
 obtain ⟨r11, hr11⟩ : ∃ r : Nat, r = sb Ed.P 0 r9 := ⟨_, rfl⟩
 have br11 : r11 < Ed.P := (by rw [hr11]; exact sb_P _ _)
 obtain ⟨r12, hr12⟩ : ∃ r : Nat, r = sb Ed.P 0 r10 := ⟨_, rfl⟩
 have br12 : r12 < Ed.P := (by rw [hr12]; exact sb_P _ _)
 obtain ⟨r13, hr13⟩ : ∃ r : Bool, r = formedB r9 r1 false := ⟨_, rfl⟩
 obtain ⟨r14, hr14⟩ : ∃ r : Bool, r = formedB r10 r1 false := ⟨_, rfl⟩
 obtain ⟨r15, hr15⟩ : ∃ r : Bool, r = formedB r11 r1 false := ⟨_, rfl⟩
 obtain ⟨r16, hr16⟩ : ∃ r : Bool, r = formedB r12 r1 false := ⟨_, rfl⟩
 have lo := low_mod (l := l) h hb
 have lo1 := lo.2.1
 have ey : r1 = y := by rw [hr1, if_pos lo.2.2, lo.1, hy]
 have hyN : r1 < N := by rw [hr1]; split; exact leN32_lt lo.2.2 lo.2.1; decide
 have bdd : dd < N := by rw [hdd]; decide +kernel
 have bee : ee < N := by rw [hee]; decide +kernel
 have bone : one1 < N := by rw [hone1]; decide
 have ew : r8 = wN y := by rw [hr8, hr7, hr6, hr5, hr4, hr3, ey, hdd, hone1]; rfl
 have e9 : r9 = A0 := by rw [hr9, ew, hee, hA0]; rfl
 have e10 : r10 = A1 := by rw [hr10, e9, hA0, hii, hA1]
 have e11 : r11 = sb Ed.P 0 A0 := by rw [hr11, e9]
 have e12 : r12 = sb Ed.P 0 A1 := by rw [hr12, e10]
 have hrun := calls_of_runS (P := Tryd.prog) (v := ⟨envI [0, (lm r1 0 : Int), (lm r1 1 : Int), (lm r1 2 : Int), (lm r1 3 : Int), 0, (lm r3 0 : Int), (lm r3 1 : Int), (lm r3 2 : Int), (lm r3 3 : Int), (lm one1 0 : Int), (lm one1 1 : Int), (lm one1 2 : Int), (lm one1 3 : Int), (lm r4 0 : Int), (lm r4 1 : Int), (lm r4 2 : Int), (lm r4 3 : Int), (lm dd 0 : Int), (lm dd 1 : Int), (lm dd 2 : Int), (lm dd 3 : Int), (lm r5 0 : Int), (lm r5 1 : Int), (lm r5 2 : Int), (lm r5 3 : Int), (lm one1 0 : Int), (lm one1 1 : Int), (lm one1 2 : Int), (lm one1 3 : Int), (lm r6 0 : Int), (lm r6 1 : Int), (lm r6 2 : Int), (lm r6 3 : Int), (lm r7 0 : Int), (lm r7 1 : Int), (lm r7 2 : Int), (lm r7 3 : Int), (lm r8 0 : Int), (lm r8 1 : Int), (lm r8 2 : Int), (lm r8 3 : Int), (lm ee 0 : Int), (lm ee 1 : Int), (lm ee 2 : Int), (lm ee 3 : Int), (lm r9 0 : Int), (lm r9 1 : Int), (lm r9 2 : Int), (lm r9 3 : Int), (lm r10 0 : Int), (lm r10 1 : Int), (lm r10 2 : Int), (lm r10 3 : Int), (lm r11 0 : Int), (lm r11 1 : Int), (lm r11 2 : Int), (lm r11 3 : Int), (lm r12 0 : Int), (lm r12 1 : Int), (lm r12 2 : Int), (lm r12 3 : Int), 0, 0, 0, 0, (lm X0 0 : Int), (lm X0 1 : Int), (lm X0 2 : Int), (lm X0 3 : Int), (lm Y0 0 : Int), (lm Y0 1 : Int), (lm Y0 2 : Int), (lm Y0 3 : Int)], envB [false, false, false, false, false, r2, false, false, false, false, false, false, false, false, false, false, false, false, false, false, false, false, false, false, false, false, false, false, false, false, false, false, false, false, false, false, false, false, false, false, false, false, false, false, false, false, false, false, false, false, false, false, false, false, false, false, false, false, false, false, false, false, r13, r14, r15, r16, false, false, false, false, false, false, false, false, false], envL [l], envP [], LE Ts, w⟩) (gs := []) (fuel := 3000) (nv := 1) (args := [(.imm (.lvar 0) none)]) (ora := [some false, none, some false, some false, some false, some false]) (sums := []) (r := ⟨[(.val JD56), (.val JD46)], [.dec JD12 false, .dec JD34 true, .dec JD0 true, .dec JD0 true, .dec JD0 true, .dec JD0 true, .callS 13 [(.bytes JD29)] [(.val JD10), (.val JD53)], .call 43 [JD10, JD10] (.one JD8), .call 45 [] (.one JD28), .call 44 [JD8, JD28] (.one JD15), .call 48 [] (.one JD25), .call 43 [JD25, JD8] (.one JD43), .call 45 [] (.one JD42), .call 47 JD17 (.one JD23), .call 46 [JD6, JD23] (.one JD22), .call 43 [JD15, JD22] (.one JD21), .call 50 [] (.one JD20), .call 49 [JD6, JD21, JD20] (.one JD19), .call 43 JD1 (.one JD18), .call 44 [JD16, JD19] (.one JD40), .call 44 [JD16, JD18] (.one JD39), .call 20 [JD2] (.one JD50), .dec (.var 62) false, .call 20 [JD5] (.one (.sc (.bool (.var 63)))), .dec (.var 63) false, .call 20 [JD11] (.one JD61), .dec (.var 64) false, .call 20 [JD14] (.one JD54), .dec (.var 65) false, .call 42 [] (.one JD56)], []⟩) Tryd.func18 (by kernel_rfl)
  (evs_of ⟨?_, ?_, ?_, ?_, ?_, ?_, ?_, ?_, ?_, ?_, ?_, ?_, ?_, ?_, ?_, ?_, ?_, ?_, ?_, ?_, ?_, ?_, ?_, ?_, ?_, ?_, ?_, ?_, ?_, ?_, trivial⟩) (by simp) (GsOk.nil _) hK hG _ (⟨u0, _, rfl, ⟨hu0, fun b hb => by cases hb⟩, rfl⟩)
 ·exact runS_eq hrun (by rfl)
 ·exact dec_ne_f (a := l.length) (b := 32) rfl rfl (by omega)
 ·exact dec_le_t (a := l.length) (b := 1099511627776) rfl rfl (by omega)
 iterate 4 (exact dec_ixEdK (l := l) rfl (by omega))
 ·exact CallS.g (rlittle_s (l.set ((31 : Int)).toNat (Int.tmod (l.getD ((31 : Int)).toNat 0) (128 : Int))) (by first | assumption | (simp only [*]; first | exact putN_bytes _ _ | exact (putN_bytes _ _).reverse | (apply IsBytes.reverse; assumption))) hr1 hr2)
 ·exact rmul_g Ts r1 r1 (by first | assumption | exact ltP ‹_› | decide +kernel) (by first | assumption | exact ltP ‹_› | decide +kernel) hr3
 ·exact CallP.g (rone_c hone1)
 ·exact rsub_g Ts r3 one1 (by first | assumption | exact ltP ‹_› | decide +kernel) (by first | assumption | exact ltP ‹_› | decide +kernel) hr4
 ·exact CallP.g (rd_c hdd)
 ·exact rmul_g Ts dd r3 (by first | assumption | exact ltP ‹_› | decide +kernel) (by first | assumption | exact ltP ‹_› | decide +kernel) hr5
 ·exact CallP.g (rone_c hone1)
 ·exact radd_g Ts r5 one1 (by first | assumption | exact ltP ‹_› | decide +kernel) (by first | assumption | exact ltP ‹_› | decide +kernel) hr6
 ·exact finv_g Ts r6 (by first | assumption | exact ltP ‹_› | decide +kernel) hr7
 ·exact rmul_g Ts r4 r7 (by first | assumption | exact ltP ‹_› | decide +kernel) (by first | assumption | exact ltP ‹_› | decide +kernel) hr8
 ·exact reighth_g Ts hee
 ·exact fpow_g Ts r8 ee (by first | assumption | exact ltP ‹_› | decide +kernel) (by first | assumption | exact ltP ‹_› | decide +kernel) hr9
 ·(have hX := show CallG Tryd.prog (LE Ts) 43 #[vN r9, vN ii] (vN r10) from rmul_g Ts r9 ii (by first | assumption | exact ltP ‹_› | decide +kernel) (by rw [hii]; decide +kernel) hr10; rw [hii] at hX; exact hX)
 ·exact rsub_g Ts 0 r9 (by decide) (by first | assumption | exact ltP ‹_› | decide +kernel) hr11
 ·exact rsub_g Ts 0 r10 (by decide) (by first | assumption | exact ltP ‹_› | decide +kernel) hr12
 ·exact rformed_g Ts r9 r1 false (by first | assumption | exact ltP ‹_› | decide +kernel) (by first | assumption | exact ltP ‹_› | decide +kernel) hr13
 ·(show r13 = false; rw [hr13, e9, ey]; exact f0)
 ·exact rformed_g Ts r10 r1 false (by first | assumption | exact ltP ‹_› | decide +kernel) (by first | assumption | exact ltP ‹_› | decide +kernel) hr14
 ·(show r14 = false; rw [hr14, e10, ey]; exact f1)
 ·exact rformed_g Ts r11 r1 false (by first | assumption | exact ltP ‹_› | decide +kernel) (by first | assumption | exact ltP ‹_› | decide +kernel) hr15
 ·(show r15 = false; rw [hr15, e11, ey]; exact g0)
 ·exact rformed_g Ts r12 r1 false (by first | assumption | exact ltP ‹_› | decide +kernel) (by first | assumption | exact ltP ‹_› | decide +kernel) hr16
 ·(show r16 = false; rw [hr16, e12, ey]; exact g1)
 ·exact CallP.g (rnone_c hX0 hY0)
theorem two_roots {y : Nat} (hP : y < Ed.P) (h0 : formedB (rtX (wN y)) y false = true) (h1 : formedB (rtX (wN y) * iN % Ed.P) y false = true) : rtX (wN y) = 0 ∧ rtX (wN y) * iN % Ed.P = 0 ∧ wN y = 0 := by
 have e0 := (sq_eq (wN_lt y)).1 ((formed_sq (rtX_lt _) hP).1 h0)
 have e1 := (sq_eq (wN_lt y)).1 ((formed_sq (Nat.mod_lt _ P_pos) hP).1 h1)
 rw [Ed.phi_mod, Ed.phi_mul, phi_iN] at e1
 have hi := Ed.I_sq
 have hz : Ed.phi (rtX (wN y)) * Ed.phi (rtX (wN y)) * (1 + 1) = 0 := by
  generalize Ed.phi (rtX (wN y)) = e at *
  generalize Ed.phi (wN y) = v at *
  grind
 have hx : Ed.phi (rtX (wN y)) = 0 := by
  rcases Ed.F_mul_eq_zero hz with h2 | h2
  ·rcases Ed.F_mul_eq_zero h2 with h3 | h3 <;> exact h3
  ·exact absurd h2 Ed.two_ne
 have hx0 : rtX (wN y) = 0 := Ed.phi_inj (rtX_lt _) P_pos (hx.trans Ed.phi_zero.symm)
 refine ⟨hx0, by rw [hx0, Nat.zero_mul, Nat.zero_mod], ?_⟩
 rw [hx] at e0
 refine Ed.phi_inj (wN_lt y) P_pos ?_
 rw [← e0, Ed.phi_zero]
 exact Ed.zz
theorem other_zero {y : Nat} (hP : y < Ed.P) (h1 : formedB (rtX (wN y) * iN % Ed.P) y false = true) (hz : rtX (wN y) * iN % Ed.P = 0) : formedB (rtX (wN y)) y false = true := by
 have e1 := (formed_sq (Nat.mod_lt _ P_pos) hP).1 h1
 rw [hz] at e1
 have hx : Ed.phi (rtX (wN y)) = 0 := by
  have := congrArg Ed.phi hz
  rw [Ed.phi_mod, Ed.phi_mul, phi_iN, Ed.phi_zero] at this
  rcases Ed.F_mul_eq_zero this with h2 | h2
  ·exact h2
  ·exact absurd h2 Ed.I_ne
 have hx0 : rtX (wN y) = 0 := Ed.phi_inj (rtX_lt _) P_pos (hx.trans Ed.phi_zero.symm)
 refine (formed_sq (rtX_lt _) hP).2 ?_
 rw [hx0]
 exact e1
theorem formed_two {x y : Nat} (h : formedB x y false = true) : formedB (rtX (wN y)) y false = true ∨ formedB (rtX (wN y) * iN % Ed.P) y false = true := by
 have hP := y_lt h
 have h1 := formed_root h
 by_cases h2 : rtX (wN y) * rtX (wN y) % Ed.P = wN y
 ·exact .inl ((formed_sq (rtX_lt _) hP).2 h2)
 ·right
  refine (formed_sq (Nat.mod_lt _ P_pos) hP).2 ?_
  unfold rtN at h1
  rw [if_neg h2] at h1
  exact h1
theorem rdecode_g (Ts : TV) (l : List Int) (hb : IsBytes l) {X Y : Nat} {k : Bool} (hd : decL l = (X, Y, k)) : CallS Tryd.prog (LE Ts) 18 [.bytes l] [.val (vP X Y false), .val (.bool k)] := by
 by_cases h : l.length = 32
 ·obtain ⟨y, hy⟩ : ∃ y, y = leN l % 57896044618658097711785492504343953926634992332820282019728792003956564819968 := ⟨_, rfl⟩
  obtain ⟨s, hs⟩ : ∃ s, s = leN l / 57896044618658097711785492504343953926634992332820282019728792003956564819968 := ⟨_, rfl⟩
  have hs2 : s < 2 := by
   have := leN32_lt h hb
   have hN : N = 57896044618658097711785492504343953926634992332820282019728792003956564819968 + 57896044618658097711785492504343953926634992332820282019728792003956564819968 := by decide +kernel
   rw [hN] at this
   omega
  have some : ∀ x, formedB x y false = true → x % 2 = s → X = x ∧ Y = y ∧ k = true := by
   intro x h1 h2
   rw [decL_some h hy hs h1 h2] at hd
   simp only [Prod.mk.injEq] at hd
   exact ⟨hd.1.symm, hd.2.1.symm, hd.2.2.symm⟩
  have none : (∀ x, formedB x y false = true → x % 2 ≠ s) → X = 0 ∧ Y = 1 ∧ k = false := by
   intro h1
   rw [decL_none h hy hs h1] at hd
   simp only [Prod.mk.injEq] at hd
   exact ⟨hd.1.symm, hd.2.1.symm, hd.2.2.symm⟩
  by_cases hP : y < Ed.P
  ·have n0 := neg_formed (rtX_lt (wN y)) hP
   have n1 := neg_formed (x := rtX (wN y) * iN % Ed.P) (Nat.mod_lt _ P_pos) hP
   cases f0 : formedB (rtX (wN y)) y false with
   | true =>
    rw [f0] at n0
    by_cases p0 : rtX (wN y) % 2 = s
    ·obtain ⟨rfl, rfl, rfl⟩ := some _ f0 p0
     exact rdec_1 l Ts h hb _ s hy hs _ _ _ _ _ _ rfl rfl rfl rfl rfl rfl _ _ rfl rfl f0 p0 _ rfl
    ·cases f1 : formedB (rtX (wN y) * iN % Ed.P) y false with
     | false =>
      by_cases q0 : sb Ed.P 0 (rtX (wN y)) % 2 = s
      ·obtain ⟨rfl, rfl, rfl⟩ := some _ n0 q0
       exact rdec_2 l Ts h hb _ s hy hs _ _ _ _ _ _ rfl rfl rfl rfl rfl rfl _ _ rfl rfl f0 p0 f1 n0 q0 _ rfl
      ·exfalso
       by_cases hz : rtX (wN y) = 0
       ·rw [hz, Nat.zero_mul, Nat.zero_mod] at f1
        rw [hz] at f0
        rw [f0] at f1
        cases f1
       ·have := neg_par (rtX_lt (wN y)) hz
        omega
     | true =>
      obtain ⟨z0, z1, zw⟩ := two_roots hP f0 f1
      rw [f1] at n1
      have hs1 : ¬ 0 = s := by rw [z0] at p0; exact p0
      have hn : ∀ x, formedB x y false = true → x % 2 ≠ s := by
       intro x hx
       have e := (formed_sq (x_lt hx) hP).1 hx
       rw [zw] at e
       rcases sq_zero e with e | e
       ·rw [e]; exact hs1
       ·exact absurd (x_lt hx) (by omega)
      obtain ⟨rfl, rfl, rfl⟩ := none hn
      exact rdec_3 l Ts h hb y s hy hs _ _ _ _ _ _ rfl rfl rfl rfl rfl rfl _ _ rfl rfl f0 p0 f1 (by rw [z1]; exact hs1) n0 (by rw [z0, neg_zero]; exact hs1) n1 (by rw [z1, neg_zero]; exact hs1)
   | false =>
    rw [f0] at n0
    cases f1 : formedB (rtX (wN y) * iN % Ed.P) y false with
    | true =>
     rw [f1] at n1
     by_cases p1 : rtX (wN y) * iN % Ed.P % 2 = s
     ·obtain ⟨rfl, rfl, rfl⟩ := some _ f1 p1
      exact rdec_4 l Ts h hb _ s hy hs _ _ _ _ _ _ rfl rfl rfl rfl rfl rfl _ _ rfl rfl f0 f1 p1 _ rfl
     ·by_cases q1 : sb Ed.P 0 (rtX (wN y) * iN % Ed.P) % 2 = s
      ·obtain ⟨rfl, rfl, rfl⟩ := some _ n1 q1
       exact rdec_5 l Ts h hb _ s hy hs _ _ _ _ _ _ rfl rfl rfl rfl rfl rfl _ _ rfl rfl f0 f1 p1 n0 n1 q1 _ rfl
      ·exfalso
       by_cases hz : rtX (wN y) * iN % Ed.P = 0
       ·have := other_zero hP f1 hz
        rw [f0] at this
        cases this
       ·have := neg_par (x := rtX (wN y) * iN % Ed.P) (Nat.mod_lt _ P_pos) hz
        omega
    | false =>
     rw [f1] at n1
     have hn : ∀ x, formedB x y false = true → x % 2 ≠ s := by
      intro x hx
      rcases formed_two hx with e | e
      ·rw [f0] at e; cases e
      ·rw [f1] at e; cases e
     obtain ⟨rfl, rfl, rfl⟩ := none hn
     exact rdec_6 l Ts h hb y s hy hs _ _ _ _ _ _ rfl rfl rfl rfl rfl rfl _ _ rfl rfl f0 f1 n0 n1
  ·have hno : ∀ x, formedB x y false = false := fun x => Bool.eq_false_iff.2 fun e => hP (y_lt e)
   obtain ⟨rfl, rfl, rfl⟩ := none (fun x hx => absurd (y_lt hx) hP)
   exact rdec_6 l Ts h hb y s hy hs _ _ _ _ _ _ rfl rfl rfl rfl rfl rfl _ _ rfl rfl (hno _) (hno _) (hno _) (hno _)
 ·rw [decL_len h] at hd
  simp only [Prod.mk.injEq] at hd
  obtain ⟨rfl, rfl, rfl⟩ := hd
  exact rdec_len l Ts h _ _ rfl rfl
end Go.Proofs.YtkckmpnkacdchaaDoor
