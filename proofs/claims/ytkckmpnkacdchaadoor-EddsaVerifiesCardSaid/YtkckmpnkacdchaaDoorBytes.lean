/- Numbers as bytes: plain. -/
import Derived.Test.YtkckmpnkacdchaaDoorLm
import Derived.WalkKit
import Derived.Laws.BitsLemmas
import Derived.Laws.Bits64b
set_option linter.unusedVariables false
set_option linter.unusedSimpArgs false
namespace Go.Num
open Go
def putN : Nat → Nat → List Int
 | 0, _ => []
 | n + 1, x => ((x % 256 : Nat) : Int) :: putN n (x / 256)
def leN : List Int → Nat
 | [] => 0
 | b :: r => b.toNat + 256 * leN r
def IsBytes (l : List Int) : Prop := ∀ x ∈ l, 0 ≤ x ∧ x < 256
theorem putN_length : ∀ (n x : Nat), (putN n x).length = n
 | 0, _ => rfl
 | n + 1, x => by simp [putN, putN_length n]
theorem putN_bytes : ∀ (n x : Nat), IsBytes (putN n x)
 | 0, _ => by intro y hy; simp [putN] at hy
 | n + 1, x => by
  intro y hy
  simp only [putN, List.mem_cons] at hy
  rcases hy with rfl | hy
  ·have := Nat.mod_lt x (show 256 > 0 by decide); omega
  ·exact putN_bytes n _ y hy
theorem leN_putN : ∀ (n x : Nat), leN (putN n x) = x % 256 ^ n
 | 0, x => by simp [leN, putN, Nat.mod_one]
 | n + 1, x => by
  simp only [leN, putN, leN_putN n, Int.toNat_natCast]
  rw [Nat.pow_succ, Nat.mul_comm (256 ^ n) 256, Nat.mod_mul]
theorem leN_lt : ∀ {l : List Int}, IsBytes l → leN l < 256 ^ l.length
 | [], _ => by simp [leN]
 | b :: r, h => by
  have h1 := leN_lt (l := r) fun x hx => h x (by simp [hx])
  have h2 := h b (by simp)
  simp only [leN, List.length_cons, Nat.pow_succ]
  omega
theorem putN_leN : ∀ {l : List Int}, IsBytes l → putN l.length (leN l) = l
 | [], _ => rfl
 | b :: r, h => by
  have h2 := h b (by simp)
  simp only [leN, List.length_cons, putN]
  have e1 : (b.toNat + 256 * leN r) % 256 = b.toNat := by omega
  have e2 : (b.toNat + 256 * leN r) / 256 = leN r := by omega
  rw [e1, e2, putN_leN (l := r) fun x hx => h x (by simp [hx])]
  congr 1
  omega
theorem leN_inj {l m : List Int} (hl : IsBytes l) (hm : IsBytes m) (h : l.length = m.length) (e : leN l = leN m) : l = m := by
 rw [← putN_leN hl, ← putN_leN hm, h, e]
theorem leN_append : ∀ (l m : List Int), leN (l ++ m) = leN l + 256 ^ l.length * leN m
 | [], m => by simp [leN]
 | b :: r, m => by
  simp only [List.cons_append, leN, leN_append r m, List.length_cons, Nat.pow_succ, Nat.mul_add]
  rw [Nat.mul_comm (256 ^ r.length) 256, Nat.mul_assoc, Nat.add_assoc]
theorem IsBytes.append {l m : List Int} (h : IsBytes l) (k : IsBytes m) : IsBytes (l ++ m) := fun x hx => by
 rcases List.mem_append.1 hx with hx | hx
 ·exact h x hx
 ·exact k x hx
theorem IsBytes.reverse {l : List Int} (h : IsBytes l) : IsBytes l.reverse := fun x hx => h x (by simpa using hx)
theorem IsBytes.take {l : List Int} (h : IsBytes l) (n : Nat) : IsBytes (l.take n) := fun x hx => h x (List.mem_of_mem_take hx)
theorem IsBytes.drop {l : List Int} (h : IsBytes l) (n : Nat) : IsBytes (l.drop n) := fun x hx => h x (List.mem_of_mem_drop hx)
theorem IsBytes.get {l : List Int} (h : IsBytes l) {j : Nat} (hj : j < l.length) : 0 ≤ l.getD j 0 ∧ l.getD j 0 < 256 := by
 rw [List.getD_eq_getElem?_getD, List.getElem?_eq_getElem hj]
 exact h _ (List.getElem_mem hj)
theorem IsBytes.nil : IsBytes [] := fun x hx => by cases hx
theorem IsBytes.cons {x : Int} {l : List Int} (h : 0 ≤ x ∧ x < 256) (k : IsBytes l) : IsBytes (x :: l) := fun y hy => by
 rcases List.mem_cons.1 hy with rfl | hy
 ·exact h
 ·exact k y hy
theorem putN_eq : ∀ (n x : Nat), putN n x = (List.range n).map fun i => ((x / 256 ^ i % 256 : Nat) : Int)
 | 0, _ => rfl
 | n + 1, x => by
  rw [List.range_succ_eq_map]
  simp only [putN, List.map_cons, Nat.pow_zero, Nat.div_one, putN_eq n, List.map_map]
  congr 1
  apply List.map_congr_left
  intro i _
  simp only [Function.comp, Nat.succ_eq_add_one]
  rw [Nat.div_div_eq_div_mul, Nat.pow_succ, Nat.mul_comm 256 (256 ^ i)]
theorem lm_byte (x j k : Nat) (hk : k < 8) : lm x j / 256 ^ k % 256 = x / 256 ^ (8 * j + k) % 256 := by
 unfold lm
 have hB : B = 256 ^ k * 256 ^ (8 - k) := by rw [← Nat.pow_add, show k + (8 - k) = 8 by omega]; decide +kernel
 have hBj : B ^ j = 256 ^ (8 * j) := by rw [Nat.pow_mul, show (256 : Nat) ^ 8 = B by decide +kernel]
 rw [hB, Nat.mod_mul_right_div_self, Nat.mod_mod_of_dvd _ (Nat.dvd_of_pow_dvd (show 1 ≤ 8 - k by omega) (Nat.dvd_refl _)), Nat.div_div_eq_div_mul, ← hB, hBj, ← Nat.pow_add]
theorem byteP (x j k : Nat) (hk : k < 8) (s : Int) (hs : s = ((8 * k : Nat) : Int)) : IntKind.u8.wrap (Int.fdiv ((lm x j : Nat) : Int) (2 ^ (min s.toNat IntKind.u64.bits))) = ((x / 256 ^ (8 * j + k) % 256 : Nat) : Int) := by
 subst hs
 rw [Int.toNat_natCast, show min (8 * k) IntKind.u64.bits = 8 * k by show min (8 * k) 64 = 8 * k; omega]
 have e : Int.fdiv ((lm x j : Nat) : Int) (2 ^ (8 * k)) = ((lm x j / 256 ^ k : Nat) : Int) := by
  have : ((2 : Int) ^ (8 * k)) = ((256 ^ k : Nat) : Int) := by
   rw [show (256 : Nat) = 2 ^ 8 by rfl, ← Nat.pow_mul]; simp
  rw [this, Int.fdiv_eq_ediv_of_nonneg _ (Int.natCast_nonneg _), ← Int.natCast_ediv]
 rw [e, ← lm_byte x j k hk, IntKind.wrap_u8]
 omega
def qn : Nat → Int → Int
 | 0, a => a
 | n + 1, a => IntKind.u64.wrap (Int.tdiv (qn n a) 256)
theorem qn_eq {a : Nat} (h : a < B) : ∀ n, qn n (a : Int) = ((a / 256 ^ n : Nat) : Int)
 | 0 => by simp [qn]
 | n + 1 => by
  simp only [qn, qn_eq h n]
  have h1 : a / 256 ^ n / 256 ≤ a := Nat.le_trans (Nat.div_le_self _ _) (Nat.div_le_self _ _)
  have e : Int.tdiv ((a / 256 ^ n : Nat) : Int) 256 = ((a / 256 ^ n / 256 : Nat) : Int) := rfl
  have hB : B = 18446744073709551616 := rfl
  rw [e, Nat.pow_succ, ← Nat.div_div_eq_div_mul]
  generalize a / 256 ^ n / 256 = q at *
  simp [IntKind.wrap, IntKind.bits, IntKind.signed]
  omega
theorem byteR (x j k : Nat) (hk : k < 8) : IntKind.u8.wrap (Int.tmod (qn k ((lm x j : Nat) : Int)) 256) = ((x / 256 ^ (8 * j + k) % 256 : Nat) : Int) := by
 rw [qn_eq (lm_lt x j), ← lm_byte x j k hk, IntKind.wrap_u8]
 have e : Int.tmod ((lm x j / 256 ^ k : Nat) : Int) 256 = ((lm x j / 256 ^ k % 256 : Nat) : Int) := rfl
 rw [e]
 have := Nat.mod_lt (lm x j / 256 ^ k) (show 256 > 0 by decide)
 omega
theorem or_step (a c : Nat) (k : Nat) (hk : k < 8) (ha : a < 256 ^ k) (hc : c < 256) (s : Int) (hs : s = ((8 * k : Nat) : Int)) :
  Go.bits .or .u64 (a : Int) (IntKind.u64.wrap (IntKind.u64.wrap (c : Int) * 2 ^ (min s.toNat IntKind.u64.bits))) = ((a + 256 ^ k * c : Nat) : Int) := by
 subst hs
 rw [Int.toNat_natCast, show min (8 * k) IntKind.u64.bits = 8 * k by show min (8 * k) 64 = 8 * k; omega]
 have h1 : IntKind.u64.wrap (c : Int) = (c : Int) := by simp [IntKind.wrap, IntKind.bits, IntKind.signed]; omega
 have h2 : ((c : Int) * 2 ^ (8 * k)) = ((256 ^ k * c : Nat) : Int) := by
  have hp : (256 : Nat) ^ k = 2 ^ (8 * k) := by rw [show (256 : Nat) = 2 ^ 8 by rfl, ← Nat.pow_mul]
  rw [hp, Int.natCast_mul, Int.mul_comm]; simp
 have h3 : 256 ^ k * c < 256 ^ (k + 1) := by rw [Nat.pow_succ]; exact Nat.mul_lt_mul_of_pos_left hc (Nat.pow_pos (by decide))
 have h4 : 256 ^ (k + 1) ≤ 256 ^ 8 := Nat.pow_le_pow_right (by decide) (by omega)
 have h5 : (256 : Nat) ^ 8 = 18446744073709551616 := by decide +kernel
 have h6 : 256 ^ k ≤ 256 ^ 8 := Nat.pow_le_pow_right (by decide) (by omega)
 have hw : IntKind.u64.wrap ((256 ^ k * c : Nat) : Int) = ((256 ^ k * c : Nat) : Int) := by
  generalize 256 ^ k * c = z at *
  simp [IntKind.wrap, IntKind.bits, IntKind.signed]; omega
 rw [h1, h2, hw, bits_or_u64_nat a _ (by omega) (by omega)]
 congr 1
 have hp : (256 : Nat) ^ k = 2 ^ (8 * k) := by rw [show (256 : Nat) = 2 ^ 8 by rfl, ← Nat.pow_mul]
 rw [hp] at ha ⊢
 rw [Nat.or_comm, ← Nat.two_pow_add_eq_or_of_lt ha, Nat.add_comm]
theorem eight_step (a c : Nat) (h : a * 256 + c < B) (hc : c < 256) : IntKind.u64.wrap (IntKind.u64.wrap ((a : Int) * 256) + IntKind.u64.wrap (c : Int)) = ((c + 256 * a : Nat) : Int) := by
 have hB : B = 18446744073709551616 := rfl
 simp [IntKind.wrap, IntKind.bits, IntKind.signed]
 omega
theorem cut4 {l : List Int} (h : l.length = 32) : l = l.take 8 ++ ((l.drop 8).take 8 ++ ((l.drop 16).take 8 ++ (l.drop 24).take 8)) := by
 have e1 : (l.drop 24).take 8 = l.drop 24 := List.take_of_length_le (by simp; omega)
 have e2 : (l.drop 16).take 8 ++ l.drop 24 = l.drop 16 := by
  have := List.take_append_drop 8 (l.drop 16)
  rw [List.drop_drop] at this
  exact this
 have e3 : (l.drop 8).take 8 ++ l.drop 16 = l.drop 8 := by
  have := List.take_append_drop 8 (l.drop 8)
  rw [List.drop_drop] at this
  exact this
 rw [e1, e2, e3, List.take_append_drop]
theorem leN_num {l : List Int} (h : l.length = 32) : leN l = num (leN (l.take 8)) (leN ((l.drop 8).take 8)) (leN ((l.drop 16).take 8)) (leN ((l.drop 24).take 8)) := by
 have h1 := cut4 h
 have e : (256 : Nat) ^ 8 = B := by decide +kernel
 have l1 : (l.take 8).length = 8 := by simp; omega
 have l2 : ((l.drop 8).take 8).length = 8 := by simp; omega
 have l3 : ((l.drop 16).take 8).length = 8 := by simp; omega
 have h2 := congrArg leN h1
 rw [leN_append, leN_append, leN_append, l1, l2, l3, e] at h2
 unfold num
 rw [h2]
 simp only [Nat.mul_add, Nat.mul_assoc]
 omega
theorem leN8_lt {l : List Int} (h : IsBytes l) (hl : l.length = 8) : leN l < B := by
 have := leN_lt h
 rw [hl, show (256 : Nat) ^ 8 = B by decide +kernel] at this
 exact this
theorem leN_limbs {l : List Int} (h : l.length = 32) (hb : IsBytes l) : lm (leN l) 0 = leN (l.take 8) ∧ lm (leN l) 1 = leN ((l.drop 8).take 8) ∧ lm (leN l) 2 = leN ((l.drop 16).take 8) ∧ lm (leN l) 3 = leN ((l.drop 24).take 8) := by
 rw [leN_num h]
 have b0 := leN8_lt (hb.take 8) (by simp; omega)
 have b1 := leN8_lt ((hb.drop 8).take 8) (by simp; omega)
 have b2 := leN8_lt ((hb.drop 16).take 8) (by simp; omega)
 have b3 := leN8_lt ((hb.drop 24).take 8) (by simp; omega)
 exact ⟨lm0 b0, lm1 b0 b1, lm2 b0 b1 b2, lm3 b0 b1 b2 b3⟩
theorem leN32_lt {l : List Int} (h : l.length = 32) (hb : IsBytes l) : leN l < N := by
 have := leN_lt hb
 rw [h, show (256 : Nat) ^ 32 = N by decide +kernel] at this
 exact this
theorem putN32 {x : Nat} (h : x < N) : leN (putN 32 x) = x := by
 rw [leN_putN, show (256 : Nat) ^ 32 = N by decide +kernel, Nat.mod_eq_of_lt h]
theorem bytes_nat {l : List Int} (h : IsBytes l) {j : Nat} (hj : j < l.length) : ∃ c : Nat, c < 256 ∧ l.getD j 0 = (c : Int) := by
 have := h.get hj
 exact ⟨(l.getD j 0).toNat, by omega, by omega⟩
end Go.Num
namespace Go.Num
open Go
theorem take8 {l : List Int} (j : Nat) (h : 8 * j + 8 ≤ l.length) : (l.drop (8 * j)).take 8 = [l.getD (8 * j) 0, l.getD (8 * j + 1) 0, l.getD (8 * j + 2) 0, l.getD (8 * j + 3) 0, l.getD (8 * j + 4) 0, l.getD (8 * j + 5) 0, l.getD (8 * j + 6) 0, l.getD (8 * j + 7) 0] := by
 have key : ∀ i, i < 8 → l[8 * j + i]? = some (l.getD (8 * j + i) 0) := fun i hi => by
  rw [List.getD_eq_getElem?_getD, List.getElem?_eq_getElem (by omega)]; rfl
 apply List.ext_getElem?
 intro i
 rw [List.getElem?_take]
 by_cases hi : i < 8
 ·rw [if_pos hi, List.getElem?_drop, key i hi]
  obtain rfl | rfl | rfl | rfl | rfl | rfl | rfl | rfl : i = 0 ∨ i = 1 ∨ i = 2 ∨ i = 3 ∨ i = 4 ∨ i = 5 ∨ i = 6 ∨ i = 7 := by omega
  all_goals rfl
 ·rw [if_neg hi, List.getElem?_eq_none (by simp; omega)]
theorem limb_or {c0 c1 c2 c3 c4 c5 c6 c7 : Int} (h0 : 0 ≤ c0 ∧ c0 < 256) (h1 : 0 ≤ c1 ∧ c1 < 256) (h2 : 0 ≤ c2 ∧ c2 < 256) (h3 : 0 ≤ c3 ∧ c3 < 256) (h4 : 0 ≤ c4 ∧ c4 < 256) (h5 : 0 ≤ c5 ∧ c5 < 256) (h6 : 0 ≤ c6 ∧ c6 < 256) (h7 : 0 ≤ c7 ∧ c7 < 256) :
  Go.bits .or .u64 (Go.bits .or .u64 (Go.bits .or .u64 (Go.bits .or .u64 (Go.bits .or .u64 (Go.bits .or .u64 (Go.bits .or .u64 (Go.bits .or .u64 0 (IntKind.u64.wrap (IntKind.u64.wrap c0 * 2 ^ (min (0 : Int).toNat IntKind.u64.bits))))
   (IntKind.u64.wrap (IntKind.u64.wrap c1 * 2 ^ (min (8 : Int).toNat IntKind.u64.bits)))) (IntKind.u64.wrap (IntKind.u64.wrap c2 * 2 ^ (min (16 : Int).toNat IntKind.u64.bits)))) (IntKind.u64.wrap (IntKind.u64.wrap c3 * 2 ^ (min (24 : Int).toNat IntKind.u64.bits))))
   (IntKind.u64.wrap (IntKind.u64.wrap c4 * 2 ^ (min (32 : Int).toNat IntKind.u64.bits)))) (IntKind.u64.wrap (IntKind.u64.wrap c5 * 2 ^ (min (40 : Int).toNat IntKind.u64.bits)))) (IntKind.u64.wrap (IntKind.u64.wrap c6 * 2 ^ (min (48 : Int).toNat IntKind.u64.bits))))
   (IntKind.u64.wrap (IntKind.u64.wrap c7 * 2 ^ (min (56 : Int).toNat IntKind.u64.bits))) = ((leN [c0, c1, c2, c3, c4, c5, c6, c7] : Nat) : Int) := by
 obtain ⟨c0, rfl⟩ := Int.eq_ofNat_of_zero_le h0.1
 obtain ⟨c1, rfl⟩ := Int.eq_ofNat_of_zero_le h1.1
 obtain ⟨c2, rfl⟩ := Int.eq_ofNat_of_zero_le h2.1
 obtain ⟨c3, rfl⟩ := Int.eq_ofNat_of_zero_le h3.1
 obtain ⟨c4, rfl⟩ := Int.eq_ofNat_of_zero_le h4.1
 obtain ⟨c5, rfl⟩ := Int.eq_ofNat_of_zero_le h5.1
 obtain ⟨c6, rfl⟩ := Int.eq_ofNat_of_zero_le h6.1
 obtain ⟨c7, rfl⟩ := Int.eq_ofNat_of_zero_le h7.1
 have e0 := or_step 0 c0 0 (by decide) (by decide) (by omega) 0 rfl
 have e1 := or_step (0 + 256 ^ 0 * c0) c1 1 (by decide) (by omega) (by omega) 8 rfl
 have e2 := or_step (0 + 256 ^ 0 * c0 + 256 ^ 1 * c1) c2 2 (by decide) (by omega) (by omega) 16 rfl
 have e3 := or_step (0 + 256 ^ 0 * c0 + 256 ^ 1 * c1 + 256 ^ 2 * c2) c3 3 (by decide) (by omega) (by omega) 24 rfl
 have e4 := or_step (0 + 256 ^ 0 * c0 + 256 ^ 1 * c1 + 256 ^ 2 * c2 + 256 ^ 3 * c3) c4 4 (by decide) (by omega) (by omega) 32 rfl
 have e5 := or_step (0 + 256 ^ 0 * c0 + 256 ^ 1 * c1 + 256 ^ 2 * c2 + 256 ^ 3 * c3 + 256 ^ 4 * c4) c5 5 (by decide) (by omega) (by omega) 40 rfl
 have e6 := or_step (0 + 256 ^ 0 * c0 + 256 ^ 1 * c1 + 256 ^ 2 * c2 + 256 ^ 3 * c3 + 256 ^ 4 * c4 + 256 ^ 5 * c5) c6 6 (by decide) (by omega) (by omega) 48 rfl
 have e7 := or_step (0 + 256 ^ 0 * c0 + 256 ^ 1 * c1 + 256 ^ 2 * c2 + 256 ^ 3 * c3 + 256 ^ 4 * c4 + 256 ^ 5 * c5 + 256 ^ 6 * c6) c7 7 (by decide) (by omega) (by omega) 56 rfl
 have z : (0 : Int) = ((0 : Nat) : Int) := rfl
 rw [show Go.bits .or .u64 (0 : Int) (IntKind.u64.wrap (IntKind.u64.wrap (c0 : Int) * 2 ^ (min (0 : Int).toNat IntKind.u64.bits))) = _ from e0, e1, e2, e3, e4, e5, e6, e7]
 simp only [leN, Int.toNat_natCast]
 omega
theorem limb_at {l : List Int} (h : IsBytes l) (j : Nat) (hj : 8 * j + 8 ≤ l.length) {i0 i1 i2 i3 i4 i5 i6 i7 : Int} (e0 : i0 = ((8 * j : Nat) : Int)) (e1 : i1 = ((8 * j + 1 : Nat) : Int)) (e2 : i2 = ((8 * j + 2 : Nat) : Int)) (e3 : i3 = ((8 * j + 3 : Nat) : Int)) (e4 : i4 = ((8 * j + 4 : Nat) : Int)) (e5 : i5 = ((8 * j + 5 : Nat) : Int)) (e6 : i6 = ((8 * j + 6 : Nat) : Int)) (e7 : i7 = ((8 * j + 7 : Nat) : Int)) {x : Nat} (hx : x = leN ((l.drop (8 * j)).take 8)) :
  Go.bits .or .u64 (Go.bits .or .u64 (Go.bits .or .u64 (Go.bits .or .u64 (Go.bits .or .u64 (Go.bits .or .u64 (Go.bits .or .u64 (Go.bits .or .u64 0 (IntKind.u64.wrap (IntKind.u64.wrap (l.getD i0.toNat 0) * 2 ^ (min (0 : Int).toNat IntKind.u64.bits))))
   (IntKind.u64.wrap (IntKind.u64.wrap (l.getD i1.toNat 0) * 2 ^ (min (8 : Int).toNat IntKind.u64.bits)))) (IntKind.u64.wrap (IntKind.u64.wrap (l.getD i2.toNat 0) * 2 ^ (min (16 : Int).toNat IntKind.u64.bits)))) (IntKind.u64.wrap (IntKind.u64.wrap (l.getD i3.toNat 0) * 2 ^ (min (24 : Int).toNat IntKind.u64.bits))))
   (IntKind.u64.wrap (IntKind.u64.wrap (l.getD i4.toNat 0) * 2 ^ (min (32 : Int).toNat IntKind.u64.bits)))) (IntKind.u64.wrap (IntKind.u64.wrap (l.getD i5.toNat 0) * 2 ^ (min (40 : Int).toNat IntKind.u64.bits)))) (IntKind.u64.wrap (IntKind.u64.wrap (l.getD i6.toNat 0) * 2 ^ (min (48 : Int).toNat IntKind.u64.bits))))
   (IntKind.u64.wrap (IntKind.u64.wrap (l.getD i7.toNat 0) * 2 ^ (min (56 : Int).toNat IntKind.u64.bits))) = ((x : Nat) : Int) := by
 subst e0 e1 e2 e3 e4 e5 e6 e7
 simp only [Int.toNat_natCast]
 rw [hx, take8 j hj]
 exact limb_or (h.get (by omega)) (h.get (by omega)) (h.get (by omega)) (h.get (by omega)) (h.get (by omega)) (h.get (by omega)) (h.get (by omega)) (h.get (by omega))
theorem first_diff : ∀ {l m : List Int}, l.length = m.length → l ≠ m → ∃ j, j < l.length ∧ (∀ i, i < j → l.getD i 0 = m.getD i 0) ∧ l.getD j 0 ≠ m.getD j 0
 | [], [], _, h => absurd rfl h
 | a :: l, b :: m, hl, h => by
  by_cases e : a = b
  ·subst e
   obtain ⟨j, h1, h2, h3⟩ := first_diff (l := l) (m := m) (by simpa using hl) (fun e => h (by rw [e]))
   refine ⟨j + 1, by simp; omega, fun i hi => ?_, by simpa using h3⟩
   cases i with
   | zero => rfl
   | succ i => simpa using h2 i (by omega)
  ·exact ⟨0, by simp, fun i hi => by omega, by simpa using e⟩
 | [], _ :: _, h, _ => by simp at h
 | _ :: _, [], h, _ => by simp at h
theorem eight_eq {l : List Int} (h : IsBytes l) (hl : l.length = 8) {i0 i1 i2 i3 i4 i5 i6 i7 : Int} (e0 : i0 = 0) (e1 : i1 = 1) (e2 : i2 = 2) (e3 : i3 = 3) (e4 : i4 = 4) (e5 : i5 = 5) (e6 : i6 = 6) (e7 : i7 = 7) {x : Nat} (hx : x = leN l) :
  IntKind.u64.wrap (IntKind.u64.wrap (IntKind.u64.wrap (IntKind.u64.wrap (IntKind.u64.wrap (IntKind.u64.wrap (IntKind.u64.wrap (IntKind.u64.wrap (IntKind.u64.wrap (IntKind.u64.wrap (IntKind.u64.wrap (IntKind.u64.wrap (IntKind.u64.wrap (IntKind.u64.wrap (IntKind.u64.wrap (0 + IntKind.u64.wrap (l.getD i7.toNat 0)) * 256) + IntKind.u64.wrap (l.getD i6.toNat 0)) * 256) + IntKind.u64.wrap (l.getD i5.toNat 0)) * 256) + IntKind.u64.wrap (l.getD i4.toNat 0)) * 256) + IntKind.u64.wrap (l.getD i3.toNat 0)) * 256) + IntKind.u64.wrap (l.getD i2.toNat 0)) * 256) + IntKind.u64.wrap (l.getD i1.toNat 0)) * 256) + IntKind.u64.wrap (l.getD i0.toNat 0)) = ((x : Nat) : Int) := by
 subst e0 e1 e2 e3 e4 e5 e6 e7
 have ht := take8 (l := l) 0 (by omega)
 rw [Nat.mul_zero, List.drop_zero, List.take_of_length_le (by omega)] at ht
 have ht8 := congrArg leN ht
 rw [hx, ht8]
 have g : ∀ j, j < 8 → ∃ c : Nat, c < 256 ∧ l.getD j 0 = (c : Int) := fun j hj => bytes_nat h (by omega)
 obtain ⟨c0, b0, q0⟩ := g 0 (by omega)
 obtain ⟨c1, b1, q1⟩ := g 1 (by omega)
 obtain ⟨c2, b2, q2⟩ := g 2 (by omega)
 obtain ⟨c3, b3, q3⟩ := g 3 (by omega)
 obtain ⟨c4, b4, q4⟩ := g 4 (by omega)
 obtain ⟨c5, b5, q5⟩ := g 5 (by omega)
 obtain ⟨c6, b6, q6⟩ := g 6 (by omega)
 obtain ⟨c7, b7, q7⟩ := g 7 (by omega)
 simp only [show (0 : Int).toNat = 0 from rfl, show (1 : Int).toNat = 1 from rfl, show (2 : Int).toNat = 2 from rfl, show (3 : Int).toNat = 3 from rfl, show (4 : Int).toNat = 4 from rfl, show (5 : Int).toNat = 5 from rfl, show (6 : Int).toNat = 6 from rfl, show (7 : Int).toNat = 7 from rfl, Nat.zero_add, q0, q1, q2, q3, q4, q5, q6, q7]
 have hB : B = 18446744073709551616 := rfl
 have e0 : IntKind.u64.wrap (0 + IntKind.u64.wrap (c7 : Int)) = ((c7 : Nat) : Int) := by simp [IntKind.wrap, IntKind.bits, IntKind.signed]; omega
 rw [e0, eight_step c7 c6 (by omega) b6, eight_step _ c5 (by omega) b5, eight_step _ c4 (by omega) b4, eight_step _ c3 (by omega) b3, eight_step _ c2 (by omega) b2, eight_step _ c1 (by omega) b1, eight_step _ c0 (by omega) b0]
 simp only [leN, Int.toNat_natCast]
 omega
theorem leN_limb4 {l : List Int} (h : l.length = 32) (hb : IsBytes l) (j : Nat) (hj : j < 4) : lm (leN l) j = leN ((l.drop (8 * j)).take 8) := by
 obtain ⟨h0, h1, h2, h3⟩ := leN_limbs h hb
 obtain rfl | rfl | rfl | rfl : j = 0 ∨ j = 1 ∨ j = 2 ∨ j = 3 := by omega
 ·exact h0
 ·exact h1
 ·exact h2
 ·exact h3
theorem leN_limb8 {l : List Int} (h : l.length = 64) (hb : IsBytes l) (j : Nat) (hj : j < 8) : lm (leN l) j = leN ((l.drop (8 * j)).take 8) := by
 unfold lm
 have e8 : (256 : Nat) ^ 8 = B := by decide +kernel
 have h1 : leN l = leN (l.take (8 * j)) + B ^ j * leN (l.drop (8 * j)) := by
  have := leN_append (l.take (8 * j)) (l.drop (8 * j))
  rw [List.take_append_drop, List.length_take, Nat.min_eq_left (by omega), Nat.pow_mul, e8] at this
  exact this
 have h2 : leN (l.take (8 * j)) < B ^ j := by
  have := leN_lt (hb.take (8 * j))
  rw [List.length_take, Nat.min_eq_left (by omega), Nat.pow_mul, e8] at this
  exact this
 have h3 : leN (l.drop (8 * j)) = leN ((l.drop (8 * j)).take 8) + B * leN ((l.drop (8 * j)).drop 8) := by
  have := leN_append ((l.drop (8 * j)).take 8) ((l.drop (8 * j)).drop 8)
  rw [List.take_append_drop, List.length_take, Nat.min_eq_left (by simp; omega), e8] at this
  exact this
 have h4 : leN ((l.drop (8 * j)).take 8) < B := leN8_lt ((hb.drop _).take 8) (by simp; omega)
 rw [h1, Nat.add_mul_div_left _ _ (Nat.pow_pos (by decide)), Nat.div_eq_of_lt h2, Nat.zero_add, h3, Nat.add_mul_mod_self_left, Nat.mod_eq_of_lt h4]
end Go.Num
