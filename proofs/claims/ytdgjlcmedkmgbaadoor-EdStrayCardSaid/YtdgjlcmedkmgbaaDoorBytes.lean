/- Numbers as bytes: plain. -/
import Derived.Test.YtdgjlcmedkmgbaaDoorLm
import Derived.WalkKit
import Derived.Laws.BitsLemmas
import Derived.Laws.Bits64b
set_option linter.unusedVariables false
set_option linter.unusedSimpArgs false
namespace Go.Num
open Go
/-- a number's bytes, the least first -/
def putN : Nat → Nat → List Int
  | 0, _ => []
  | n + 1, x => ((x % 256 : Nat) : Int) :: putN n (x / 256)
/-- the number of bytes, the least first -/
def leN : List Int → Nat
  | [] => 0
  | b :: r => b.toNat + 256 * leN r
def IsBytes (l : List Int) : Prop := ∀ x ∈ l, 0 ≤ x ∧ x < 256
theorem putN_length : ∀ (n x : Nat), (putN n x).length = n
  | 0, _ => rfl
  | n + 1, x => by simp [putN, putN_length n]
theorem putN_bytes : ∀ (n x : Nat), IsBytes (putN n x)
  | 0, _ => by intro y hy; simp [putN] at hy
  | n + 1, x => by
    intro y hy
    simp only [putN, List.mem_cons] at hy
    rcases hy with rfl | hy
    · have := Nat.mod_lt x (show 256 > 0 by decide); omega
    · exact putN_bytes n _ y hy
theorem leN_putN : ∀ (n x : Nat), leN (putN n x) = x % 256 ^ n
  | 0, x => by simp [leN, putN, Nat.mod_one]
  | n + 1, x => by
    simp only [leN, putN, leN_putN n, Int.toNat_natCast]
    rw [Nat.pow_succ, Nat.mul_comm (256 ^ n) 256, Nat.mod_mul]
theorem leN_lt : ∀ {l : List Int}, IsBytes l → leN l < 256 ^ l.length
  | [], _ => by simp [leN]
  | b :: r, h => by
    have h1 := leN_lt (l := r) fun x hx => h x (by simp [hx])
    have h2 := h b (by simp)
    simp only [leN, List.length_cons, Nat.pow_succ]
    omega
theorem putN_leN : ∀ {l : List Int}, IsBytes l → putN l.length (leN l) = l
  | [], _ => rfl
  | b :: r, h => by
    have h2 := h b (by simp)
    simp only [leN, List.length_cons, putN]
    have e1 : (b.toNat + 256 * leN r) % 256 = b.toNat := by omega
    have e2 : (b.toNat + 256 * leN r) / 256 = leN r := by omega
    rw [e1, e2, putN_leN (l := r) fun x hx => h x (by simp [hx])]
    congr 1
    omega
theorem leN_inj {l m : List Int} (hl : IsBytes l) (hm : IsBytes m) (h : l.length = m.length) (e : leN l = leN m) : l = m := by
  rw [← putN_leN hl, ← putN_leN hm, h, e]
theorem leN_append : ∀ (l m : List Int), leN (l ++ m) = leN l + 256 ^ l.length * leN m
  | [], m => by simp [leN]
  | b :: r, m => by
    simp only [List.cons_append, leN, leN_append r m, List.length_cons, Nat.pow_succ, Nat.mul_add]
    rw [Nat.mul_comm (256 ^ r.length) 256, Nat.mul_assoc, Nat.add_assoc]
theorem IsBytes.append {l m : List Int} (h : IsBytes l) (k : IsBytes m) : IsBytes (l ++ m) := fun x hx => by
  rcases List.mem_append.1 hx with hx | hx
  · exact h x hx
  · exact k x hx
theorem IsBytes.reverse {l : List Int} (h : IsBytes l) : IsBytes l.reverse := fun x hx => h x (by simpa using hx)
theorem IsBytes.take {l : List Int} (h : IsBytes l) (n : Nat) : IsBytes (l.take n) := fun x hx => h x (List.mem_of_mem_take hx)
theorem IsBytes.drop {l : List Int} (h : IsBytes l) (n : Nat) : IsBytes (l.drop n) := fun x hx => h x (List.mem_of_mem_drop hx)
theorem IsBytes.get {l : List Int} (h : IsBytes l) {j : Nat} (hj : j < l.length) : 0 ≤ l.getD j 0 ∧ l.getD j 0 < 256 := by
  rw [List.getD_eq_getElem?_getD, List.getElem?_eq_getElem hj]
  exact h _ (List.getElem_mem hj)
theorem IsBytes.nil : IsBytes [] := fun x hx => by cases hx
theorem IsBytes.cons {x : Int} {l : List Int} (h : 0 ≤ x ∧ x < 256) (k : IsBytes l) : IsBytes (x :: l) := fun y hy => by
  rcases List.mem_cons.1 hy with rfl | hy
  · exact h
  · exact k y hy
theorem putN_eq : ∀ (n x : Nat), putN n x = (List.range n).map fun i => ((x / 256 ^ i % 256 : Nat) : Int)
  | 0, _ => rfl
  | n + 1, x => by
    rw [List.range_succ_eq_map]
    simp only [putN, List.map_cons, Nat.pow_zero, Nat.div_one, putN_eq n, List.map_map]
    congr 1
    apply List.map_congr_left
    intro i _
    simp only [Function.comp, Nat.succ_eq_add_one]
    rw [Nat.div_div_eq_div_mul, Nat.pow_succ, Nat.mul_comm 256 (256 ^ i)]
/-- a byte of a limb -/
theorem lm_byte (x j k : Nat) (hk : k < 8) : lm x j / 256 ^ k % 256 = x / 256 ^ (8 * j + k) % 256 := by
  unfold lm
  have hB : B = 256 ^ k * 256 ^ (8 - k) := by rw [← Nat.pow_add, show k + (8 - k) = 8 by omega]; decide +kernel
  have hBj : B ^ j = 256 ^ (8 * j) := by rw [Nat.pow_mul, show (256 : Nat) ^ 8 = B by decide +kernel]
  rw [hB, Nat.mod_mul_right_div_self, Nat.mod_mod_of_dvd _ (Nat.dvd_of_pow_dvd (show 1 ≤ 8 - k by omega) (Nat.dvd_refl _)), Nat.div_div_eq_div_mul, ← hB, hBj, ← Nat.pow_add]
theorem byteP (x j k : Nat) (hk : k < 8) (s : Int) (hs : s = ((8 * k : Nat) : Int)) : IntKind.u8.wrap (Int.fdiv ((lm x j : Nat) : Int) (2 ^ (min s.toNat IntKind.u64.bits))) = ((x / 256 ^ (8 * j + k) % 256 : Nat) : Int) := by
  subst hs
  rw [Int.toNat_natCast, show min (8 * k) IntKind.u64.bits = 8 * k by show min (8 * k) 64 = 8 * k; omega]
  have e : Int.fdiv ((lm x j : Nat) : Int) (2 ^ (8 * k)) = ((lm x j / 256 ^ k : Nat) : Int) := by
    have : ((2 : Int) ^ (8 * k)) = ((256 ^ k : Nat) : Int) := by
      rw [show (256 : Nat) = 2 ^ 8 by rfl, ← Nat.pow_mul]; simp
    rw [this, Int.fdiv_eq_ediv_of_nonneg _ (Int.natCast_nonneg _), ← Int.natCast_ediv]
  rw [e, ← lm_byte x j k hk, IntKind.wrap_u8]
  omega
/-! ### limbs of bytes -/
theorem putN32 {x : Nat} (h : x < N) : leN (putN 32 x) = x := by
  rw [leN_putN, show (256 : Nat) ^ 32 = N by decide +kernel, Nat.mod_eq_of_lt h]
theorem bytes_nat {l : List Int} (h : IsBytes l) {j : Nat} (hj : j < l.length) : ∃ c : Nat, c < 256 ∧ l.getD j 0 = (c : Int) := by
  have := h.get hj
  exact ⟨(l.getD j 0).toNat, by omega, by omega⟩
end Go.Num
namespace Go.Num
open Go
end Go.Num
