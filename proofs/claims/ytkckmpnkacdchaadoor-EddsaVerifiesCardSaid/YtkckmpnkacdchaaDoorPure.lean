set_option linter.unusedVariables false
set_option linter.unusedSimpArgs false
namespace Go.Num
def IsPrime (p : Nat) : Prop := 1 < p ∧ ∀ m, m ∣ p → m = 1 ∨ m = p
theorem IsPrime.two_le {p : Nat} (h : IsPrime p) : 2 ≤ p := h.1
theorem IsPrime.coprime {p a : Nat} (h : IsPrime p) (ha : ¬ p ∣ a) : Nat.gcd a p = 1 := by
 rcases h.2 _ (Nat.gcd_dvd_right a p) with h1 | h1
 ·exact h1
 ·exact absurd (h1 ▸ Nat.gcd_dvd_left a p) ha
theorem IsPrime.dvd_mul {p a b : Nat} (h : IsPrime p) (hd : p ∣ a * b) : p ∣ a ∨ p ∣ b := by
 by_cases ha : p ∣ a
 ·exact .inl ha
 ·right
  have hc : Nat.Coprime p a := by unfold Nat.Coprime; rw [Nat.gcd_comm]; exact h.coprime ha
  exact hc.dvd_of_dvd_mul_left hd
theorem IsPrime.not_dvd_one {p : Nat} (h : IsPrime p) : ¬ p ∣ 1 := by
 intro hd
 have := Nat.le_of_dvd (by omega) hd
 have := h.1
 omega
theorem exists_prime_dvd (n : Nat) (h : 1 < n) : ∃ q, IsPrime q ∧ q ∣ n := by
 induction n using Nat.strongRecOn with
 | _ n ih =>
  by_cases hp : IsPrime n
  ·exact ⟨n, hp, Nat.dvd_refl n⟩
  ·have : ∃ m, m ∣ n ∧ m ≠ 1 ∧ m ≠ n := by
    apply Classical.byContradiction
    intro hne
    apply hp
    refine ⟨h, fun m hm => ?_⟩
    by_cases h1 : m = 1
    ·exact .inl h1
    ·right
     apply Classical.byContradiction
     intro h2
     exact hne ⟨m, hm, h1, h2⟩
   obtain ⟨m, hm, h1, h2⟩ := this
   have hle := Nat.le_of_dvd (by omega) hm
   have hpos : 0 < m := Nat.pos_of_dvd_of_pos hm (by omega)
   obtain ⟨q, hq, hqd⟩ := ih m (by omega) (by omega)
   exact ⟨q, hq, Nat.dvd_trans hqd hm⟩
theorem mod_eq_of_dvd_sub {p a b : Nat} (hle : b ≤ a) (h : p ∣ a - b) : a % p = b % p := by
 obtain ⟨c, hc⟩ := h
 have : a = b + p * c := by omega
 rw [this, Nat.add_mul_mod_self_left]
theorem dvd_sub_of_mod_eq {p a b : Nat} (h : a % p = b % p) : p ∣ a - b := by
 by_cases hle : b ≤ a
 ·refine ⟨a / p - b / p, ?_⟩
  have h1 := Nat.div_add_mod a p
  have h2 := Nat.div_add_mod b p
  have hle' : b / p ≤ a / p := Nat.div_le_div_right hle
  rw [Nat.mul_sub]
  omega
 ·rw [Nat.sub_eq_zero_of_le (by omega)]
  exact Nat.dvd_zero p
theorem IsPrime.mul_cancel {p a b c : Nat} (h : IsPrime p) (hc : ¬ p ∣ c) (he : a * c % p = b * c % p) : a % p = b % p := by
 rcases Nat.le_total b a with hle | hle
 ·refine mod_eq_of_dvd_sub hle ?_
  have hd := dvd_sub_of_mod_eq he
  rw [← Nat.sub_mul] at hd
  exact (h.dvd_mul hd).resolve_right hc
 ·refine (mod_eq_of_dvd_sub hle ?_).symm
  have hd := dvd_sub_of_mod_eq he.symm
  rw [← Nat.sub_mul] at hd
  exact (h.dvd_mul hd).resolve_right hc
theorem perm_of_nodup_subset {l₁ l₂ : List Nat} (hn : l₁.Nodup) (hs : ∀ x ∈ l₁, x ∈ l₂) (hl : l₂.length ≤ l₁.length) : l₁.Perm l₂ := by
 induction l₁ generalizing l₂ with
 | nil =>
  have : l₂ = [] := by simpa using hl
  subst this
  exact List.Perm.refl _
 | cons a l ih =>
  have ha : a ∈ l₂ := hs a (by simp)
  have hp := List.perm_cons_erase ha
  refine List.Perm.trans (List.Perm.cons a (ih (List.nodup_cons.1 hn).2 ?_ ?_)) hp.symm
  ·intro x hx
   have hne : x ≠ a := fun e => (List.nodup_cons.1 hn).1 (e ▸ hx)
   exact (List.mem_erase_of_ne hne).2 (hs x (by simp [hx]))
  ·have := List.length_erase_of_mem ha
   simp at hl
   omega
theorem prod_map_mod (p a : Nat) (l : List Nat) : (l.map (fun i => a * i % p)).prod % p = a ^ l.length * l.prod % p := by
 induction l with
 | nil => simp
 | cons b l ih =>
  simp only [List.map_cons, List.prod_cons, List.length_cons]
  rw [Nat.mul_mod, ih, ← Nat.mul_mod, Nat.mul_mod, Nat.mod_mod, ← Nat.mul_mod]
  congr 1
  rw [Nat.pow_succ]
  simp only [Nat.mul_assoc, Nat.mul_left_comm, Nat.mul_comm]
theorem IsPrime.not_dvd_prod {p : Nat} (h : IsPrime p) (l : List Nat) (hl : ∀ x ∈ l, ¬ p ∣ x) : ¬ p ∣ l.prod := by
 induction l with
 | nil => simpa using h.not_dvd_one
 | cons b l ih =>
  intro hd
  rw [List.prod_cons] at hd
  rcases h.dvd_mul hd with h1 | h1
  ·exact hl b (by simp) h1
  ·exact ih (fun x hx => hl x (by simp [hx])) h1
theorem nodup_map_of {l : List Nat} (f : Nat → Nat) (hn : l.Nodup) (hf : ∀ x ∈ l, ∀ y ∈ l, f x = f y → x = y) : (l.map f).Nodup := by
 induction l with
 | nil => simp
 | cons a l ih =>
  rw [List.nodup_cons] at hn
  rw [List.map_cons, List.nodup_cons]
  refine ⟨?_, ih hn.2 (fun x hx y hy => hf x (by simp [hx]) y (by simp [hy]))⟩
  intro hm
  obtain ⟨b, hb, he⟩ := List.mem_map.1 hm
  have := hf b (by simp [hb]) a (by simp) he
  exact hn.1 (this ▸ hb)
theorem IsPrime.fermat {p a : Nat} (h : IsPrime p) (ha : ¬ p ∣ a) : a ^ (p - 1) % p = 1 := by
 have h2 := h.two_le
 have hmem : ∀ x, x ∈ List.range' 1 (p - 1) ↔ 1 ≤ x ∧ x < p := by
  intro x
  rw [List.mem_range'_1]
  omega
 have hnd : ∀ x ∈ List.range' 1 (p - 1), ¬ p ∣ x := by
  intro x hx hd
  have := (hmem x).1 hx
  have := Nat.le_of_dvd (by omega) hd
  omega
 have hperm : ((List.range' 1 (p - 1)).map (fun i => a * i % p)).Perm (List.range' 1 (p - 1)) := by
  refine perm_of_nodup_subset (nodup_map_of _ (List.nodup_range' 1) ?_) ?_ (by simp)
  ·intro x hx y hy he
   have hx' := (hmem x).1 hx
   have hy' := (hmem y).1 hy
   have he' : x * a % p = y * a % p := by simpa [Nat.mul_comm] using he
   have := h.mul_cancel ha he'
   rwa [Nat.mod_eq_of_lt hx'.2, Nat.mod_eq_of_lt hy'.2] at this
  ·intro x hx
   obtain ⟨i, hi, rfl⟩ := List.mem_map.1 hx
   refine (hmem _).2 ⟨?_, Nat.mod_lt _ (by omega)⟩
   have hne : ¬ p ∣ a * i := fun hd => by
    rcases h.dvd_mul hd with h1 | h1
    ·exact ha h1
    ·exact hnd i hi h1
   have : a * i % p ≠ 0 := fun e => hne (Nat.dvd_of_mod_eq_zero e)
   omega
 have hprod := hperm.prod_nat
 have hm := prod_map_mod p a (List.range' 1 (p - 1))
 rw [hprod, List.length_range'] at hm
 have := h.mul_cancel (a := a ^ (p - 1)) (b := 1) (h.not_dvd_prod _ hnd) (by rw [Nat.one_mul]; exact hm.symm)
 rw [this]
 exact Nat.mod_eq_of_lt (by omega)
theorem pow_one_mod {q b m : Nat} (hq : 1 < q) (h : b ^ m % q = 1) (k : Nat) : b ^ (m * k) % q = 1 := by
 rw [Nat.pow_mul, Nat.pow_mod, h, Nat.one_pow]
 exact Nat.mod_eq_of_lt hq
theorem pow_gcd_mod {q b : Nat} (hq : 1 < q) (m n : Nat) : b ^ m % q = 1 → b ^ n % q = 1 → b ^ (Nat.gcd m n) % q = 1 := by
 induction m, n using Nat.gcd.induction with
 | H0 n => intro _ h; rw [Nat.gcd_zero_left]; exact h
 | H1 m n _ ih =>
  intro h1 h2
  rw [Nat.gcd_rec]
  refine ih ?_ h1
  have hd := Nat.div_add_mod n m
  have h3 : b ^ (m * (n / m) + n % m) % q = 1 := by rw [hd]; exact h2
  rw [Nat.pow_add, Nat.mul_mod, pow_one_mod hq h1, Nat.one_mul, Nat.mod_mod] at h3
  exact h3
theorem fermat_test_divides {N q r a k : Nat} (hr : IsPrime r) (hk : N - 1 = r * k) (hq : IsPrime q) (hqN : q ∣ N) (h1 : a ^ (N - 1) % N = 1) (hN : 1 < N)
  (hg : Nat.gcd (a ^ k % N + (N - 1)) N = 1) : r ∣ q - 1 := by
 have hq2 := hq.two_le
 apply Classical.byContradiction
 intro hnd
 -- b := a ^ k, b ^ r ≡ 1 modulo q
 have hb : (a ^ k) ^ r % q = 1 := by
  rw [← Nat.pow_mul, Nat.mul_comm k r, ← hk]
  have := congrArg (· % q) h1
  simp only [Nat.mod_mod_of_dvd _ hqN] at this
  rw [this]
  exact Nat.mod_eq_of_lt hq2
 have hna : ¬ q ∣ a ^ k := by
  intro hd
  obtain ⟨s, rfl⟩ : ∃ s, r = s + 1 := ⟨r - 1, by have := hr.two_le; omega⟩
  have h0 : q ∣ (a ^ k) ^ (s + 1) := by rw [Nat.pow_succ]; exact Nat.dvd_mul_left_of_dvd hd _
  have := Nat.mod_eq_zero_of_dvd h0
  omega
 have hf := hq.fermat hna
 have hg1 := pow_gcd_mod (q := q) (b := a ^ k) hq2 r (q - 1) hb hf
 have hcop : Nat.gcd r (q - 1) = 1 := by
  rw [Nat.gcd_comm]
  exact hr.coprime hnd
 rw [hcop, Nat.pow_one] at hg1
 -- q divides a ^ k % N + (N - 1)
 have hd : q ∣ a ^ k % N + (N - 1) := by
  apply Nat.dvd_of_mod_eq_zero
  have e : (a ^ k % N) % q = 1 := by rw [Nat.mod_mod_of_dvd _ hqN]; exact hg1
  obtain ⟨c, hc⟩ := hqN
  have h5 := Nat.div_add_mod (a ^ k % N) q
  rw [e] at h5
  have : a ^ k % N + (N - 1) = q * (a ^ k % N / q + c) := by rw [Nat.mul_add]; omega
  rw [this]
  exact Nat.mul_mod_right _ _
 have hd1 : q ∣ Nat.gcd (a ^ k % N + (N - 1)) N := Nat.dvd_gcd hd hqN
 rw [hg] at hd1
 exact hq.not_dvd_one hd1
theorem prime_of_no_small {N F : Nat} (hN : 1 < N) (hF : N < (F + 1) * (F + 1)) (h : ∀ q, IsPrime q → q ∣ N → F ∣ q - 1) : IsPrime N := by
 refine ⟨hN, fun m hm => ?_⟩
 apply Classical.byContradiction
 intro hne
 obtain ⟨c, hc⟩ := hm
 have hm1 : m ≠ 1 := fun e => hne (.inl e)
 have hmN : m ≠ N := fun e => hne (.inr e)
 have hm0 : m ≠ 0 := fun e => by subst e; simp at hc; omega
 have hc0 : c ≠ 0 := fun e => by subst e; simp at hc; omega
 have hc1 : c ≠ 1 := fun e => by subst e; simp at hc; omega
 have big : ∀ x, 1 < x → x ∣ N → F + 1 ≤ x := by
  intro x hx hxN
  obtain ⟨q, hq, hqx⟩ := exists_prime_dvd x hx
  have h1 := h q hq (Nat.dvd_trans hqx hxN)
  have h2 := hq.two_le
  have h3 := Nat.le_of_dvd (by omega) h1
  have h4 := Nat.le_of_dvd (by omega) hqx
  omega
 have h1 := big m (by omega) ⟨c, hc⟩
 have h2 := big c (by omega) ⟨m, by rw [hc, Nat.mul_comm]⟩
 have := Nat.mul_le_mul h1 h2
 omega
theorem mul_dvd_of_primes {r s n : Nat} (hr : IsPrime r) (hs : IsPrime s) (hne : r ≠ s) (h1 : r ∣ n) (h2 : s ∣ n) : r * s ∣ n := by
 obtain ⟨c, rfl⟩ := h1
 have : ¬ s ∣ r := fun hd => by
  rcases hr.2 s hd with e | e
  ·have := hs.two_le; omega
  ·exact hne e.symm
 have h3 := (hs.dvd_mul h2).resolve_left this
 exact Nat.mul_dvd_mul_left r h3
def powmodGo (n : Nat) : Nat → Nat → Nat → Nat → Nat
 | 0, _, _, acc => acc
 | f + 1, a, e, acc => powmodGo n f (a * a % n) (e / 2) (if e % 2 = 1 then acc * a % n else acc)
def powmod (a e n : Nat) : Nat := powmodGo n 256 (a % n) e (1 % n)
theorem powmodGo_eq (n : Nat) (f : Nat) : ∀ a e acc, e < 2 ^ f → powmodGo n f a e acc % n = acc * a ^ e % n := by
 induction f with
 | zero =>
  intro a e acc h
  have : e = 0 := by simpa using h
  subst this
  simp [powmodGo]
 | succ f ih =>
  intro a e acc h
  unfold powmodGo
  rw [ih _ _ _ (by rw [Nat.pow_succ] at h; omega)]
  have hd := Nat.div_add_mod e 2
  have h2 : a ^ e = (a * a) ^ (e / 2) * a ^ (e % 2) := by
   rw [show a * a = a ^ 2 from (Nat.pow_two a).symm, ← Nat.pow_mul, ← Nat.pow_add, hd]
  rw [h2]
  have h3 : (a * a % n) ^ (e / 2) % n = (a * a) ^ (e / 2) % n := (Nat.pow_mod _ _ _).symm
  by_cases he : e % 2 = 1
  ·rw [if_pos he, he, Nat.pow_one, Nat.mul_mod, Nat.mod_mod, h3, ← Nat.mul_mod]
   congr 1
   rw [Nat.mul_assoc, Nat.mul_comm a]
  ·have he0 : e % 2 = 0 := by omega
   rw [if_neg he, he0, Nat.pow_zero, Nat.mul_one, Nat.mul_mod, h3, ← Nat.mul_mod]
theorem powmodGo_lt (n : Nat) (hn : 0 < n) (f : Nat) : ∀ a e acc, acc < n → powmodGo n f a e acc < n := by
 induction f with
 | zero => intro a e acc h; exact h
 | succ f ih =>
  intro a e acc h
  unfold powmodGo
  refine ih _ _ _ ?_
  split
  ·exact Nat.mod_lt _ hn
  ·exact h
theorem powmod_eq {a e n : Nat} (hn : 0 < n) (he : e < 2 ^ 256) : powmod a e n = a ^ e % n := by
 unfold powmod
 rw [← Nat.mod_eq_of_lt (powmodGo_lt n hn 256 (a % n) e (1 % n) (Nat.mod_lt _ hn)), powmodGo_eq n 256 _ _ _ he,
  Nat.mul_mod, ← Nat.pow_mod, Nat.mod_mod, ← Nat.mul_mod, Nat.one_mul]
def testOk (N r a : Nat) : Bool := (N - 1) % r == 0 && powmod a (N - 1) N == 1 && Nat.gcd (powmod a ((N - 1) / r) N + (N - 1)) N == 1
theorem test_divides {N q r a : Nat} (hr : IsPrime r) (hN : 1 < N) (hN2 : N < 2 ^ 256) (h : testOk N r a = true) (hq : IsPrime q) (hqN : q ∣ N) : r ∣ q - 1 := by
 unfold testOk at h
 simp only [Bool.and_eq_true, beq_iff_eq] at h
 obtain ⟨⟨h1, h2⟩, h3⟩ := h
 have hle : (N - 1) / r ≤ N - 1 := Nat.div_le_self _ _
 rw [powmod_eq (by omega) (by omega)] at h2 h3
 have hk : N - 1 = r * ((N - 1) / r) := by have := Nat.div_add_mod (N - 1) r; omega
 exact fermat_test_divides hr hk hq hqN h2 hN h3
theorem prime_of_one {N : Nat} (r a : Nat) (hr : IsPrime r) (hN : 1 < N) (hN2 : N < 2 ^ 256) (h : testOk N r a = true) (hF : N < (r + 1) * (r + 1)) : IsPrime N :=
 prime_of_no_small hN hF fun _ hq hqN => test_divides hr hN hN2 h hq hqN
theorem prime_of_two {N : Nat} (r s a b : Nat) (hr : IsPrime r) (hs : IsPrime s) (hne : r ≠ s) (hN : 1 < N) (hN2 : N < 2 ^ 256) (h : testOk N r a = true) (h' : testOk N s b = true)
  (hF : N < (r * s + 1) * (r * s + 1)) : IsPrime N :=
 prime_of_no_small hN hF fun _ hq hqN => mul_dvd_of_primes hr hs hne (test_divides hr hN hN2 h hq hqN) (test_divides hs hN hN2 h' hq hqN)
def noneDivides (n : Nat) : Nat → Bool
 | 0 => true
 | k + 1 => n % (k + 2) != 0 && noneDivides n k
theorem noneDivides_spec {n : Nat} : ∀ k, noneDivides n k = true → ∀ m, 2 ≤ m → m ≤ k + 1 → ¬ m ∣ n := by
 intro k
 induction k with
 | zero => intro _ m h1 h2; omega
 | succ k ih =>
  intro h m h1 h2 hd
  simp only [noneDivides, Bool.and_eq_true, bne_iff_ne] at h
  by_cases e : m = k + 2
  ·subst e; exact h.1 (Nat.mod_eq_zero_of_dvd hd)
  ·exact ih h.2 m h1 (by omega) hd
theorem prime_of_trial {n : Nat} (k : Nat) (h1 : 1 < n) (hk : n < (k + 2) * (k + 2)) (h : noneDivides n k = true) : IsPrime n := by
 refine ⟨h1, fun m hm => ?_⟩
 apply Classical.byContradiction
 intro hne
 have hs := noneDivides_spec k h
 obtain ⟨c, hc⟩ := hm
 have hm1 : m ≠ 1 := fun e => hne (.inl e)
 have hmN : m ≠ n := fun e => hne (.inr e)
 have hm0 : m ≠ 0 := fun e => by subst e; simp at hc; omega
 have hc0 : c ≠ 0 := fun e => by subst e; simp at hc; omega
 have hc1 : c ≠ 1 := fun e => by subst e; simp at hc; omega
 have h2 : k + 2 ≤ m := by
  apply Classical.byContradiction; intro hlt
  exact hs m (by omega) (by omega) ⟨c, hc⟩
 have h3 : k + 2 ≤ c := by
  apply Classical.byContradiction; intro hlt
  exact hs c (by omega) (by omega) ⟨m, by rw [hc, Nat.mul_comm]⟩
 have := Nat.mul_le_mul h2 h3
 omega
end Go.Num
namespace Go.Num
theorem p_991 : IsPrime 991 := prime_of_trial 30 (by decide +kernel) (by decide +kernel) (by decide +kernel)
theorem p_103 : IsPrime 103 := prime_of_trial 9 (by decide +kernel) (by decide +kernel) (by decide +kernel)
theorem p_8574133 : IsPrime 8574133 := prime_of_two 991 103 2 2 p_991 p_103 (by decide +kernel) (by decide +kernel) (by decide +kernel) (by decide +kernel) (by decide +kernel) (by decide +kernel)
theorem p_127 : IsPrime 127 := prime_of_trial 10 (by decide +kernel) (by decide +kernel) (by decide +kernel)
theorem p_1919519569386763 : IsPrime 1919519569386763 := prime_of_two 8574133 127 2 2 p_8574133 p_127 (by decide +kernel) (by decide +kernel) (by decide +kernel) (by decide +kernel) (by decide +kernel) (by decide +kernel)
theorem p_419 : IsPrime 419 := prime_of_trial 19 (by decide +kernel) (by decide +kernel) (by decide +kernel)
theorem p_97 : IsPrime 97 := prime_of_trial 8 (by decide +kernel) (by decide +kernel) (by decide +kernel)
theorem p_569003 : IsPrime 569003 := prime_of_two 419 97 2 2 p_419 p_97 (by decide +kernel) (by decide +kernel) (by decide +kernel) (by decide +kernel) (by decide +kernel) (by decide +kernel)
theorem p_2773320623 : IsPrime 2773320623 := prime_of_one 569003 2 p_569003 (by decide +kernel) (by decide +kernel) (by decide +kernel) (by decide +kernel)
theorem p_72106336199 : IsPrime 72106336199 := prime_of_one 2773320623 2 p_2773320623 (by decide +kernel) (by decide +kernel) (by decide +kernel) (by decide +kernel)
theorem p_75445702479781427272750846543864801 : IsPrime 75445702479781427272750846543864801 := prime_of_two 1919519569386763 72106336199 2 2 p_1919519569386763 p_72106336199 (by decide +kernel) (by decide +kernel) (by decide +kernel) (by decide +kernel) (by decide +kernel) (by decide +kernel)
theorem p_1723 : IsPrime 1723 := prime_of_trial 40 (by decide +kernel) (by decide +kernel) (by decide +kernel)
theorem p_430751 : IsPrime 430751 := prime_of_one 1723 2 p_1723 (by decide +kernel) (by decide +kernel) (by decide +kernel) (by decide +kernel)
theorem p_4153 : IsPrime 4153 := prime_of_trial 63 (by decide +kernel) (by decide +kernel) (by decide +kernel)
theorem p_31757755568855353 : IsPrime 31757755568855353 := prime_of_two 430751 4153 2 2 p_430751 p_4153 (by decide +kernel) (by decide +kernel) (by decide +kernel) (by decide +kernel) (by decide +kernel) (by decide +kernel)
theorem p_74058212732561358302231226437062788676166966415465897661863160754340907 : IsPrime 74058212732561358302231226437062788676166966415465897661863160754340907 := prime_of_two 75445702479781427272750846543864801 31757755568855353 2 2 p_75445702479781427272750846543864801 p_31757755568855353 (by decide +kernel) (by decide +kernel) (by decide +kernel) (by decide +kernel) (by decide +kernel) (by decide +kernel)
theorem p_57896044618658097711785492504343953926634992332820282019728792003956564819949 : IsPrime 57896044618658097711785492504343953926634992332820282019728792003956564819949 := prime_of_one 74058212732561358302231226437062788676166966415465897661863160754340907 2 p_74058212732561358302231226437062788676166966415465897661863160754340907 (by decide +kernel) (by decide +kernel) (by decide +kernel) (by decide +kernel)
theorem prime2 : IsPrime 57896044618658097711785492504343953926634992332820282019728792003956564819949 := p_57896044618658097711785492504343953926634992332820282019728792003956564819949
end Go.Num
namespace Go.Ed
open Go.Num
def P : Nat := 57896044618658097711785492504343953926634992332820282019728792003956564819949
theorem P_prime : IsPrime P := prime2
instance : NeZero P := ⟨by decide⟩
abbrev F : Type := Fin P
theorem F_val_mul (a b : F) : (a * b).val = a.val * b.val % P := Fin.val_mul a b
theorem F_val_add (a b : F) : (a + b).val = (a.val + b.val) % P := Fin.val_add a b
theorem F_val_one : (1 : F).val = 1 := rfl
theorem F_val_zero : (0 : F).val = 0 := rfl
theorem F_pow_val (a : F) (n : Nat) : (a ^ n).val = a.val ^ n % P := by
 induction n with
 | zero => rfl
 | succ n ih => rw [show a ^ (n + 1) = a ^ n * a from by grind, F_val_mul, ih, Nat.pow_succ, Nat.mod_mul_mod]
theorem F_mul_eq_zero {a b : F} (h : a * b = 0) : a = 0 ∨ b = 0 := by
 have h1 : a.val * b.val % P = 0 := by rw [← F_val_mul, h]; rfl
 rcases P_prime.dvd_mul (Nat.dvd_of_mod_eq_zero h1) with h2 | h2
 ·left; apply Fin.ext; rw [F_val_zero]; exact Nat.eq_zero_of_dvd_of_lt h2 a.isLt
 ·right; apply Fin.ext; rw [F_val_zero]; exact Nat.eq_zero_of_dvd_of_lt h2 b.isLt
theorem F_fermat {a : F} (h : a ≠ 0) : a ^ (P - 1) = 1 := by
 apply Fin.ext
 rw [F_pow_val, F_val_one]
 refine P_prime.fermat fun hd => h ?_
 apply Fin.ext
 rw [F_val_zero]
 exact Nat.eq_zero_of_dvd_of_lt hd a.isLt
def inv (a : F) : F := a ^ (P - 2)
theorem P_sub : P - 1 = (P - 2) + 1 := by decide +kernel
theorem mul_inv {a : F} (h : a ≠ 0) : a * inv a = 1 := by
 have h1 := F_fermat h
 rw [P_sub] at h1
 unfold inv
 generalize P - 2 = n at *
 grind
theorem cancel {a b c : F} (hc : c ≠ 0) (h : a * c = b * c) : a = b := by
 have h1 : (a - b) * c = 0 := by grind
 rcases F_mul_eq_zero h1 with h2 | h2
 ·grind
 ·exact absurd h2 hc
theorem mul_ne {a b : F} (ha : a ≠ 0) (hb : b ≠ 0) : a * b ≠ 0 := fun h => by
 rcases F_mul_eq_zero h with h2 | h2
 ·exact ha h2
 ·exact hb h2
def D : F := ⟨37095705934669439343138083508754565189542113879843219016388785533085940283555, by decide +kernel⟩
def I : F := ⟨19681161376707505956807079304988542015446066515923890162744021073123829784752, by decide +kernel⟩
theorem I_sq : I * I = -1 := by decide +kernel
theorem powF (a : F) (n : Nat) (hn : n < 2 ^ 256) : (a ^ n).val = powmod a.val n P := by
 rw [F_pow_val, powmod_eq (by decide +kernel) hn]
theorem P_half : (P - 1) / 2 + (P - 1) / 2 = P - 1 := by decide +kernel
theorem two_ne : (1 : F) + 1 ≠ 0 := by decide +kernel
theorem one_ne : (1 : F) ≠ 0 := by decide +kernel
theorem D_ne : D ≠ 0 := by decide +kernel
theorem I_ne : I ≠ 0 := by decide +kernel
theorem sq_pow (s : F) (n : Nat) : (s * s) ^ n = s ^ (n + n) := by
 induction n with
 | zero => rfl
 | succ n ih =>
  rw [show (s * s) ^ (n + 1) = (s * s) ^ n * (s * s) from by grind, ih, show n + 1 + (n + 1) = (n + n) + 1 + 1 from by omega]
  generalize n + n = k
  grind
theorem square_of {a z zi d : F} (h : a * a = d * (z * z)) (hz : z * zi = 1) : (a * zi) * (a * zi) = d := by grind
theorem key_of {x1 y1 x2 y2 e d j : F} (h1 : y1 * y1 - x1 * x1 = 1 + d * (x1 * x1 * (y1 * y1))) (h2 : y2 * y2 - x2 * x2 = 1 + d * (x2 * x2 * (y2 * y2)))
  (he : e = d * (x1 * x2 * (y1 * y2))) (hone : e * e = 1) (hj : j * j = -1) :
  (y1 + e * j * x1) * (y1 + e * j * x1) = d * ((x1 * y1 * (y2 + j * x2)) * (x1 * y1 * (y2 + j * x2))) := by grind
theorem D_euler : D ^ ((P - 1) / 2) ≠ 1 := fun h => by
 have h1 := congrArg Fin.val h
 rw [powF D _ (by decide +kernel)] at h1
 revert h1
 decide +kernel
theorem D_nonsquare (s : F) : s * s ≠ D := fun h => by
 by_cases hs : s = 0
 ·subst hs
  exact D_ne (by rw [← h]; grind)
 ·have h1 := F_fermat hs
  apply D_euler
  rw [← h]
  rw [← P_half] at h1
  generalize (P - 1) / 2 = n at *
  rw [sq_pow]
  exact h1
def On (x y : F) : Prop := y * y - x * x = 1 + D * (x * x * (y * y))
theorem complete {x1 y1 x2 y2 e : F} (h1 : On x1 y1) (h2 : On x2 y2) (he : e = D * (x1 * x2 * (y1 * y2))) : e * e ≠ 1 := by
 intro hone
 unfold On at h1 h2
 have hi := I_sq
 have e0 : e ≠ 0 := fun h => one_ne (by rw [h] at hone; grind)
 have hx1 : x1 ≠ 0 := fun h => e0 (by rw [he, h]; grind)
 have hy1 : y1 ≠ 0 := fun h => e0 (by rw [he, h]; grind)
 have hy2 : y2 ≠ 0 := fun h => e0 (by rw [he, h]; grind)
 have no : ∀ j : F, j * j = -1 → y2 + j * x2 = 0 := by
  intro j hj
  apply Classical.byContradiction
  intro hne
  exact D_nonsquare _ (square_of (key_of h1 h2 he hone hj) (mul_inv (mul_ne (mul_ne hx1 hy1) hne)))
 have a := no I hi
 have b := no (-I) (by grind)
 have c : (1 + 1) * y2 = 0 := by clear h1 h2 he hone e0 no; grind
 rcases F_mul_eq_zero c with h | h
 ·exact two_ne h
 ·exact hy2 h
theorem complete_plus {x1 y1 x2 y2 : F} (h1 : On x1 y1) (h2 : On x2 y2) : 1 + D * (x1 * x2 * (y1 * y2)) ≠ 0 := fun h =>
 complete h1 h2 rfl (by generalize D * (x1 * x2 * (y1 * y2)) = e at *; grind)
theorem complete_minus {x1 y1 x2 y2 : F} (h1 : On x1 y1) (h2 : On x2 y2) : 1 - D * (x1 * x2 * (y1 * y2)) ≠ 0 := fun h =>
 complete h1 h2 rfl (by generalize D * (x1 * x2 * (y1 * y2)) = e at *; grind)
theorem assoc_x {x1 y1 x2 y2 x3 y3 d : F} (h1 : y1 * y1 - x1 * x1 = 1 + d * (x1 * x1 * (y1 * y1))) (h2 : y2 * y2 - x2 * x2 = 1 + d * (x2 * x2 * (y2 * y2)))
  (h3 : y3 * y3 - x3 * x3 = 1 + d * (x3 * x3 * (y3 * y3))) :
  ((x1*y2+x2*y1)*y3*(1-d*(x1*x2*(y1*y2))) + x3*(y1*y2+x1*x2)*(1+d*(x1*x2*(y1*y2)))) * ((1-(d*(x2*x3*(y2*y3)))*(d*(x2*x3*(y2*y3)))) + d*(x1*y1*((x2*y3+x3*y2)*(y2*y3+x2*x3))))
   = (x1*(y2*y3+x2*x3)*(1+d*(x2*x3*(y2*y3)))+(x2*y3+x3*y2)*y1*(1-d*(x2*x3*(y2*y3)))) * ((1-(d*(x1*x2*(y1*y2)))*(d*(x1*x2*(y1*y2)))) + d*(((x1*y2+x2*y1)*(y1*y2+x1*x2))*(x3*y3))) := by grind
theorem assoc_y {x1 y1 x2 y2 x3 y3 d : F} (h1 : y1 * y1 - x1 * x1 = 1 + d * (x1 * x1 * (y1 * y1))) (h2 : y2 * y2 - x2 * x2 = 1 + d * (x2 * x2 * (y2 * y2)))
  (h3 : y3 * y3 - x3 * x3 = 1 + d * (x3 * x3 * (y3 * y3))) :
  ((y1*y2+x1*x2)*y3*(1+d*(x1*x2*(y1*y2))) + (x1*y2+x2*y1)*x3*(1-d*(x1*x2*(y1*y2)))) * ((1-(d*(x2*x3*(y2*y3)))*(d*(x2*x3*(y2*y3)))) - d*(x1*y1*((x2*y3+x3*y2)*(y2*y3+x2*x3))))
   = (y1*(y2*y3+x2*x3)*(1+d*(x2*x3*(y2*y3)))+x1*(x2*y3+x3*y2)*(1-d*(x2*x3*(y2*y3)))) * ((1-(d*(x1*x2*(y1*y2)))*(d*(x1*x2*(y1*y2)))) - d*(((x1*y2+x2*y1)*(y1*y2+x1*x2))*(x3*y3))) := by grind
theorem closed_of {x1 y1 x2 y2 d : F} (h1 : y1 * y1 - x1 * x1 = 1 + d * (x1 * x1 * (y1 * y1))) (h2 : y2 * y2 - x2 * x2 = 1 + d * (x2 * x2 * (y2 * y2))) :
  (y1*y2+x1*x2)*(y1*y2+x1*x2)*((1+d*(x1*x2*(y1*y2)))*(1+d*(x1*x2*(y1*y2)))) - (x1*y2+x2*y1)*(x1*y2+x2*y1)*((1-d*(x1*x2*(y1*y2)))*(1-d*(x1*x2*(y1*y2))))
   = (1+d*(x1*x2*(y1*y2)))*(1+d*(x1*x2*(y1*y2)))*((1-d*(x1*x2*(y1*y2)))*(1-d*(x1*x2*(y1*y2)))) + d*((x1*y2+x2*y1)*(x1*y2+x2*y1)*((y1*y2+x1*x2)*(y1*y2+x1*x2))) := by grind
end Go.Ed
namespace Go.Ed
open Go.Num
structure Pt where
 x : F
 y : F
 on : On x y
theorem Pt.ext' {p q : Pt} (h1 : p.x = q.x) (h2 : p.y = q.y) : p = q := by
 cases p; cases q; simp only at h1 h2; subst h1; subst h2; rfl
theorem on_scale {A B p m u v d : F} (h : B*B*(p*p) - A*A*(m*m) = p*p*(m*m) + d*(A*A*(B*B))) (hu : u * p = 1) (hv : v * m = 1) :
  (B*v)*(B*v) - (A*u)*(A*u) = 1 + d*((A*u)*(A*u)*((B*v)*(B*v))) := by grind
def sumX (x1 y1 x2 y2 : F) : F := (x1*y2+x2*y1) * inv (1 + D*(x1*x2*(y1*y2)))
def sumY (x1 y1 x2 y2 : F) : F := (y1*y2+x1*x2) * inv (1 - D*(x1*x2*(y1*y2)))
theorem inv_mul {a : F} (h : a ≠ 0) : inv a * a = 1 := by have := mul_inv h; grind
theorem on_sum {x1 y1 x2 y2 : F} (h1 : On x1 y1) (h2 : On x2 y2) : On (sumX x1 y1 x2 y2) (sumY x1 y1 x2 y2) :=
 on_scale (closed_of h1 h2) (inv_mul (complete_plus h1 h2)) (inv_mul (complete_minus h1 h2))
def Pt.add (p q : Pt) : Pt := ⟨sumX p.x p.y q.x q.y, sumY p.x p.y q.x q.y, on_sum p.on q.on⟩
instance : Add Pt := ⟨Pt.add⟩
theorem on_zero : On 0 1 := by unfold On; grind
def Pt.zero : Pt := ⟨0, 1, on_zero⟩
instance : OfNat Pt 0 := ⟨Pt.zero⟩
theorem on_neg {x y : F} (h : On x y) : On (-x) y := by unfold On at *; grind
def Pt.neg (p : Pt) : Pt := ⟨-p.x, p.y, on_neg p.on⟩
instance : Neg Pt := ⟨Pt.neg⟩
theorem Pt.add_x (p q : Pt) : (p + q).x = sumX p.x p.y q.x q.y := rfl
theorem Pt.add_y (p q : Pt) : (p + q).y = sumY p.x p.y q.x q.y := rfl
theorem sum_x_mul (p q : Pt) : (p + q).x * (1 + D*(p.x*q.x*(p.y*q.y))) = p.x*q.y+q.x*p.y := by
 rw [Pt.add_x]; unfold sumX
 have := inv_mul (complete_plus p.on q.on)
 rw [show ∀ a b c : F, a * b * c = a * (b * c) from fun a b c => by grind, this]
 grind
theorem sum_y_mul (p q : Pt) : (p + q).y * (1 - D*(p.x*q.x*(p.y*q.y))) = p.y*q.y+p.x*q.x := by
 rw [Pt.add_y]; unfold sumY
 have := inv_mul (complete_minus p.on q.on)
 rw [show ∀ a b c : F, a * b * c = a * (b * c) from fun a b c => by grind, this]
 grind
theorem sum_eq {p q r : Pt} (hx : r.x * (1 + D*(p.x*q.x*(p.y*q.y))) = p.x*q.y+q.x*p.y) (hy : r.y * (1 - D*(p.x*q.x*(p.y*q.y))) = p.y*q.y+p.x*q.x) : p + q = r :=
 Pt.ext' (cancel (complete_plus p.on q.on) (by rw [sum_x_mul, hx])) (cancel (complete_minus p.on q.on) (by rw [sum_y_mul, hy]))
theorem Pt.add_comm (p q : Pt) : p + q = q + p := by
 refine sum_eq ?_ ?_
 ·have := sum_x_mul q p; generalize (q + p).x = s at *; grind
 ·have := sum_y_mul q p; generalize (q + p).y = s at *; grind
theorem Pt.zero_x : (0 : Pt).x = 0 := rfl
theorem Pt.zero_y : (0 : Pt).y = 1 := rfl
theorem Pt.add_zero (p : Pt) : p + 0 = p := by
 refine sum_eq ?_ ?_ <;> rw [Pt.zero_x, Pt.zero_y] <;> grind
theorem Pt.zero_add (p : Pt) : 0 + p = p := by rw [Pt.add_comm, Pt.add_zero]
theorem Pt.add_neg (p : Pt) : p + -p = 0 := by
 have h := p.on
 unfold On at h
 refine sum_eq ?_ ?_
 ·rw [show (-p).x = -p.x from rfl, show (-p).y = p.y from rfl, Pt.zero_x]; grind
 ·rw [show (-p).x = -p.x from rfl, show (-p).y = p.y from rfl, Pt.zero_y]; grind
theorem num_x {A B p m u v w x3 y3 d : F} (hu : u * p = 1) (hv : v * m = 1) (hw : w * (1 + d*((A*u)*x3*((B*v)*y3))) = 1) :
  (((A*u)*y3 + x3*(B*v))*w) * (p*m + d*((A*B)*(x3*y3))) = A*y3*m + x3*B*p := by grind
theorem num_y {A B p m u v w x3 y3 d : F} (hu : u * p = 1) (hv : v * m = 1) (hw : w * (1 - d*((A*u)*x3*((B*v)*y3))) = 1) :
  (((B*v)*y3 + (A*u)*x3)*w) * (p*m - d*((A*B)*(x3*y3))) = B*y3*p + A*x3*m := by grind
theorem den_x {A B p m u v x3 y3 d : F} (hu : u * p = 1) (hv : v * m = 1) : p*m + d*((A*B)*(x3*y3)) = p*m*(1 + d*((A*u)*x3*((B*v)*y3))) := by grind
theorem den_y {A B p m u v x3 y3 d : F} (hu : u * p = 1) (hv : v * m = 1) : p*m - d*((A*B)*(x3*y3)) = p*m*(1 - d*((A*u)*x3*((B*v)*y3))) := by grind
theorem eq_of_cross {a b c d e f : F} (h1 : a * b = c) (h2 : d * e = f) (hb : b ≠ 0) (he : e ≠ 0) (h : c * e = f * b) : a = d :=
 cancel (mul_ne hb he) (by grind)
theorem three_x (p q r : Pt) : (p + q + r).x * ((1-(D*(p.x*q.x*(p.y*q.y)))*(D*(p.x*q.x*(p.y*q.y)))) + D*(((p.x*q.y+q.x*p.y)*(p.y*q.y+p.x*q.x))*(r.x*r.y)))
   = (p.x*q.y+q.x*p.y)*r.y*(1-D*(p.x*q.x*(p.y*q.y))) + r.x*(p.y*q.y+p.x*q.x)*(1+D*(p.x*q.x*(p.y*q.y)))
  ∧ (1-(D*(p.x*q.x*(p.y*q.y)))*(D*(p.x*q.x*(p.y*q.y)))) + D*(((p.x*q.y+q.x*p.y)*(p.y*q.y+p.x*q.x))*(r.x*r.y)) ≠ 0 := by
 have hp := complete_plus p.on q.on
 have hm := complete_minus p.on q.on
 have hu := inv_mul hp
 have hv := inv_mul hm
 have hw0 := complete_plus (p + q).on r.on
 have hw := inv_mul hw0
 rw [Pt.add_x (p + q) r]
 unfold sumX
 rw [Pt.add_x p q, Pt.add_y p q] at *
 unfold sumX sumY at *
 have e : 1-(D*(p.x*q.x*(p.y*q.y)))*(D*(p.x*q.x*(p.y*q.y))) = (1 + D*(p.x*q.x*(p.y*q.y))) * (1 - D*(p.x*q.x*(p.y*q.y))) := by
  generalize D*(p.x*q.x*(p.y*q.y)) = e; grind
 rw [e]
 refine ⟨num_x hu hv hw, ?_⟩
 rw [den_x hu hv]
 exact mul_ne (mul_ne hp hm) hw0
theorem three_y (p q r : Pt) : (p + q + r).y * ((1-(D*(p.x*q.x*(p.y*q.y)))*(D*(p.x*q.x*(p.y*q.y)))) - D*(((p.x*q.y+q.x*p.y)*(p.y*q.y+p.x*q.x))*(r.x*r.y)))
   = (p.y*q.y+p.x*q.x)*r.y*(1+D*(p.x*q.x*(p.y*q.y))) + (p.x*q.y+q.x*p.y)*r.x*(1-D*(p.x*q.x*(p.y*q.y)))
  ∧ (1-(D*(p.x*q.x*(p.y*q.y)))*(D*(p.x*q.x*(p.y*q.y)))) - D*(((p.x*q.y+q.x*p.y)*(p.y*q.y+p.x*q.x))*(r.x*r.y)) ≠ 0 := by
 have hp := complete_plus p.on q.on
 have hm := complete_minus p.on q.on
 have hu := inv_mul hp
 have hv := inv_mul hm
 have hw0 := complete_minus (p + q).on r.on
 have hw := inv_mul hw0
 rw [Pt.add_y (p + q) r]
 unfold sumY
 rw [Pt.add_x p q, Pt.add_y p q] at *
 unfold sumX sumY at *
 have e : 1-(D*(p.x*q.x*(p.y*q.y)))*(D*(p.x*q.x*(p.y*q.y))) = (1 + D*(p.x*q.x*(p.y*q.y))) * (1 - D*(p.x*q.x*(p.y*q.y))) := by
  generalize D*(p.x*q.x*(p.y*q.y)) = e; grind
 rw [e]
 refine ⟨num_y hu hv hw, ?_⟩
 rw [den_y hu hv]
 exact mul_ne (mul_ne hp hm) hw0
theorem Pt.add_assoc (p q r : Pt) : p + q + r = p + (q + r) := by
 rw [Pt.add_comm p (q + r)]
 obtain ⟨a1, b1⟩ := three_x p q r
 obtain ⟨a2, b2⟩ := three_x q r p
 obtain ⟨a3, b3⟩ := three_y p q r
 obtain ⟨a4, b4⟩ := three_y q r p
 refine Pt.ext' (eq_of_cross a1 a2 b1 b2 ?_) (eq_of_cross a3 a4 b3 b4 ?_)
 ·have := assoc_x p.on q.on r.on
  clear a1 a2 a3 a4 b1 b2 b3 b4
  generalize D*(p.x*q.x*(p.y*q.y)) = e at *
  generalize D*(q.x*r.x*(q.y*r.y)) = e' at *
  generalize p.x*q.y+q.x*p.y = A at *
  generalize q.x*r.y+r.x*q.y = A' at *
  generalize p.y*q.y+p.x*q.x = B at *
  generalize q.y*r.y+q.x*r.x = B' at *
  grind
 ·have := assoc_y p.on q.on r.on
  clear a1 a2 a3 a4 b1 b2 b3 b4
  generalize D*(p.x*q.x*(p.y*q.y)) = e at *
  generalize D*(q.x*r.x*(q.y*r.y)) = e' at *
  generalize p.x*q.y+q.x*p.y = A at *
  generalize q.x*r.y+r.x*q.y = A' at *
  generalize p.y*q.y+p.x*q.x = B at *
  generalize q.y*r.y+q.x*r.x = B' at *
  grind
def smul : Nat → Pt → Pt
 | 0, _ => 0
 | n + 1, p => smul n p + p
theorem smul_zero (p : Pt) : smul 0 p = 0 := rfl
theorem smul_succ (n : Nat) (p : Pt) : smul (n + 1) p = smul n p + p := rfl
theorem smul_add (m n : Nat) (p : Pt) : smul (m + n) p = smul m p + smul n p := by
 induction n with
 | zero => rw [smul_zero, Pt.add_zero]; rfl
 | succ n ih => rw [← Nat.add_assoc, smul_succ, ih, smul_succ, Pt.add_assoc]
theorem smul_two_mul (n : Nat) (p : Pt) : smul (2 * n) p = smul n p + smul n p := by rw [Nat.two_mul, smul_add]
theorem add_add_comm (a b c d : Pt) : a + b + (c + d) = (a + c) + (b + d) := by
 rw [Pt.add_assoc, ← Pt.add_assoc b c d, Pt.add_comm b c, Pt.add_assoc c b d, ← Pt.add_assoc]
theorem smul_pt_zero (n : Nat) : smul n 0 = 0 := by
 induction n with
 | zero => rfl
 | succ n ih => rw [smul_succ, ih, Pt.add_zero]
theorem smul_pt_add (n : Nat) (p q : Pt) : smul n (p + q) = smul n p + smul n q := by
 induction n with
 | zero => exact (Pt.add_zero 0).symm
 | succ n ih => rw [smul_succ, ih, smul_succ, smul_succ, add_add_comm]
theorem Pt.add_cancel {a b c : Pt} (h : a + c = b + c) : a = b := by
 have h1 : a + c + -c = b + c + -c := by rw [h]
 rw [Pt.add_assoc, Pt.add_neg, Pt.add_zero, Pt.add_assoc, Pt.add_neg, Pt.add_zero] at h1
 exact h1
theorem smul_neg (n : Nat) (p : Pt) : smul n (-p) = -(smul n p) := by
 apply Pt.add_cancel (c := smul n p)
 rw [← smul_pt_add, Pt.add_comm (-p), Pt.add_neg, smul_pt_zero, Pt.add_comm, Pt.add_neg]
end Go.Ed
namespace Go.Ed
open Go.Num
def Rep (x y z t : F) (p : Pt) : Prop := z ≠ 0 ∧ x = p.x * z ∧ y = p.y * z ∧ t = p.x * p.y * z
def Rep3 (x y z : F) (p : Pt) : Prop := z ≠ 0 ∧ x = p.x * z ∧ y = p.y * z
theorem rep_zero : Rep 0 1 1 0 0 := ⟨one_ne, by rw [Pt.zero_x]; grind, by rw [Pt.zero_y]; grind, by rw [Pt.zero_x]; grind⟩
theorem rep_pt (p : Pt) : Rep p.x p.y 1 (p.x * p.y) p := ⟨one_ne, by grind, by grind, by grind⟩
theorem plus_x {X1 Y1 X2 Y2 X3 z1 z2 d : F} (h : X3 * (1 + d*(X1*X2*(Y1*Y2))) = X1*Y2+X2*Y1) :
  (((Y1*z1 + X1*z1)*(Y2*z2 + X2*z2) - (Y1*z1 - X1*z1)*(Y2*z2 - X2*z2)) * ((z1*z2 + z1*z2) - (X1*Y1*z1)*(d + d)*(X2*Y2*z2)))
   = X3 * (((z1*z2 + z1*z2) - (X1*Y1*z1)*(d + d)*(X2*Y2*z2)) * ((z1*z2 + z1*z2) + (X1*Y1*z1)*(d + d)*(X2*Y2*z2))) := by grind
theorem plus_y {X1 Y1 X2 Y2 Y3 z1 z2 d : F} (h : Y3 * (1 - d*(X1*X2*(Y1*Y2))) = Y1*Y2+X1*X2) :
  (((z1*z2 + z1*z2) + (X1*Y1*z1)*(d + d)*(X2*Y2*z2)) * ((Y1*z1 + X1*z1)*(Y2*z2 + X2*z2) + (Y1*z1 - X1*z1)*(Y2*z2 - X2*z2)))
   = Y3 * (((z1*z2 + z1*z2) - (X1*Y1*z1)*(d + d)*(X2*Y2*z2)) * ((z1*z2 + z1*z2) + (X1*Y1*z1)*(d + d)*(X2*Y2*z2))) := by grind
theorem plus_t {X1 Y1 X2 Y2 X3 Y3 z1 z2 d : F} (h : X3 * (1 + d*(X1*X2*(Y1*Y2))) = X1*Y2+X2*Y1) (h' : Y3 * (1 - d*(X1*X2*(Y1*Y2))) = Y1*Y2+X1*X2) :
  (((Y1*z1 + X1*z1)*(Y2*z2 + X2*z2) - (Y1*z1 - X1*z1)*(Y2*z2 - X2*z2)) * ((Y1*z1 + X1*z1)*(Y2*z2 + X2*z2) + (Y1*z1 - X1*z1)*(Y2*z2 - X2*z2)))
   = X3 * Y3 * (((z1*z2 + z1*z2) - (X1*Y1*z1)*(d + d)*(X2*Y2*z2)) * ((z1*z2 + z1*z2) + (X1*Y1*z1)*(d + d)*(X2*Y2*z2))) := by grind
theorem two_mul_ne {a : F} (h : a ≠ 0) : a + a ≠ 0 := fun e => by
 have h1 : (1 + 1) * a = 0 := by grind
 rcases F_mul_eq_zero h1 with h2 | h2
 ·exact two_ne h2
 ·exact h h2
theorem rep_plus {x1 y1 z1 t1 x2 y2 z2 t2 a b c e f g h k : F} {p q : Pt} (hp : Rep x1 y1 z1 t1 p) (hq : Rep x2 y2 z2 t2 q)
  (ha : a = (y1 - x1) * (y2 - x2)) (hb : b = (y1 + x1) * (y2 + x2)) (hc : c = t1 * (D + D) * t2) (he : e = z1 * z2 + z1 * z2)
  (hf : f = b - a) (hg : g = e - c) (hh : h = e + c) (hk : k = b + a) : Rep (f * g) (h * k) (g * h) (f * k) (p + q) := by
 obtain ⟨z1n, rfl, rfl, rfl⟩ := hp
 obtain ⟨z2n, rfl, rfl, rfl⟩ := hq
 subst ha hb hc he hf hg hh hk
 have sx := sum_x_mul p q
 have sy := sum_y_mul p q
 have np := complete_plus p.on q.on
 have nm := complete_minus p.on q.on
 refine ⟨?_, plus_x sx, plus_y sy, plus_t sx sy⟩
 have zz := two_mul_ne (mul_ne z1n z2n)
 have e1 : z1 * z2 + z1 * z2 - p.x * p.y * z1 * (D + D) * (q.x * q.y * z2) = (z1 * z2 + z1 * z2) * (1 - D*(p.x*q.x*(p.y*q.y))) := by
  generalize D = d; grind
 have e2 : z1 * z2 + z1 * z2 + p.x * p.y * z1 * (D + D) * (q.x * q.y * z2) = (z1 * z2 + z1 * z2) * (1 + D*(p.x*q.x*(p.y*q.y))) := by
  generalize D = d; grind
 rw [e1, e2]
 exact mul_ne (mul_ne zz nm) (mul_ne zz np)
theorem ref_x {X1 Y1 X2 Y2 X3 z1 z2 d : F} (h : X3 * (1 + d*(X1*X2*(Y1*Y2))) = X1*Y2+X2*Y1) :
  (z1*z2) * ((X1*z1)*(Y2*z2) + (X2*z2)*(Y1*z1)) * ((z1*z2)*(z1*z2) - d*(((X1*z1)*(X2*z2))*((Y1*z1)*(Y2*z2))))
   = X3 * (((z1*z2)*(z1*z2) - d*(((X1*z1)*(X2*z2))*((Y1*z1)*(Y2*z2)))) * ((z1*z2)*(z1*z2) + d*(((X1*z1)*(X2*z2))*((Y1*z1)*(Y2*z2))))) := by grind
theorem ref_y {X1 Y1 X2 Y2 Y3 z1 z2 d : F} (h : Y3 * (1 - d*(X1*X2*(Y1*Y2))) = Y1*Y2+X1*X2) :
  (z1*z2) * ((Y1*z1)*(Y2*z2) + (X1*z1)*(X2*z2)) * ((z1*z2)*(z1*z2) + d*(((X1*z1)*(X2*z2))*((Y1*z1)*(Y2*z2))))
   = Y3 * (((z1*z2)*(z1*z2) - d*(((X1*z1)*(X2*z2))*((Y1*z1)*(Y2*z2)))) * ((z1*z2)*(z1*z2) + d*(((X1*z1)*(X2*z2))*((Y1*z1)*(Y2*z2))))) := by grind
theorem rep3_plus {x1 y1 z1 x2 y2 z2 c cc xx yy e cross less more : F} {p q : Pt} (hp : Rep3 x1 y1 z1 p) (hq : Rep3 x2 y2 z2 q)
  (hc : c = z1 * z2) (hcc : cc = c * c) (hxx : xx = x1 * x2) (hyy : yy = y1 * y2) (he : e = D * (xx * yy)) (hcr : cross = x1 * y2 + x2 * y1)
  (hl : less = cc - e) (hm : more = cc + e) : Rep3 (c * cross * less) (c * (yy + xx) * more) (less * more) (p + q) := by
 obtain ⟨z1n, rfl, rfl⟩ := hp
 obtain ⟨z2n, rfl, rfl⟩ := hq
 have sx := sum_x_mul p q
 have sy := sum_y_mul p q
 have np := complete_plus p.on q.on
 have nm := complete_minus p.on q.on
 have zz := mul_ne z1n z2n
 subst hc hcc hxx hyy he hcr hl hm
 refine ⟨?_, ref_x sx, ref_y sy⟩
 have e1 : z1 * z2 * (z1 * z2) - D * (p.x * z1 * (q.x * z2) * (p.y * z1 * (q.y * z2))) = (z1 * z2) * (z1 * z2) * (1 - D*(p.x*q.x*(p.y*q.y))) := by
  clear sx sy np nm zz z1n z2n; generalize D = d; grind
 have e2 : z1 * z2 * (z1 * z2) + D * (p.x * z1 * (q.x * z2) * (p.y * z1 * (q.y * z2))) = (z1 * z2) * (z1 * z2) * (1 + D*(p.x*q.x*(p.y*q.y))) := by
  clear sx sy np nm zz z1n z2n; generalize D = d; grind
 rw [e1, e2]
 exact mul_ne (mul_ne (mul_ne zz zz) nm) (mul_ne (mul_ne zz zz) np)
theorem drop_x {x z X : F} (h : x = X * z) (hz : z ≠ 0) : x * inv z = X := by
 subst h
 have := mul_inv hz
 generalize inv z = i at *
 grind
theorem Rep3.drop {x y z : F} {p : Pt} (h : Rep3 x y z p) : x * inv z = p.x ∧ y * inv z = p.y := ⟨drop_x h.2.1 h.1, drop_x h.2.2 h.1⟩
theorem Rep.drop {x y z t : F} {p : Pt} (h : Rep x y z t p) : x * inv z = p.x ∧ y * inv z = p.y := ⟨drop_x h.2.1 h.1, drop_x h.2.2.1 h.1⟩
end Go.Ed
namespace Go.Ed
open Go.Num
def phi (n : Nat) : F := Fin.ofNat P n
theorem phi_val (n : Nat) : (phi n).val = n % P := rfl
theorem phi_of_val (a : F) : phi a.val = a := Fin.ext (by rw [phi_val]; exact Nat.mod_eq_of_lt a.isLt)
theorem phi_mod (n : Nat) : phi (n % P) = phi n := Fin.ext (by rw [phi_val, phi_val, Nat.mod_mod])
theorem phi_mul (a b : Nat) : phi (a * b) = phi a * phi b := Fin.ext (by rw [F_val_mul, phi_val, phi_val, phi_val, ← Nat.mul_mod])
theorem phi_add (a b : Nat) : phi (a + b) = phi a + phi b := Fin.ext (by rw [F_val_add, phi_val, phi_val, phi_val, ← Nat.add_mod])
theorem phi_inj {a b : Nat} (ha : a < P) (hb : b < P) (h : phi a = phi b) : a = b := by
 have h1 := congrArg Fin.val h
 rw [phi_val, phi_val, Nat.mod_eq_of_lt ha, Nat.mod_eq_of_lt hb] at h1
 exact h1
theorem phi_zero : phi 0 = 0 := Fin.ext rfl
theorem phi_one : phi 1 = 1 := Fin.ext (by decide +kernel)
theorem phi_P : phi P = 0 := Fin.ext (by rw [phi_val, Nat.mod_self]; rfl)
theorem phi_sub {a b : Nat} (hb : b ≤ P) : phi (a + (P - b)) = phi a - phi b := by
 have h : phi (P - b) + phi b = 0 := by rw [← phi_add, Nat.sub_add_cancel hb, phi_P]
 rw [phi_add]
 generalize phi (P - b) = u at *
 grind
theorem phi_pow (a n : Nat) : phi (a ^ n) = phi a ^ n := by
 apply Fin.ext
 rw [phi_val, F_pow_val, phi_val, ← Nat.pow_mod]
structure T3 where
 x : Nat
 y : Nat
 z : Nat
def dN : Nat := 37095705934669439343138083508754565189542113879843219016388785533085940283555
theorem phi_dN : phi dN = D := Fin.ext (by decide +kernel)
def bx : Nat := 15112221349535400772501151409588531511454012693041857206046113283949847762202
def bY : Nat := 46316835694926478169428394003475163141307993866256225615783033603165251855960
def L : Nat := 7237005577332262213973186563042994240857116359379907606001950938285454250989
theorem base_on : On (phi bx) (phi bY) := by
 unfold On
 rw [← phi_dN]
 decide +kernel
def base : Pt := ⟨phi bx, phi bY, base_on⟩
end Go.Ed
