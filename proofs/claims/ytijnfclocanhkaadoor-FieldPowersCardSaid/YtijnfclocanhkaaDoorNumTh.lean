set_option linter.unusedVariables false
set_option linter.unusedSimpArgs false
/- Prime numbers without a library: Fermat's little theorem, and a test by powers (Pocklington's) that a number is prime. -/
namespace Go.Num

def IsPrime (p : Nat) : Prop := 1 < p ∧ ∀ m, m ∣ p → m = 1 ∨ m = p

theorem IsPrime.two_le {p : Nat} (h : IsPrime p) : 2 ≤ p := h.1

theorem IsPrime.coprime {p a : Nat} (h : IsPrime p) (ha : ¬ p ∣ a) : Nat.gcd a p = 1 := by
  rcases h.2 _ (Nat.gcd_dvd_right a p) with h1 | h1
  · exact h1
  · exact absurd (h1 ▸ Nat.gcd_dvd_left a p) ha

theorem IsPrime.dvd_mul {p a b : Nat} (h : IsPrime p) (hd : p ∣ a * b) : p ∣ a ∨ p ∣ b := by
  by_cases ha : p ∣ a
  · exact .inl ha
  · right
    have hc : Nat.Coprime p a := by unfold Nat.Coprime; rw [Nat.gcd_comm]; exact h.coprime ha
    exact hc.dvd_of_dvd_mul_left hd

theorem IsPrime.not_dvd_one {p : Nat} (h : IsPrime p) : ¬ p ∣ 1 := by
  intro hd
  have := Nat.le_of_dvd (by omega) hd
  have := h.1
  omega

theorem IsPrime.dvd_pow {p a n : Nat} (h : IsPrime p) (hd : p ∣ a ^ n) : p ∣ a := by
  induction n with
  | zero => exact absurd (by simpa using hd) h.not_dvd_one
  | succ n ih =>
    rw [Nat.pow_succ] at hd
    rcases h.dvd_mul hd with h1 | h1
    · exact ih h1
    · exact h1

theorem exists_prime_dvd (n : Nat) (h : 1 < n) : ∃ q, IsPrime q ∧ q ∣ n := by
  induction n using Nat.strongRecOn with
  | _ n ih =>
    by_cases hp : IsPrime n
    · exact ⟨n, hp, Nat.dvd_refl n⟩
    · have : ∃ m, m ∣ n ∧ m ≠ 1 ∧ m ≠ n := by
        apply Classical.byContradiction
        intro hne
        apply hp
        refine ⟨h, fun m hm => ?_⟩
        by_cases h1 : m = 1
        · exact .inl h1
        · right
          apply Classical.byContradiction
          intro h2
          exact hne ⟨m, hm, h1, h2⟩
      obtain ⟨m, hm, h1, h2⟩ := this
      have hle := Nat.le_of_dvd (by omega) hm
      have hpos : 0 < m := Nat.pos_of_dvd_of_pos hm (by omega)
      obtain ⟨q, hq, hqd⟩ := ih m (by omega) (by omega)
      exact ⟨q, hq, Nat.dvd_trans hqd hm⟩

theorem mod_eq_of_dvd_sub {p a b : Nat} (hle : b ≤ a) (h : p ∣ a - b) : a % p = b % p := by
  obtain ⟨c, hc⟩ := h
  have : a = b + p * c := by omega
  rw [this, Nat.add_mul_mod_self_left]

theorem dvd_sub_of_mod_eq {p a b : Nat} (h : a % p = b % p) : p ∣ a - b := by
  by_cases hle : b ≤ a
  · refine ⟨a / p - b / p, ?_⟩
    have h1 := Nat.div_add_mod a p
    have h2 := Nat.div_add_mod b p
    have hle' : b / p ≤ a / p := Nat.div_le_div_right hle
    rw [Nat.mul_sub]
    omega
  · rw [Nat.sub_eq_zero_of_le (by omega)]
    exact Nat.dvd_zero p

theorem IsPrime.mul_cancel {p a b c : Nat} (h : IsPrime p) (hc : ¬ p ∣ c) (he : a * c % p = b * c % p) : a % p = b % p := by
  rcases Nat.le_total b a with hle | hle
  · refine mod_eq_of_dvd_sub hle ?_
    have hd := dvd_sub_of_mod_eq he
    rw [← Nat.sub_mul] at hd
    exact (h.dvd_mul hd).resolve_right hc
  · refine (mod_eq_of_dvd_sub hle ?_).symm
    have hd := dvd_sub_of_mod_eq he.symm
    rw [← Nat.sub_mul] at hd
    exact (h.dvd_mul hd).resolve_right hc

theorem perm_of_nodup_subset {l₁ l₂ : List Nat} (hn : l₁.Nodup) (hs : ∀ x ∈ l₁, x ∈ l₂) (hl : l₂.length ≤ l₁.length) : l₁.Perm l₂ := by
  induction l₁ generalizing l₂ with
  | nil =>
    have : l₂ = [] := by simpa using hl
    subst this
    exact List.Perm.refl _
  | cons a l ih =>
    have ha : a ∈ l₂ := hs a (by simp)
    have hp := List.perm_cons_erase ha
    refine List.Perm.trans (List.Perm.cons a (ih (List.nodup_cons.1 hn).2 ?_ ?_)) hp.symm
    · intro x hx
      have hne : x ≠ a := fun e => (List.nodup_cons.1 hn).1 (e ▸ hx)
      exact (List.mem_erase_of_ne hne).2 (hs x (by simp [hx]))
    · have := List.length_erase_of_mem ha
      simp at hl
      omega

theorem prod_map_mod (p a : Nat) (l : List Nat) : (l.map (fun i => a * i % p)).prod % p = a ^ l.length * l.prod % p := by
  induction l with
  | nil => simp
  | cons b l ih =>
    simp only [List.map_cons, List.prod_cons, List.length_cons]
    rw [Nat.mul_mod, ih, ← Nat.mul_mod, Nat.mul_mod, Nat.mod_mod, ← Nat.mul_mod]
    congr 1
    rw [Nat.pow_succ]
    simp only [Nat.mul_assoc, Nat.mul_left_comm, Nat.mul_comm]

theorem IsPrime.not_dvd_prod {p : Nat} (h : IsPrime p) (l : List Nat) (hl : ∀ x ∈ l, ¬ p ∣ x) : ¬ p ∣ l.prod := by
  induction l with
  | nil => simpa using h.not_dvd_one
  | cons b l ih =>
    intro hd
    rw [List.prod_cons] at hd
    rcases h.dvd_mul hd with h1 | h1
    · exact hl b (by simp) h1
    · exact ih (fun x hx => hl x (by simp [hx])) h1

theorem nodup_map_of {l : List Nat} (f : Nat → Nat) (hn : l.Nodup) (hf : ∀ x ∈ l, ∀ y ∈ l, f x = f y → x = y) : (l.map f).Nodup := by
  induction l with
  | nil => simp
  | cons a l ih =>
    rw [List.nodup_cons] at hn
    rw [List.map_cons, List.nodup_cons]
    refine ⟨?_, ih hn.2 (fun x hx y hy => hf x (by simp [hx]) y (by simp [hy]))⟩
    intro hm
    obtain ⟨b, hb, he⟩ := List.mem_map.1 hm
    have := hf b (by simp [hb]) a (by simp) he
    exact hn.1 (this ▸ hb)

/-- Fermat's little theorem. -/
theorem IsPrime.fermat {p a : Nat} (h : IsPrime p) (ha : ¬ p ∣ a) : a ^ (p - 1) % p = 1 := by
  have h2 := h.two_le
  have hmem : ∀ x, x ∈ List.range' 1 (p - 1) ↔ 1 ≤ x ∧ x < p := by
    intro x
    rw [List.mem_range'_1]
    omega
  have hnd : ∀ x ∈ List.range' 1 (p - 1), ¬ p ∣ x := by
    intro x hx hd
    have := (hmem x).1 hx
    have := Nat.le_of_dvd (by omega) hd
    omega
  have hperm : ((List.range' 1 (p - 1)).map (fun i => a * i % p)).Perm (List.range' 1 (p - 1)) := by
    refine perm_of_nodup_subset (nodup_map_of _ (List.nodup_range' 1) ?_) ?_ (by simp)
    · intro x hx y hy he
      have hx' := (hmem x).1 hx
      have hy' := (hmem y).1 hy
      have he' : x * a % p = y * a % p := by simpa [Nat.mul_comm] using he
      have := h.mul_cancel ha he'
      rwa [Nat.mod_eq_of_lt hx'.2, Nat.mod_eq_of_lt hy'.2] at this
    · intro x hx
      obtain ⟨i, hi, rfl⟩ := List.mem_map.1 hx
      refine (hmem _).2 ⟨?_, Nat.mod_lt _ (by omega)⟩
      have hne : ¬ p ∣ a * i := fun hd => by
        rcases h.dvd_mul hd with h1 | h1
        · exact ha h1
        · exact hnd i hi h1
      have : a * i % p ≠ 0 := fun e => hne (Nat.dvd_of_mod_eq_zero e)
      omega
  have hprod := hperm.prod_nat
  have hm := prod_map_mod p a (List.range' 1 (p - 1))
  rw [hprod, List.length_range'] at hm
  have := h.mul_cancel (a := a ^ (p - 1)) (b := 1) (h.not_dvd_prod _ hnd) (by rw [Nat.one_mul]; exact hm.symm)
  rw [this]
  exact Nat.mod_eq_of_lt (by omega)

theorem pow_one_mod {q b m : Nat} (hq : 1 < q) (h : b ^ m % q = 1) (k : Nat) : b ^ (m * k) % q = 1 := by
  rw [Nat.pow_mul, Nat.pow_mod, h, Nat.one_pow]
  exact Nat.mod_eq_of_lt hq

theorem pow_gcd_mod {q b : Nat} (hq : 1 < q) (m n : Nat) : b ^ m % q = 1 → b ^ n % q = 1 → b ^ (Nat.gcd m n) % q = 1 := by
  induction m, n using Nat.gcd.induction with
  | H0 n => intro _ h; rw [Nat.gcd_zero_left]; exact h
  | H1 m n _ ih =>
    intro h1 h2
    rw [Nat.gcd_rec]
    refine ih ?_ h1
    have hd := Nat.div_add_mod n m
    have h3 : b ^ (m * (n / m) + n % m) % q = 1 := by rw [hd]; exact h2
    rw [Nat.pow_add, Nat.mul_mod, pow_one_mod hq h1, Nat.one_mul, Nat.mod_mod] at h3
    exact h3

theorem fermat_test_divides {N q r a k : Nat} (hr : IsPrime r) (hk : N - 1 = r * k) (hq : IsPrime q) (hqN : q ∣ N) (h1 : a ^ (N - 1) % N = 1) (hN : 1 < N)
    (hg : Nat.gcd (a ^ k % N + (N - 1)) N = 1) : r ∣ q - 1 := by
  have hq2 := hq.two_le
  apply Classical.byContradiction
  intro hnd
  -- b := a ^ k, b ^ r ≡ 1 modulo q
  have hb : (a ^ k) ^ r % q = 1 := by
    rw [← Nat.pow_mul, Nat.mul_comm k r, ← hk]
    have := congrArg (· % q) h1
    simp only [Nat.mod_mod_of_dvd _ hqN] at this
    rw [this]
    exact Nat.mod_eq_of_lt hq2
  have hna : ¬ q ∣ a ^ k := by
    intro hd
    obtain ⟨s, rfl⟩ : ∃ s, r = s + 1 := ⟨r - 1, by have := hr.two_le; omega⟩
    have h0 : q ∣ (a ^ k) ^ (s + 1) := by rw [Nat.pow_succ]; exact Nat.dvd_mul_left_of_dvd hd _
    have := Nat.mod_eq_zero_of_dvd h0
    omega
  have hf := hq.fermat hna
  have hg1 := pow_gcd_mod (q := q) (b := a ^ k) hq2 r (q - 1) hb hf
  have hcop : Nat.gcd r (q - 1) = 1 := by
    rw [Nat.gcd_comm]
    exact hr.coprime hnd
  rw [hcop, Nat.pow_one] at hg1
  -- q divides a ^ k % N + (N - 1)
  have hd : q ∣ a ^ k % N + (N - 1) := by
    apply Nat.dvd_of_mod_eq_zero
    have e : (a ^ k % N) % q = 1 := by rw [Nat.mod_mod_of_dvd _ hqN]; exact hg1
    obtain ⟨c, hc⟩ := hqN
    have h5 := Nat.div_add_mod (a ^ k % N) q
    rw [e] at h5
    have : a ^ k % N + (N - 1) = q * (a ^ k % N / q + c) := by rw [Nat.mul_add]; omega
    rw [this]
    exact Nat.mul_mod_right _ _
  have hd1 : q ∣ Nat.gcd (a ^ k % N + (N - 1)) N := Nat.dvd_gcd hd hqN
  rw [hg] at hd1
  exact hq.not_dvd_one hd1


theorem prime_of_no_small {N F : Nat} (hN : 1 < N) (hF : N < (F + 1) * (F + 1)) (h : ∀ q, IsPrime q → q ∣ N → F ∣ q - 1) : IsPrime N := by
  refine ⟨hN, fun m hm => ?_⟩
  apply Classical.byContradiction
  intro hne
  obtain ⟨c, hc⟩ := hm
  have hm1 : m ≠ 1 := fun e => hne (.inl e)
  have hmN : m ≠ N := fun e => hne (.inr e)
  have hm0 : m ≠ 0 := fun e => by subst e; simp at hc; omega
  have hc0 : c ≠ 0 := fun e => by subst e; simp at hc; omega
  have hc1 : c ≠ 1 := fun e => by subst e; simp at hc; omega
  have big : ∀ x, 1 < x → x ∣ N → F + 1 ≤ x := by
    intro x hx hxN
    obtain ⟨q, hq, hqx⟩ := exists_prime_dvd x hx
    have h1 := h q hq (Nat.dvd_trans hqx hxN)
    have h2 := hq.two_le
    have h3 := Nat.le_of_dvd (by omega) h1
    have h4 := Nat.le_of_dvd (by omega) hqx
    omega
  have h1 := big m (by omega) ⟨c, hc⟩
  have h2 := big c (by omega) ⟨m, by rw [hc, Nat.mul_comm]⟩
  have := Nat.mul_le_mul h1 h2
  omega

theorem mul_dvd_of_primes {r s n : Nat} (hr : IsPrime r) (hs : IsPrime s) (hne : r ≠ s) (h1 : r ∣ n) (h2 : s ∣ n) : r * s ∣ n := by
  obtain ⟨c, rfl⟩ := h1
  have : ¬ s ∣ r := fun hd => by
    rcases hr.2 s hd with e | e
    · have := hs.two_le; omega
    · exact hne e.symm
  have h3 := (hs.dvd_mul h2).resolve_left this
  exact Nat.mul_dvd_mul_left r h3

/-- a ^ e modulo n, e by its bits (fuel f). -/
def powmodGo (n : Nat) : Nat → Nat → Nat → Nat → Nat
  | 0, _, _, acc => acc
  | f + 1, a, e, acc => powmodGo n f (a * a % n) (e / 2) (if e % 2 = 1 then acc * a % n else acc)

def powmod (a e n : Nat) : Nat := powmodGo n 256 (a % n) e (1 % n)

theorem powmodGo_eq (n : Nat) (f : Nat) : ∀ a e acc, e < 2 ^ f → powmodGo n f a e acc % n = acc * a ^ e % n := by
  induction f with
  | zero =>
    intro a e acc h
    have : e = 0 := by simpa using h
    subst this
    simp [powmodGo]
  | succ f ih =>
    intro a e acc h
    unfold powmodGo
    rw [ih _ _ _ (by rw [Nat.pow_succ] at h; omega)]
    have hd := Nat.div_add_mod e 2
    have h2 : a ^ e = (a * a) ^ (e / 2) * a ^ (e % 2) := by
      rw [show a * a = a ^ 2 from (Nat.pow_two a).symm, ← Nat.pow_mul, ← Nat.pow_add, hd]
    rw [h2]
    have h3 : (a * a % n) ^ (e / 2) % n = (a * a) ^ (e / 2) % n := (Nat.pow_mod _ _ _).symm
    by_cases he : e % 2 = 1
    · rw [if_pos he, he, Nat.pow_one, Nat.mul_mod, Nat.mod_mod, h3, ← Nat.mul_mod]
      congr 1
      rw [Nat.mul_assoc, Nat.mul_comm a]
    · have he0 : e % 2 = 0 := by omega
      rw [if_neg he, he0, Nat.pow_zero, Nat.mul_one, Nat.mul_mod, h3, ← Nat.mul_mod]

theorem powmodGo_lt (n : Nat) (hn : 0 < n) (f : Nat) : ∀ a e acc, acc < n → powmodGo n f a e acc < n := by
  induction f with
  | zero => intro a e acc h; exact h
  | succ f ih =>
    intro a e acc h
    unfold powmodGo
    refine ih _ _ _ ?_
    split
    · exact Nat.mod_lt _ hn
    · exact h

theorem powmod_eq {a e n : Nat} (hn : 0 < n) (he : e < 2 ^ 256) : powmod a e n = a ^ e % n := by
  unfold powmod
  rw [← Nat.mod_eq_of_lt (powmodGo_lt n hn 256 (a % n) e (1 % n) (Nat.mod_lt _ hn)), powmodGo_eq n 256 _ _ _ he,
    Nat.mul_mod, ← Nat.pow_mod, Nat.mod_mod, ← Nat.mul_mod, Nat.one_mul]

/-- One prime factor r of N - 1, tested at base a: every prime divisor of N is 1 modulo r. -/
def testOk (N r a : Nat) : Bool := (N - 1) % r == 0 && powmod a (N - 1) N == 1 && Nat.gcd (powmod a ((N - 1) / r) N + (N - 1)) N == 1

theorem test_divides {N q r a : Nat} (hr : IsPrime r) (hN : 1 < N) (hN2 : N < 2 ^ 256) (h : testOk N r a = true) (hq : IsPrime q) (hqN : q ∣ N) : r ∣ q - 1 := by
  unfold testOk at h
  simp only [Bool.and_eq_true, beq_iff_eq] at h
  obtain ⟨⟨h1, h2⟩, h3⟩ := h
  have hle : (N - 1) / r ≤ N - 1 := Nat.div_le_self _ _
  rw [powmod_eq (by omega) (by omega)] at h2 h3
  have hk : N - 1 = r * ((N - 1) / r) := by have := Nat.div_add_mod (N - 1) r; omega
  exact fermat_test_divides hr hk hq hqN h2 hN h3

theorem prime_of_one {N : Nat} (r a : Nat) (hr : IsPrime r) (hN : 1 < N) (hN2 : N < 2 ^ 256) (h : testOk N r a = true) (hF : N < (r + 1) * (r + 1)) : IsPrime N :=
  prime_of_no_small hN hF fun _ hq hqN => test_divides hr hN hN2 h hq hqN

theorem prime_of_two {N : Nat} (r s a b : Nat) (hr : IsPrime r) (hs : IsPrime s) (hne : r ≠ s) (hN : 1 < N) (hN2 : N < 2 ^ 256) (h : testOk N r a = true) (h' : testOk N s b = true)
    (hF : N < (r * s + 1) * (r * s + 1)) : IsPrime N :=
  prime_of_no_small hN hF fun _ hq hqN => mul_dvd_of_primes hr hs hne (test_divides hr hN hN2 h hq hqN) (test_divides hs hN hN2 h' hq hqN)

/-- no number from 2 to k + 1 divides n -/
def noneDivides (n : Nat) : Nat → Bool
  | 0 => true
  | k + 1 => n % (k + 2) != 0 && noneDivides n k

theorem noneDivides_spec {n : Nat} : ∀ k, noneDivides n k = true → ∀ m, 2 ≤ m → m ≤ k + 1 → ¬ m ∣ n := by
  intro k
  induction k with
  | zero => intro _ m h1 h2; omega
  | succ k ih =>
    intro h m h1 h2 hd
    simp only [noneDivides, Bool.and_eq_true, bne_iff_ne] at h
    by_cases e : m = k + 2
    · subst e; exact h.1 (Nat.mod_eq_zero_of_dvd hd)
    · exact ih h.2 m h1 (by omega) hd

theorem prime_of_trial {n : Nat} (k : Nat) (h1 : 1 < n) (hk : n < (k + 2) * (k + 2)) (h : noneDivides n k = true) : IsPrime n := by
  refine ⟨h1, fun m hm => ?_⟩
  apply Classical.byContradiction
  intro hne
  have hs := noneDivides_spec k h
  obtain ⟨c, hc⟩ := hm
  have hm1 : m ≠ 1 := fun e => hne (.inl e)
  have hmN : m ≠ n := fun e => hne (.inr e)
  have hm0 : m ≠ 0 := fun e => by subst e; simp at hc; omega
  have hc0 : c ≠ 0 := fun e => by subst e; simp at hc; omega
  have hc1 : c ≠ 1 := fun e => by subst e; simp at hc; omega
  have h2 : k + 2 ≤ m := by
    apply Classical.byContradiction; intro hlt
    exact hs m (by omega) (by omega) ⟨c, hc⟩
  have h3 : k + 2 ≤ c := by
    apply Classical.byContradiction; intro hlt
    exact hs c (by omega) (by omega) ⟨m, by rw [hc, Nat.mul_comm]⟩
  have := Nat.mul_le_mul h2 h3
  omega

end Go.Num
