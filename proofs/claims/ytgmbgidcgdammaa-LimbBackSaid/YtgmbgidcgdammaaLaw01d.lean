/- LimbBack, walked. -/
import Derived.Test.YtgmbgidcgdammaaAid
namespace Go.Proofs.Ytgmbgidcgdammaa
open Go.RowKit Go.Num

theorem back_sub {x y : Nat} (hx : x < N) (hy : y < N) : ((x + y) % N + N - y) % N = x ∧ decide ((x + y) % N < y) = decide (N ≤ x + y) := by
  have h : (x + y) % N = x + y ∨ (x + y) % N + N = x + y := by unfold N at *; omega
  constructor
  · unfold N at *; omega
  · rw [decide_eq_decide]; unfold N at *; omega

theorem self_sub {x : Nat} (hx : x < N) : (x + N - x) % N = 0 := by
  rw [show x + N - x = N by omega, Nat.mod_self]

attribute [local go_sem] cmpN_neg

set_option maxHeartbeats 8000000 in
theorem limbBack_walk (x y : Nat) (hx : x < N) (hy : y < N) (w : World) :
    Calls Try.prog 14 #[.agg #[.int .u64 (lm x 0), .int .u64 (lm x 1), .int .u64 (lm x 2), .int .u64 (lm x 3)], .agg #[.int .u64 (lm y 0), .int .u64 (lm y 1), .int .u64 (lm y 2), .int .u64 (lm y 3)]] w fun e w' => e = .returned (.bool true) ∧ Below w.heap.size w w' := by
  have H1 := Lib.hid (limb_add x y hx hy)
  have h2 := limb_add y x hy hx
  rw [Nat.add_comm y x] at h2
  have H2 := Lib.hid h2
  have h3 := limb_sub ((x + y) % N) y (Nat.mod_lt _ (by decide)) hy
  rw [(back_sub hx hy).1, (back_sub hx hy).2] at h3
  have H3 := Lib.hid h3
  have H4 := Lib.hid (limb_sub x y hx hy)
  have h5 := limb_sub x x hx hx
  rw [self_sub hx, decide_eq_false (Nat.lt_irrefl x)] at h5
  have H5 := Lib.hid h5
  have H6 := Lib.hid (limb_cmp x y hx hy)
  have h7 := limb_cmp y x hy hx
  rw [cmpN_swap x y] at h7
  have H7 := Lib.hid h7
  have hneg := cmpN_neg x y
  have HN := Lib.hid hneg
  clear h2 h3 h5 h7 hneg hx hy
  go_enter Try.func14, Try.ntmps14
  go_wp2_with fail
  refine (H1.out _).mono ?_
  rintro e w1 ⟨rfl, hb1⟩
  obtain ⟨hc1, hf1⟩ := bcell hb1
  have hz1 := hb1.size
  try simp at hz1
  try have hy1 := Nat.lt_of_succ_le hz1
  have hB1 : Below w.heap.size w w1 := by (refine Below.trans ?_ (hb1.mono ?_)) <;> (repeat' (first | (with_reducible exact Below.refl _ _) | (with_reducible assumption) | (with_reducible refine Below.drewN' ?_ _) | (with_reducible refine Below.alloc ?_ ?_ _) | (with_reducible refine Below.drew ?_) | (with_reducible refine Below.setCell ?_ ?_ _) | go_size))
  have l_w_wp1 : w.heap.size < w.heap.size + 1 := (by omega); have m_w_wp1 : w.heap.size < w.heap.size + 1 + 1 := (by omega); have l_w_w1 : w.heap.size < w1.heap.size := (by omega); have m_w_w1 : w.heap.size < w1.heap.size + 1 := (by omega); have l_wp1_w1 : w.heap.size + 1 < w1.heap.size := (by omega); have m_wp1_w1 : w.heap.size + 1 < w1.heap.size + 1 := (by omega)
  go_wp2_with fail
  refine (H2.out _).mono ?_
  rintro e w2 ⟨rfl, hb2⟩
  obtain ⟨hc2, hf2⟩ := bcell hb2
  have hz2 := hb2.size
  try simp at hz2
  try have hy2 := Nat.lt_of_succ_le hz2
  have hB2 : Below w.heap.size w w2 := by (refine Below.trans ?_ (hb2.mono ?_)) <;> (repeat' (first | (with_reducible exact Below.refl _ _) | (with_reducible assumption) | (with_reducible refine Below.drewN' ?_ _) | (with_reducible refine Below.alloc ?_ ?_ _) | (with_reducible refine Below.drew ?_) | (with_reducible refine Below.setCell ?_ ?_ _) | go_size))
  have l_w_wp1 : w.heap.size < w.heap.size + 1 := (by omega); have m_w_wp1 : w.heap.size < w.heap.size + 1 + 1 := (by omega); have l_w_w1 : w.heap.size < w1.heap.size := (by omega); have m_w_w1 : w.heap.size < w1.heap.size + 1 := (by omega); have l_wp1_w1 : w.heap.size + 1 < w1.heap.size := (by omega); have m_wp1_w1 : w.heap.size + 1 < w1.heap.size + 1 := (by omega); have l_w_w2 : w.heap.size < w2.heap.size := (by omega); have m_w_w2 : w.heap.size < w2.heap.size + 1 := (by omega); have l_wp1_w2 : w.heap.size + 1 < w2.heap.size := (by omega); have m_wp1_w2 : w.heap.size + 1 < w2.heap.size + 1 := (by omega); have l_w1_w2 : w1.heap.size < w2.heap.size := (by omega); have m_w1_w2 : w1.heap.size < w2.heap.size + 1 := (by omega)
  go_wp2_with fail
  refine (H3.out _).mono ?_
  rintro e w3 ⟨rfl, hb3⟩
  obtain ⟨hc3, hf3⟩ := bcell hb3
  have hz3 := hb3.size
  try simp at hz3
  try have hy3 := Nat.lt_of_succ_le hz3
  have hB3 : Below w.heap.size w w3 := by (refine Below.trans ?_ (hb3.mono ?_)) <;> (repeat' (first | (with_reducible exact Below.refl _ _) | (with_reducible assumption) | (with_reducible refine Below.drewN' ?_ _) | (with_reducible refine Below.alloc ?_ ?_ _) | (with_reducible refine Below.drew ?_) | (with_reducible refine Below.setCell ?_ ?_ _) | go_size))
  have l_w_wp1 : w.heap.size < w.heap.size + 1 := (by omega); have m_w_wp1 : w.heap.size < w.heap.size + 1 + 1 := (by omega); have l_w_w1 : w.heap.size < w1.heap.size := (by omega); have m_w_w1 : w.heap.size < w1.heap.size + 1 := (by omega); have l_wp1_w1 : w.heap.size + 1 < w1.heap.size := (by omega); have m_wp1_w1 : w.heap.size + 1 < w1.heap.size + 1 := (by omega); have l_w_w2 : w.heap.size < w2.heap.size := (by omega); have m_w_w2 : w.heap.size < w2.heap.size + 1 := (by omega); have l_wp1_w2 : w.heap.size + 1 < w2.heap.size := (by omega); have m_wp1_w2 : w.heap.size + 1 < w2.heap.size + 1 := (by omega); have l_w1_w2 : w1.heap.size < w2.heap.size := (by omega); have m_w1_w2 : w1.heap.size < w2.heap.size + 1 := (by omega); have l_w_w3 : w.heap.size < w3.heap.size := (by omega); have m_w_w3 : w.heap.size < w3.heap.size + 1 := (by omega); have l_wp1_w3 : w.heap.size + 1 < w3.heap.size := (by omega); have m_wp1_w3 : w.heap.size + 1 < w3.heap.size + 1 := (by omega); have l_w1_w3 : w1.heap.size < w3.heap.size := (by omega); have m_w1_w3 : w1.heap.size < w3.heap.size + 1 := (by omega); have l_w2_w3 : w2.heap.size < w3.heap.size := (by omega); have m_w2_w3 : w2.heap.size < w3.heap.size + 1 := (by omega)
  go_wp2_with fail
  refine (H4.out _).mono ?_
  rintro e w4 ⟨rfl, hb4⟩
  obtain ⟨hc4, hf4⟩ := bcell hb4
  have hz4 := hb4.size
  try simp at hz4
  try have hy4 := Nat.lt_of_succ_le hz4
  have hB4 : Below w.heap.size w w4 := by (refine Below.trans ?_ (hb4.mono ?_)) <;> (repeat' (first | (with_reducible exact Below.refl _ _) | (with_reducible assumption) | (with_reducible refine Below.drewN' ?_ _) | (with_reducible refine Below.alloc ?_ ?_ _) | (with_reducible refine Below.drew ?_) | (with_reducible refine Below.setCell ?_ ?_ _) | go_size))
  have l_w_wp1 : w.heap.size < w.heap.size + 1 := (by omega); have m_w_wp1 : w.heap.size < w.heap.size + 1 + 1 := (by omega); have l_w_w1 : w.heap.size < w1.heap.size := (by omega); have m_w_w1 : w.heap.size < w1.heap.size + 1 := (by omega); have l_wp1_w1 : w.heap.size + 1 < w1.heap.size := (by omega); have m_wp1_w1 : w.heap.size + 1 < w1.heap.size + 1 := (by omega); have l_w_w2 : w.heap.size < w2.heap.size := (by omega); have m_w_w2 : w.heap.size < w2.heap.size + 1 := (by omega); have l_wp1_w2 : w.heap.size + 1 < w2.heap.size := (by omega); have m_wp1_w2 : w.heap.size + 1 < w2.heap.size + 1 := (by omega); have l_w1_w2 : w1.heap.size < w2.heap.size := (by omega); have m_w1_w2 : w1.heap.size < w2.heap.size + 1 := (by omega); have l_w_w3 : w.heap.size < w3.heap.size := (by omega); have m_w_w3 : w.heap.size < w3.heap.size + 1 := (by omega); have l_wp1_w3 : w.heap.size + 1 < w3.heap.size := (by omega); have m_wp1_w3 : w.heap.size + 1 < w3.heap.size + 1 := (by omega); have l_w1_w3 : w1.heap.size < w3.heap.size := (by omega); have m_w1_w3 : w1.heap.size < w3.heap.size + 1 := (by omega); have l_w2_w3 : w2.heap.size < w3.heap.size := (by omega); have m_w2_w3 : w2.heap.size < w3.heap.size + 1 := (by omega); have l_w_w4 : w.heap.size < w4.heap.size := (by omega); have m_w_w4 : w.heap.size < w4.heap.size + 1 := (by omega); have l_wp1_w4 : w.heap.size + 1 < w4.heap.size := (by omega); have m_wp1_w4 : w.heap.size + 1 < w4.heap.size + 1 := (by omega); have l_w1_w4 : w1.heap.size < w4.heap.size := (by omega); have m_w1_w4 : w1.heap.size < w4.heap.size + 1 := (by omega); have l_w2_w4 : w2.heap.size < w4.heap.size := (by omega); have m_w2_w4 : w2.heap.size < w4.heap.size + 1 := (by omega); have l_w3_w4 : w3.heap.size < w4.heap.size := (by omega); have m_w3_w4 : w3.heap.size < w4.heap.size + 1 := (by omega)
  go_wp2_with fail
  refine (H5.out _).mono ?_
  rintro e w5 ⟨rfl, hb5⟩
  obtain ⟨hc5, hf5⟩ := bcell hb5
  have hz5 := hb5.size
  try simp at hz5
  try have hy5 := Nat.lt_of_succ_le hz5
  have hB5 : Below w.heap.size w w5 := by (refine Below.trans ?_ (hb5.mono ?_)) <;> (repeat' (first | (with_reducible exact Below.refl _ _) | (with_reducible assumption) | (with_reducible refine Below.drewN' ?_ _) | (with_reducible refine Below.alloc ?_ ?_ _) | (with_reducible refine Below.drew ?_) | (with_reducible refine Below.setCell ?_ ?_ _) | go_size))
  have l_w_wp1 : w.heap.size < w.heap.size + 1 := (by omega); have m_w_wp1 : w.heap.size < w.heap.size + 1 + 1 := (by omega); have l_w_w1 : w.heap.size < w1.heap.size := (by omega); have m_w_w1 : w.heap.size < w1.heap.size + 1 := (by omega); have l_wp1_w1 : w.heap.size + 1 < w1.heap.size := (by omega); have m_wp1_w1 : w.heap.size + 1 < w1.heap.size + 1 := (by omega); have l_w_w2 : w.heap.size < w2.heap.size := (by omega); have m_w_w2 : w.heap.size < w2.heap.size + 1 := (by omega); have l_wp1_w2 : w.heap.size + 1 < w2.heap.size := (by omega); have m_wp1_w2 : w.heap.size + 1 < w2.heap.size + 1 := (by omega); have l_w1_w2 : w1.heap.size < w2.heap.size := (by omega); have m_w1_w2 : w1.heap.size < w2.heap.size + 1 := (by omega); have l_w_w3 : w.heap.size < w3.heap.size := (by omega); have m_w_w3 : w.heap.size < w3.heap.size + 1 := (by omega); have l_wp1_w3 : w.heap.size + 1 < w3.heap.size := (by omega); have m_wp1_w3 : w.heap.size + 1 < w3.heap.size + 1 := (by omega); have l_w1_w3 : w1.heap.size < w3.heap.size := (by omega); have m_w1_w3 : w1.heap.size < w3.heap.size + 1 := (by omega); have l_w2_w3 : w2.heap.size < w3.heap.size := (by omega); have m_w2_w3 : w2.heap.size < w3.heap.size + 1 := (by omega); have l_w_w4 : w.heap.size < w4.heap.size := (by omega); have m_w_w4 : w.heap.size < w4.heap.size + 1 := (by omega); have l_wp1_w4 : w.heap.size + 1 < w4.heap.size := (by omega); have m_wp1_w4 : w.heap.size + 1 < w4.heap.size + 1 := (by omega); have l_w1_w4 : w1.heap.size < w4.heap.size := (by omega); have m_w1_w4 : w1.heap.size < w4.heap.size + 1 := (by omega); have l_w2_w4 : w2.heap.size < w4.heap.size := (by omega); have m_w2_w4 : w2.heap.size < w4.heap.size + 1 := (by omega); have l_w3_w4 : w3.heap.size < w4.heap.size := (by omega); have m_w3_w4 : w3.heap.size < w4.heap.size + 1 := (by omega); have l_w_w5 : w.heap.size < w5.heap.size := (by omega); have m_w_w5 : w.heap.size < w5.heap.size + 1 := (by omega); have l_wp1_w5 : w.heap.size + 1 < w5.heap.size := (by omega); have m_wp1_w5 : w.heap.size + 1 < w5.heap.size + 1 := (by omega); have l_w1_w5 : w1.heap.size < w5.heap.size := (by omega); have m_w1_w5 : w1.heap.size < w5.heap.size + 1 := (by omega); have l_w2_w5 : w2.heap.size < w5.heap.size := (by omega); have m_w2_w5 : w2.heap.size < w5.heap.size + 1 := (by omega); have l_w3_w5 : w3.heap.size < w5.heap.size := (by omega); have m_w3_w5 : w3.heap.size < w5.heap.size + 1 := (by omega); have l_w4_w5 : w4.heap.size < w5.heap.size := (by omega); have m_w4_w5 : w4.heap.size < w5.heap.size + 1 := (by omega)
  go_wp2_with fail
  refine wp_world ?_
  intro wc hwc
  have Aa : Arr wc w.heap.size 24 4 (fun j => .int .u64 (lm x j)) := by rw [hwc]; (repeat (first | (refine Arr.new' ?_ ?_; (rfl); (simp; done)) | (with_reducible refine Arr.alloc ?_ _) | (with_reducible refine Arr.drewN ?_ _) | (with_reducible refine Arr.below ?_ hb5 (by first | omega | (simp; omega) | (simp; done))) | (with_reducible refine Arr.below ?_ hb4 (by first | omega | (simp; omega) | (simp; done))) | (with_reducible refine Arr.below ?_ hb3 (by first | omega | (simp; omega) | (simp; done))) | (with_reducible refine Arr.below ?_ hb2 (by first | omega | (simp; omega) | (simp; done))) | (with_reducible refine Arr.below ?_ hb1 (by first | omega | (simp; omega) | (simp; done)))))
  have Ab : Arr wc (w.heap.size + 1) 24 4 (fun j => .int .u64 (lm y j)) := by rw [hwc]; (repeat (first | (refine Arr.new' ?_ ?_; (rfl); (simp; done)) | (with_reducible refine Arr.alloc ?_ _) | (with_reducible refine Arr.drewN ?_ _) | (with_reducible refine Arr.below ?_ hb5 (by first | omega | (simp; omega) | (simp; done))) | (with_reducible refine Arr.below ?_ hb4 (by first | omega | (simp; omega) | (simp; done))) | (with_reducible refine Arr.below ?_ hb3 (by first | omega | (simp; omega) | (simp; done))) | (with_reducible refine Arr.below ?_ hb2 (by first | omega | (simp; omega) | (simp; done))) | (with_reducible refine Arr.below ?_ hb1 (by first | omega | (simp; omega) | (simp; done)))))
  have As : Arr wc w1.heap.size 24 4 (fun j => .int .u64 (lm ((x + y) % N) j)) := by rw [hwc]; (repeat (first | (refine Arr.new' ?_ ?_; (rfl); (simp; done)) | (with_reducible refine Arr.alloc ?_ _) | (with_reducible refine Arr.drewN ?_ _) | (with_reducible refine Arr.below ?_ hb5 (by first | omega | (simp; omega) | (simp; done))) | (with_reducible refine Arr.below ?_ hb4 (by first | omega | (simp; omega) | (simp; done))) | (with_reducible refine Arr.below ?_ hb3 (by first | omega | (simp; omega) | (simp; done))) | (with_reducible refine Arr.below ?_ hb2 (by first | omega | (simp; omega) | (simp; done))) | (with_reducible refine Arr.below ?_ hb1 (by first | omega | (simp; omega) | (simp; done)))))
  have At : Arr wc w2.heap.size 24 4 (fun j => .int .u64 (lm ((x + y) % N) j)) := by rw [hwc]; (repeat (first | (refine Arr.new' ?_ ?_; (rfl); (simp; done)) | (with_reducible refine Arr.alloc ?_ _) | (with_reducible refine Arr.drewN ?_ _) | (with_reducible refine Arr.below ?_ hb5 (by first | omega | (simp; omega) | (simp; done))) | (with_reducible refine Arr.below ?_ hb4 (by first | omega | (simp; omega) | (simp; done))) | (with_reducible refine Arr.below ?_ hb3 (by first | omega | (simp; omega) | (simp; done))) | (with_reducible refine Arr.below ?_ hb2 (by first | omega | (simp; omega) | (simp; done))) | (with_reducible refine Arr.below ?_ hb1 (by first | omega | (simp; omega) | (simp; done)))))
  have Au : Arr wc w3.heap.size 24 4 (fun j => .int .u64 (lm x j)) := by rw [hwc]; (repeat (first | (refine Arr.new' ?_ ?_; (rfl); (simp; done)) | (with_reducible refine Arr.alloc ?_ _) | (with_reducible refine Arr.drewN ?_ _) | (with_reducible refine Arr.below ?_ hb5 (by first | omega | (simp; omega) | (simp; done))) | (with_reducible refine Arr.below ?_ hb4 (by first | omega | (simp; omega) | (simp; done))) | (with_reducible refine Arr.below ?_ hb3 (by first | omega | (simp; omega) | (simp; done))) | (with_reducible refine Arr.below ?_ hb2 (by first | omega | (simp; omega) | (simp; done))) | (with_reducible refine Arr.below ?_ hb1 (by first | omega | (simp; omega) | (simp; done)))))
  have Ag : Arr wc w5.heap.size 24 4 (fun j => .int .u64 (lm 0 j)) := by rw [hwc]; (repeat (first | (refine Arr.new' ?_ ?_; (rfl); (simp; done)) | (with_reducible refine Arr.alloc ?_ _) | (with_reducible refine Arr.drewN ?_ _) | (with_reducible refine Arr.below ?_ hb5 (by first | omega | (simp; omega) | (simp; done))) | (with_reducible refine Arr.below ?_ hb4 (by first | omega | (simp; omega) | (simp; done))) | (with_reducible refine Arr.below ?_ hb3 (by first | omega | (simp; omega) | (simp; done))) | (with_reducible refine Arr.below ?_ hb2 (by first | omega | (simp; omega) | (simp; done))) | (with_reducible refine Arr.below ?_ hb1 (by first | omega | (simp; omega) | (simp; done)))))
  have hbc : Below w.heap.size w wc := by rw [hwc]; (repeat' (first | (with_reducible exact Below.refl _ _) | (with_reducible assumption) | (with_reducible refine Below.drewN' ?_ _) | (with_reducible refine Below.alloc ?_ ?_ _) | (with_reducible refine Below.drew ?_) | (with_reducible refine Below.setCell ?_ ?_ _) | go_size))
  clear hwc
  have a0 := Aa.cell (j := 0) (by omega)
  have a1 := Aa.cell (j := 1) (by omega)
  have a2 := Aa.cell (j := 2) (by omega)
  have a3 := Aa.cell (j := 3) (by omega)
  have b0 := Ab.cell (j := 0) (by omega)
  have b1 := Ab.cell (j := 1) (by omega)
  have b2 := Ab.cell (j := 2) (by omega)
  have b3 := Ab.cell (j := 3) (by omega)
  have s0 := As.cell (j := 0) (by omega)
  have s1 := As.cell (j := 1) (by omega)
  have s2 := As.cell (j := 2) (by omega)
  have s3 := As.cell (j := 3) (by omega)
  have t0 := At.cell (j := 0) (by omega)
  have t1 := At.cell (j := 1) (by omega)
  have t2 := At.cell (j := 2) (by omega)
  have t3 := At.cell (j := 3) (by omega)
  have u0 := Au.cell (j := 0) (by omega)
  have u1 := Au.cell (j := 1) (by omega)
  have u2 := Au.cell (j := 2) (by omega)
  have u3 := Au.cell (j := 3) (by omega)
  have g0 := Ag.cell (j := 0) (by omega)
  have g1 := Ag.cell (j := 1) (by omega)
  have g2 := Ag.cell (j := 2) (by omega)
  have g3 := Ag.cell (j := 3) (by omega)
  have la := Aa.lt
  have lb := Ab.lt
  have ls := As.lt
  have lt := At.lt
  have lu := Au.lt
  have lg := Ag.lt
  clear Aa Ab As At Au Ag
  clear hb1 hb2 hb3 hb4 hb5 hB1 hB2 hB3 hB4 hB5 hc1 hc2 hc3 hc4 hc5 hf1 hf2 hf3 hf4 hf5
  go_region_held3 (fun w' => (∀ b o, b < (wc).heap.size → w'.cell? ⟨b, o, none⟩ = (wc).cell? ⟨b, o, none⟩) ∧ Below (wc).heap.size (wc) w') (((with_reducible refine held_of ?_); (repeat' (first | (with_reducible exact Below.refl _ _) | (with_reducible assumption) | (with_reducible refine Below.drewN' ?_ _) | (with_reducible refine Below.alloc ?_ ?_ _) | (with_reducible refine Below.drew ?_) | (with_reducible refine Below.setCell ?_ ?_ _) | go_size))))
    (first | (go_at_call 22; (with_reducible refine (awake01 _).mono ?_); rintro e w6 ⟨rfl, hb6⟩; obtain ⟨hc6, hf6⟩ := bcell hb6; have hz6 := hb6.size; (try simp at hz6); (try have hy6 := Nat.lt_of_succ_le hz6); have hk6 := held_call (by with_reducible assumption) hb6; have hq6 := hk6.2) | (go_at_call 40; (with_reducible refine (H6.out _).mono ?_); rintro e w7 ⟨rfl, hb7⟩; obtain ⟨hc7, hf7⟩ := bcell hb7; have hz7 := hb7.size; (try simp at hz7); (try have hy7 := Nat.lt_of_succ_le hz7); have hk7 := held_call (by with_reducible assumption) hb7; have hq7 := hk7.2) | (go_at_call 40; (with_reducible refine (H7.out _).mono ?_); rintro e w8 ⟨rfl, hb8⟩; obtain ⟨hc8, hf8⟩ := bcell hb8; have hz8 := hb8.size; (try simp at hz8); (try have hy8 := Nat.lt_of_succ_le hz8); have hk8 := held_call (by with_reducible assumption) hb8; have hq8 := hk8.2))
  go_wp2
  go_ret
  exact ⟨rfl, hbc.trans (hq8.mono hbc.size)⟩

end Go.Proofs.Ytgmbgidcgdammaa
