/- LimbPicks, walked. -/
import Derived.Test.YtgmbgidcgdammaaAid
namespace Go.Proofs.Ytgmbgidcgdammaa
open Go.RowKit Go.Num

/-- how three numbers may lie -/
theorem three_ways (x y z : Nat) : (0 < cmpN x y) ∨ (cmpN x y ≤ 0 ∧ 0 < cmpN y z) ∨ (cmpN x y ≤ 0 ∧ cmpN y z ≤ 0 ∧ cmpN x z = -1) ∨ (cmpN x y = 0 ∧ cmpN y z ≤ 0 ∧ cmpN x z = 0 ∧ x = z) := by
  by_cases h1 : y < x
  · left; rw [cmpN_gt h1]; omega
  · right
    have a := cmpN_le (show x ≤ y by omega)
    by_cases h2 : z < y
    · left; rw [cmpN_gt h2]; exact ⟨a, by omega⟩
    · right
      have b := cmpN_le (show y ≤ z by omega)
      by_cases h3 : x < z
      · left; exact ⟨a, b, cmpN_lt h3⟩
      · right
        have e : x = z := by omega
        exact ⟨cmpN_eq (by omega), b, cmpN_eq e, e⟩

set_option maxHeartbeats 8000000 in
theorem limbPicks_walk (x y z : Nat) (hx : x < N) (hy : y < N) (hz : z < N) (w : World) :
    Calls Try.prog 13 #[.agg #[.int .u64 (lm x 0), .int .u64 (lm x 1), .int .u64 (lm x 2), .int .u64 (lm x 3)], .agg #[.int .u64 (lm y 0), .int .u64 (lm y 1), .int .u64 (lm y 2), .int .u64 (lm y 3)], .agg #[.int .u64 (lm z 0), .int .u64 (lm z 1), .int .u64 (lm z 2), .int .u64 (lm z 3)]] w fun e w' => e = .returned (.bool true) ∧ Below w.heap.size w w' := by
  have h1 : ∀ w, Calls Try.prog 39 #[.bool true, .agg #[.int .u64 (lm x 0), .int .u64 (lm x 1), .int .u64 (lm x 2), .int .u64 (lm x 3)], .agg #[.int .u64 (lm y 0), .int .u64 (lm y 1), .int .u64 (lm y 2), .int .u64 (lm y 3)]] w fun e w' => e = .returned (.agg #[.int .u64 (lm x 0), .int .u64 (lm x 1), .int .u64 (lm x 2), .int .u64 (lm x 3)]) ∧ Below w.heap.size w w' := fun w => limb_pick true x y w
  have h2 : ∀ w, Calls Try.prog 39 #[.bool false, .agg #[.int .u64 (lm x 0), .int .u64 (lm x 1), .int .u64 (lm x 2), .int .u64 (lm x 3)], .agg #[.int .u64 (lm y 0), .int .u64 (lm y 1), .int .u64 (lm y 2), .int .u64 (lm y 3)]] w fun e w' => e = .returned (.agg #[.int .u64 (lm y 0), .int .u64 (lm y 1), .int .u64 (lm y 2), .int .u64 (lm y 3)]) ∧ Below w.heap.size w w' := fun w => limb_pick false x y w
  have H1 := Lib.hid h1
  have H2 := Lib.hid h2
  have H3 := Lib.hid (limb_cmp x y hx hy)
  have H4 := Lib.hid (limb_cmp y z hy hz)
  have H5 := Lib.hid (limb_cmp x z hx hz)
  have HW := Lib.hid (three_ways x y z)
  clear h1 h2 hx hy hz
  go_enter Try.func13, Try.ntmps13
  go_wp2_with fail
  refine wp_world ?_
  intro wc hwc
  have Aa : Arr wc w.heap.size 24 4 (fun j => .int .u64 (lm x j)) := by rw [hwc]; (repeat (first | (refine Arr.new' ?_ ?_; (rfl); (simp; done)) | refine Arr.alloc ?_ _))
  have Ab : Arr wc (w.heap.size + 1) 24 4 (fun j => .int .u64 (lm y j)) := by rw [hwc]; (repeat (first | (refine Arr.new' ?_ ?_; (rfl); (simp; done)) | refine Arr.alloc ?_ _))
  have Ac : Arr wc (w.heap.size + 1 + 1) 24 4 (fun j => .int .u64 (lm z j)) := by rw [hwc]; (repeat (first | (refine Arr.new' ?_ ?_; (rfl); (simp; done)) | refine Arr.alloc ?_ _))
  have hbc : Below w.heap.size w wc := by rw [hwc]; (repeat' (first | (with_reducible exact Below.refl _ _) | (with_reducible assumption) | (with_reducible refine Below.drewN' ?_ _) | (with_reducible refine Below.alloc ?_ ?_ _) | (with_reducible refine Below.drew ?_) | (with_reducible refine Below.setCell ?_ ?_ _) | go_size))
  clear hwc
  have a0 := Aa.cell (j := 0) (by omega)
  have a1 := Aa.cell (j := 1) (by omega)
  have a2 := Aa.cell (j := 2) (by omega)
  have a3 := Aa.cell (j := 3) (by omega)
  have b0 := Ab.cell (j := 0) (by omega)
  have b1 := Ab.cell (j := 1) (by omega)
  have b2 := Ab.cell (j := 2) (by omega)
  have b3 := Ab.cell (j := 3) (by omega)
  have c0 := Ac.cell (j := 0) (by omega)
  have c1 := Ac.cell (j := 1) (by omega)
  have c2 := Ac.cell (j := 2) (by omega)
  have c3 := Ac.cell (j := 3) (by omega)
  have la := Aa.lt
  have lb := Ab.lt
  have lc := Ac.lt
  clear Aa Ab Ac
  go_region_held3 (fun w' => (∀ b o, b < (wc).heap.size → w'.cell? ⟨b, o, none⟩ = (wc).cell? ⟨b, o, none⟩) ∧ Below (wc).heap.size (wc) w') (((with_reducible refine held_of ?_); (repeat' (first | (with_reducible exact Below.refl _ _) | (with_reducible assumption) | (with_reducible refine Below.drewN' ?_ _) | (with_reducible refine Below.alloc ?_ ?_ _) | (with_reducible refine Below.drew ?_) | (with_reducible refine Below.setCell ?_ ?_ _) | go_size))))
    (first | (go_at_call 22; (with_reducible refine (awake01 _).mono ?_); rintro e w1 ⟨rfl, hb1⟩; obtain ⟨hc1, hf1⟩ := bcell hb1; have hz1 := hb1.size; (try simp at hz1); (try have hy1 := Nat.lt_of_succ_le hz1); have hk1 := held_call (by with_reducible assumption) hb1; have hq1 := hk1.2) | (go_at_call 39; (with_reducible refine (H1.out _).mono ?_); rintro e w2 ⟨rfl, hb2⟩; obtain ⟨hc2, hf2⟩ := bcell hb2; have hz2 := hb2.size; (try simp at hz2); (try have hy2 := Nat.lt_of_succ_le hz2); have hk2 := held_call (by with_reducible assumption) hb2; have hq2 := hk2.2) | (go_at_call 39; (with_reducible refine (H2.out _).mono ?_); rintro e w3 ⟨rfl, hb3⟩; obtain ⟨hc3, hf3⟩ := bcell hb3; have hz3 := hb3.size; (try simp at hz3); (try have hy3 := Nat.lt_of_succ_le hz3); have hk3 := held_call (by with_reducible assumption) hb3; have hq3 := hk3.2))
  have hB1 : Below w.heap.size w w3 := hbc.trans (hq3.mono hbc.size)
  rcases HW.out with c1 | ⟨c1, c2⟩ | ⟨c1, c2, c3⟩ | ⟨c1, c2, c3, c4⟩
  · go_wp2_with fail
    refine (H3.out _).mono ?_
    rintro e w4 ⟨rfl, hb4⟩
    have hk4 := held_call hk3 hb4
    have hc4 := hk4.1
    go_wp2_with fail
    go_ret
    exact ⟨rfl, hbc.trans (hk4.2.mono hbc.size)⟩
  · go_wp2_with fail
    refine (H3.out _).mono ?_
    rintro e w4 ⟨rfl, hb4⟩
    have hk4 := held_call hk3 hb4
    have hc4 := hk4.1
    go_wp2_with fail
    refine (H4.out _).mono ?_
    rintro e w5 ⟨rfl, hb5⟩
    have hk5 := held_call hk4 hb5
    have hc5 := hk5.1
    go_wp2_with fail
    go_ret
    exact ⟨rfl, hbc.trans (hk5.2.mono hbc.size)⟩
  · go_wp2_with fail
    refine (H3.out _).mono ?_
    rintro e w4 ⟨rfl, hb4⟩
    have hk4 := held_call hk3 hb4
    have hc4 := hk4.1
    go_wp2_with fail
    refine (H4.out _).mono ?_
    rintro e w5 ⟨rfl, hb5⟩
    have hk5 := held_call hk4 hb5
    have hc5 := hk5.1
    go_wp2_with fail
    refine (H5.out _).mono ?_
    rintro e w6 ⟨rfl, hb6⟩
    have hk6 := held_call hk5 hb6
    have hc6 := hk6.1
    go_wp2_with fail
    refine (H5.out _).mono ?_
    rintro e w7 ⟨rfl, hb7⟩
    have hk7 := held_call hk6 hb7
    have hc7 := hk7.1
    go_wp2_with fail
    go_ret
    exact ⟨rfl, hbc.trans (hk7.2.mono hbc.size)⟩
  · have ez : (x % N = z % N) = True := by simp [c4]
    clear c4
    go_wp2_with fail
    refine (H3.out _).mono ?_
    rintro e w4 ⟨rfl, hb4⟩
    have hk4 := held_call hk3 hb4
    have hc4 := hk4.1
    go_wp2_with fail
    refine (H4.out _).mono ?_
    rintro e w5 ⟨rfl, hb5⟩
    have hk5 := held_call hk4 hb5
    have hc5 := hk5.1
    go_wp2_with fail
    refine (H5.out _).mono ?_
    rintro e w6 ⟨rfl, hb6⟩
    have hk6 := held_call hk5 hb6
    have hc6 := hk6.1
    rw [c3]
    go_wp2_with fail
    refine (H5.out _).mono ?_
    rintro e w7 ⟨rfl, hb7⟩
    have hk7 := held_call hk6 hb7
    have hc7 := hk7.1
    rw [c3]
    go_wp2_with fail
    refine (H3.out _).mono ?_
    rintro e w8 ⟨rfl, hb8⟩
    have hk8 := held_call hk7 hb8
    have hc8 := hk8.1
    rw [c1]
    go_wp2_with fail
    go_ret
    exact ⟨rfl, hbc.trans (hk8.2.mono hbc.size)⟩

end Go.Proofs.Ytgmbgidcgdammaa
