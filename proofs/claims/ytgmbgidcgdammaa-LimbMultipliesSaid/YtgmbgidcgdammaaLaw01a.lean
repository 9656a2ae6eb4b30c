/- chroniclelaw01.awake, LimbBits, walked. -/
import Derived.Test.YtgmbgidcgdammaaEq
import Derived.Test.YtgmbgidcgdammaaLimb1
import Derived.Test.YtgmbgidcgdammaaLimb3
import Derived.Deep.RegionHeld3
import Derived.Deep.DeepCutAuto
namespace Go.Proofs.Ytgmbgidcgdammaa
open Go.RowKit Go.Num

set_option maxHeartbeats 4000000 in
theorem awake01 (w : World) : Calls Try.prog 22 #[] w fun e w' => e = .returned (.bool true) ∧ Below w.heap.size w w' := by
  have ha := limb_add 5 2 (by decide) (by decide)
  rw [show (5 + 2) % N = 7 from by decide, show decide (N ≤ 5 + 2) = false from by decide] at ha
  have HA := Lib.hid ha
  clear ha
  go_enter Try.func22, Try.ntmps22
  go_wp2_with fail
  refine (HA.out _).mono ?_
  rintro e w1 ⟨rfl, hb1⟩
  obtain ⟨hc1, hf1⟩ := bcell hb1
  have hz1 := hb1.size
  try simp at hz1
  try have hy1 := Nat.lt_of_succ_le hz1
  have hB1 : Below w.heap.size w w1 := by (refine Below.trans ?_ (hb1.mono ?_)) <;> (repeat' (first | (with_reducible exact Below.refl _ _) | (with_reducible assumption) | (with_reducible refine Below.drewN' ?_ _) | (with_reducible refine Below.alloc ?_ ?_ _) | (with_reducible refine Below.drew ?_) | (with_reducible refine Below.setCell ?_ ?_ _) | go_size))
  go_wp2
  go_ret
  refine ⟨rfl, ?_⟩
  (repeat' (first | (with_reducible exact Below.refl _ _) | (with_reducible assumption) | (with_reducible refine Below.drewN' ?_ _) | (with_reducible refine Below.alloc ?_ ?_ _) | (with_reducible refine Below.drew ?_) | (with_reducible refine Below.setCell ?_ ?_ _) | go_size))


set_option maxHeartbeats 4000000 in
theorem limbBits (x i : Nat) (hx : x < N) (hi : i < 256) (w : World) : Calls Try.prog 4 #[.agg #[.int .u64 (lm x 0), .int .u64 (lm x 1), .int .u64 (lm x 2), .int .u64 (lm x 3)], .int .u8 i] w fun e w' => e = .returned (.bool true) ∧ Below w.heap.size w w' := by
  have hh : x / 2 < N := Nat.lt_of_le_of_lt (Nat.div_le_self _ _) hx
  have e0 : bit x 0 = x % 2 := by unfold bit; simp
  have H1 := Lib.hid (limb_half x hx)
  have h2 := limb_add (x / 2) (x / 2) hh hh
  have h3 := limb_add (x / 2 + x / 2) (bit x 0) (by omega) (by have := bit_lt x 0; unfold N; omega)
  rw [show (x / 2 + x / 2) % N = x / 2 + x / 2 from Nat.mod_eq_of_lt (by omega), show decide (N ≤ x / 2 + x / 2) = false from decide_eq_false (by omega)] at h2
  rw [show (x / 2 + x / 2 + bit x 0) % N = x from by rw [e0, show x / 2 + x / 2 + x % 2 = x from by omega]; exact Nat.mod_eq_of_lt hx,
    show decide (N ≤ x / 2 + x / 2 + bit x 0) = false from decide_eq_false (by omega)] at h3
  have H2 := Lib.hid h2
  have H3 := Lib.hid h3
  have h4 : ∀ w, Calls Try.prog 21 #[.agg #[.int .u64 (lm x 0), .int .u64 (lm x 1), .int .u64 (lm x 2), .int .u64 (lm x 3)], .int .i64 0] w fun e w' => e = .returned (.int .i64 (bit x 0)) ∧ Below w.heap.size w w' := limb_bit x 0 (by omega)
  have H4 := Lib.hid h4
  have h5 : ∀ w, Calls Try.prog 21 #[.agg #[.int .u64 (lm (x / 2) 0), .int .u64 (lm (x / 2) 1), .int .u64 (lm (x / 2) 2), .int .u64 (lm (x / 2) 3)], .int .i64 i] w fun e w' => e = .returned (.int .i64 (bit x (i + 1))) ∧ Below w.heap.size w w' := by
    rw [← bit_half]
    exact limb_bit (x / 2) i (by omega)
  have H5 := Lib.hid h5
  have h6 : ∀ w, Calls Try.prog 21 #[.agg #[.int .u64 (lm x 0), .int .u64 (lm x 1), .int .u64 (lm x 2), .int .u64 (lm x 3)], .int .i64 ((i : Int) + 1)] w fun e w' => e = .returned (.int .i64 (bit x (i + 1))) ∧ Below w.heap.size w w' := by
    by_cases hm : i = 255
    · rw [show bit x (i + 1) = 0 from bit_out hx (by omega)]
      exact limb_bit_out x _ (by omega)
    · exact limb_bit x (i + 1) (by omega)
  have H6 := Lib.hid h6
  have H7 := Lib.hid (limb_bit_out x (-1) (by omega))
  have H8 := Lib.hid (limb_bit_out x 256 (by omega))
  clear h4 h5 h6
  clear h2 h3 hh e0 hx
  have hbl := bit_lt x 0
  have hbm := bit_lt x (i + 1)
  go_enter Try.func4, Try.ntmps4
  go_wp2_with fail
  refine (H1.out _).mono ?_
  rintro e w1 ⟨rfl, hb1⟩
  obtain ⟨hc1, hf1⟩ := bcell hb1
  have hz1 := hb1.size
  try simp at hz1
  try have hy1 := Nat.lt_of_succ_le hz1
  have hB1 : Below w.heap.size w w1 := by (refine Below.trans ?_ (hb1.mono ?_)) <;> (repeat' (first | (with_reducible exact Below.refl _ _) | (with_reducible assumption) | (with_reducible refine Below.drewN' ?_ _) | (with_reducible refine Below.alloc ?_ ?_ _) | (with_reducible refine Below.drew ?_) | (with_reducible refine Below.setCell ?_ ?_ _) | go_size))
  have Aa : Arr w1 w.heap.size 24 4 (fun j => .int .u64 (lm x j)) := (Arr.new' rfl rfl).below hb1 (by simp)
  go_wp2_with fail
  refine (H2.out _).mono ?_
  rintro e w2 ⟨rfl, hb2⟩
  obtain ⟨hc2, hf2⟩ := bcell hb2
  have hz2 := hb2.size
  try simp at hz2
  try have hy2 := Nat.lt_of_succ_le hz2
  have hB2 : Below w.heap.size w w2 := by (refine Below.trans ?_ (hb2.mono ?_)) <;> (repeat' (first | (with_reducible exact Below.refl _ _) | (with_reducible assumption) | (with_reducible refine Below.drewN' ?_ _) | (with_reducible refine Below.alloc ?_ ?_ _) | (with_reducible refine Below.drew ?_) | (with_reducible refine Below.setCell ?_ ?_ _) | go_size))
  have Ab : Arr w2 w.heap.size 24 4 (fun j => .int .u64 (lm x j)) := (Aa.alloc _).below hb2 (by simp; omega)
  have Ah : Arr w2 w1.heap.size 24 4 (fun j => .int .u64 (lm (x / 2) j)) := (Arr.new' rfl rfl).below hb2 (by simp)
  have hB1 : Below w.heap.size w w1 := ((Below.refl _ _).alloc (Nat.le_refl _) _).trans (hb1.mono (by simp))
  have hB2 : Below w.heap.size w w2 := (hB1.alloc (by omega) _).trans (hb2.mono (by simp; omega))
  clear hB1
  have l_w_w1 : w.heap.size < w1.heap.size := (by omega); have m_w_w1 : w.heap.size < w1.heap.size + 1 := (by omega); have l_w_w2 : w.heap.size < w2.heap.size := (by omega); have m_w_w2 : w.heap.size < w2.heap.size + 1 := (by omega); have l_w1_w2 : w1.heap.size < w2.heap.size := (by omega); have m_w1_w2 : w1.heap.size < w2.heap.size + 1 := (by omega)
  go_wp2_with fail
  go_cut [8, 9] (fun s8 s9 wx => ∃ g : Nat, s8 = .pointer (some ⟨g, 0, none⟩) ∧ s9 = .bool false ∧ Arr wx w.heap.size 24 4 (fun j => .int .u64 (lm x j)) ∧ Arr wx w1.heap.size 24 4 (fun j => .int .u64 (lm (x / 2) j))
      ∧ wx.cell? ⟨g, 0, none⟩ = some (.int .u64 (lm x 0)) ∧ wx.cell? ⟨g, 1, none⟩ = some (.int .u64 (lm x 1)) ∧ wx.cell? ⟨g, 2, none⟩ = some (.int .u64 (lm x 2)) ∧ wx.cell? ⟨g, 3, none⟩ = some (.int .u64 (lm x 3)) ∧ g < wx.heap.size ∧ Below w.heap.size w wx)
  case first =>
    go_region_held3 (fun w' => (∀ b o, b < (w2.alloc (.cells #[.int .u64 (lm (x / 2 + x / 2) 0), .int .u64 (lm (x / 2 + x / 2) 1), .int .u64 (lm (x / 2 + x / 2) 2), .int .u64 (lm (x / 2 + x / 2) 3)] 24)).heap.size → w'.cell? ⟨b, o, none⟩ = (w2.alloc (.cells #[.int .u64 (lm (x / 2 + x / 2) 0), .int .u64 (lm (x / 2 + x / 2) 1), .int .u64 (lm (x / 2 + x / 2) 2), .int .u64 (lm (x / 2 + x / 2) 3)] 24)).cell? ⟨b, o, none⟩) ∧ Below (w2.alloc (.cells #[.int .u64 (lm (x / 2 + x / 2) 0), .int .u64 (lm (x / 2 + x / 2) 1), .int .u64 (lm (x / 2 + x / 2) 2), .int .u64 (lm (x / 2 + x / 2) 3)] 24)).heap.size (w2.alloc (.cells #[.int .u64 (lm (x / 2 + x / 2) 0), .int .u64 (lm (x / 2 + x / 2) 1), .int .u64 (lm (x / 2 + x / 2) 2), .int .u64 (lm (x / 2 + x / 2) 3)] 24)) w') (((with_reducible refine held_of ?_); (repeat' (first | (with_reducible exact Below.refl _ _) | (with_reducible assumption) | (with_reducible refine Below.drewN' ?_ _) | (with_reducible refine Below.alloc ?_ ?_ _) | (with_reducible refine Below.drew ?_) | (with_reducible refine Below.setCell ?_ ?_ _) | go_size))))
      (first | (go_at_call 21; (with_reducible refine (H4.out _).mono ?_); rintro e w3 ⟨rfl, hb3⟩; obtain ⟨hc3, hf3⟩ := bcell hb3; have hz3 := hb3.size; (try simp at hz3); (try have hy3 := Nat.lt_of_succ_le hz3); have hk3 := held_call (by with_reducible assumption) hb3; have hq3 := hk3.2) | (go_at_call 20; (with_reducible refine (H3.out _).mono ?_); rintro e w4 ⟨rfl, hb4⟩; obtain ⟨hc4, hf4⟩ := bcell hb4; have hz4 := hb4.size; (try simp at hz4); (try have hy4 := Nat.lt_of_succ_le hz4); have hk4 := held_call (by with_reducible assumption) hb4; have hq4 := hk4.2))
    all_goals
      go_wp2_with fail
      go_meet
      obtain ⟨_, hX⟩ := ‹(∀ b o, b < (w2.alloc (.cells #[.int .u64 (lm (x / 2 + x / 2) 0), .int .u64 (lm (x / 2 + x / 2) 1), .int .u64 (lm (x / 2 + x / 2) 2), .int .u64 (lm (x / 2 + x / 2) 3)] 24)).heap.size → _ = _) ∧ Below _ _ _›
      refine ⟨_, rfl, rfl, (Ab.alloc _).below hX (by simp; omega), (Ah.alloc _).below hX (by simp; omega), ?_, ?_, ?_, ?_, ?_, (hB2.alloc (by omega) _).trans (hX.mono (by simp; omega))⟩
      · go_simp
      · go_simp
      · go_simp
      · go_simp
      · simp; try omega
  case rest =>
    obtain ⟨g, rfl, rfl, Ba, Bh, e0, e1, e2, e3, hg, hbc⟩ := hcut
    have a0 := Ba.cell (j := 0) (by omega)
    have a1 := Ba.cell (j := 1) (by omega)
    have a2 := Ba.cell (j := 2) (by omega)
    have a3 := Ba.cell (j := 3) (by omega)
    have h0 := Bh.cell (j := 0) (by omega)
    have h1 := Bh.cell (j := 1) (by omega)
    have h2 := Bh.cell (j := 2) (by omega)
    have h3 := Bh.cell (j := 3) (by omega)
    have la := Ba.lt
    have lh := Bh.lt
    clear Ab Ah Aa Ba Bh hc1 hf1 hc2 hf2 hb1 hb2 hz1 hz2 hB2
    have hwi : IntKind.i64.wrap (i : Int) = (i : Int) := by rw [IntKind.wrap_i64]; omega
    have hwj : IntKind.i64.wrap ((i : Int) + 1) = (i : Int) + 1 := by rw [IntKind.wrap_i64]; omega
    go_wp2_with fail
    go_region_held3 (fun w' => (∀ b o, b < (wc).heap.size → w'.cell? ⟨b, o, none⟩ = (wc).cell? ⟨b, o, none⟩) ∧ Below (wc).heap.size (wc) w') (((with_reducible refine held_of ?_); (repeat' (first | (with_reducible exact Below.refl _ _) | (with_reducible assumption) | (with_reducible refine Below.drewN' ?_ _) | (with_reducible refine Below.alloc ?_ ?_ _) | (with_reducible refine Below.drew ?_) | (with_reducible refine Below.setCell ?_ ?_ _) | go_size))))
      (first | (go_at_call 22; (with_reducible refine (awake01 _).mono ?_); rintro e w5 ⟨rfl, hb5⟩; obtain ⟨hc5, hf5⟩ := bcell hb5; have hz5 := hb5.size; (try simp at hz5); (try have hy5 := Nat.lt_of_succ_le hz5); have hk5 := held_call (by with_reducible assumption) hb5; have hq5 := hk5.2) | (go_at_call 21; (with_reducible refine (H5.out _).mono ?_); rintro e w6 ⟨rfl, hb6⟩; obtain ⟨hc6, hf6⟩ := bcell hb6; have hz6 := hb6.size; (try simp at hz6); (try have hy6 := Nat.lt_of_succ_le hz6); have hk6 := held_call (by with_reducible assumption) hb6; have hq6 := hk6.2) | (go_at_call 21; (with_reducible refine (H6.out _).mono ?_); rintro e w7 ⟨rfl, hb7⟩; obtain ⟨hc7, hf7⟩ := bcell hb7; have hz7 := hb7.size; (try simp at hz7); (try have hy7 := Nat.lt_of_succ_le hz7); have hk7 := held_call (by with_reducible assumption) hb7; have hq7 := hk7.2) | (go_at_call 21; (with_reducible refine (H7.out _).mono ?_); rintro e w8 ⟨rfl, hb8⟩; obtain ⟨hc8, hf8⟩ := bcell hb8; have hz8 := hb8.size; (try simp at hz8); (try have hy8 := Nat.lt_of_succ_le hz8); have hk8 := held_call (by with_reducible assumption) hb8; have hq8 := hk8.2) | (go_at_call 21; (with_reducible refine (H8.out _).mono ?_); rintro e w9 ⟨rfl, hb9⟩; obtain ⟨hc9, hf9⟩ := bcell hb9; have hz9 := hb9.size; (try simp at hz9); (try have hy9 := Nat.lt_of_succ_le hz9); have hk9 := held_call (by with_reducible assumption) hb9; have hq9 := hk9.2))
    go_wp2
    go_ret
    exact ⟨rfl, hbc.trans (hq9.mono hbc.size)⟩

end Go.Proofs.Ytgmbgidcgdammaa
