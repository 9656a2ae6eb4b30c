/- The walks of the reference's Add, Sub and Cmp. -/
import Derived.Test.YtkckmpnkacdchaaDoorLimb2
import Derived.Test.YtkckmpnkacdchaaDoorLm2
set_option linter.unusedVariables false
set_option linter.unusedSimpArgs false
namespace Go.Proofs.YtkckmpnkacdchaaDoor
open Go.RowKit Go.Num
set_option maxHeartbeats 8000000 in
theorem ref_add_walk (x y z : Nat) (cy : Nat → Bool) (t : Nat → Nat) (w : World) (hc0 : cy 0 = false)
  (hs : ∀ k, IntKind.u64.wrap ((lm x k : Int) + (lm y k : Int)) = (t k : Int))
  (hn : ∀ k, k < 4 → cy k = false → lm z k = t k ∧ cy (k + 1) = decide (t k < lm x k))
  (hy : ∀ k, k < 4 → cy k = true → IntKind.u64.wrap ((t k : Int) + 1) = (lm z k : Int) ∧ cy (k + 1) = decide (t k < lm x k ∨ lm z k = 0)) :
  Calls Tryd.prog 82 #[.agg #[.int .u64 (lm x 0), .int .u64 (lm x 1), .int .u64 (lm x 2), .int .u64 (lm x 3)], .agg #[.int .u64 (lm y 0), .int .u64 (lm y 1), .int .u64 (lm y 2), .int .u64 (lm y 3)]] w fun e w' => e = .returned (.tuple #[.agg #[.int .u64 (lm z 0), .int .u64 (lm z 1), .int .u64 (lm z 2), .int .u64 (lm z 3)], .bool (cy 4)]) ∧ Below w.heap.size w w' := by
 go_enter Tryd.func82, Tryd.ntmps82
 go_wp2
 go_loopw [7, 8] (fun c i wr => ∃ k : Nat, k ≤ 4 ∧ i = .int .i64 k ∧ c = .bool (cy k) ∧ Arr wr w.heap.size 33 4 (fun j => .int .u64 (lm x j)) ∧ Arr wr (w.heap.size + 1) 33 4 (fun j => .int .u64 (lm y j))
  ∧ Arr wr (w.heap.size + 1 + 1) 33 4 (fun _ => .int .u64 0) ∧ Arr wr (w.heap.size + 1 + 1 + 1) 33 4 (fun j => .int .u64 (if j < k then lm z j else 0)) ∧ Below w.heap.size w wr) (fun _ i _ => 4 - (intOf i).toNat)
 case atStart =>
  refine ⟨0, by omega, rfl, by rw [hc0], ?_, ?_, ?_, ?_, ?_⟩
  ·(repeat (first | (refine Arr.new' ?_ ?_; (rfl); (simp; done)) | refine Arr.alloc ?_ _))
  ·(repeat (first | (refine Arr.new' ?_ ?_; (rfl); (simp; done)) | refine Arr.alloc ?_ _))
  ·(repeat (first | (refine Arr.new' ?_ ?_; (rfl); (simp; done)) | refine Arr.alloc ?_ _))
  ·(repeat (first | (refine Arr.new' ?_ ?_; (rfl); (simp; done)) | refine Arr.alloc ?_ _))
  ·(repeat' (first | (with_reducible exact Below.refl _ _) | (with_reducible assumption) | (with_reducible refine Below.drewN' ?_ _) | (with_reducible refine Below.alloc ?_ ?_ _) | (with_reducible refine Below.drew ?_) | (with_reducible refine Below.setCell ?_ ?_ _) | go_size))
 case round =>
  obtain ⟨k, hk, rfl, rfl, A1, A2, A3, A4, hB⟩ := hrel
  by_cases hk4 : k < 4
  ·have a1 := A1.cell hk4
   have a2 := A2.cell hk4
   have a4 := A4.cell hk4
   have f4 := A4.frozen k
   have hs0 := hs k
   have HN := Lib.hid (hn k hk4)
   have HY := Lib.hid (hy k hk4)
   clear hs hn hy hc0
   simp only [Nat.lt_irrefl, if_false] at a4
   cases hcy : cy k with
   | false =>
    obtain ⟨e1, e2⟩ := HN.out hcy
    have E1 := Lib.hid e1
    have E2 := Lib.hid e2
    clear HN HY hcy e1 e2
    go_wp2
    go_region
    go_wp2
    go_roundw
    case measure => simp [intOf]; omega
    case rel =>
     refine ⟨k + 1, by omega, by go_num, by rw [E2.out], A1.drew.other (by simp; omega) _, A2.drew.other (by simp) _, A3.drew.other (by simp) _, A4.drew.fill (fun _ _ _ => rfl) (by rw [E1.out]), ?_⟩
     (repeat' (first | (with_reducible exact Below.refl _ _) | (with_reducible assumption) | (with_reducible refine Below.drewN' ?_ _) | (with_reducible refine Below.alloc ?_ ?_ _) | (with_reducible refine Below.drew ?_) | (with_reducible refine Below.setCell ?_ ?_ _) | go_size))
   | true =>
    obtain ⟨e1, e2⟩ := HY.out hcy
    have E2 := Lib.hid e2
    clear e2 HN HY hcy
    by_cases ho : t k < lm x k
    ·go_wp2
     go_region
     go_wp2
     go_roundw
     case measure => simp [intOf]; omega
     case rel =>
      refine ⟨k + 1, by omega, by go_num, by rw [E2.out, decide_eq_true (.inl ho)], A1.drew.other (by simp; omega) _, A2.drew.other (by simp) _, A3.drew.other (by simp) _, A4.drew.fill (fun _ _ _ => rfl) rfl, ?_⟩
      (repeat' (first | (with_reducible exact Below.refl _ _) | (with_reducible assumption) | (with_reducible refine Below.drewN' ?_ _) | (with_reducible refine Below.alloc ?_ ?_ _) | (with_reducible refine Below.drew ?_) | (with_reducible refine Below.setCell ?_ ?_ _) | go_size))
    ·go_wp2
     go_region
     go_wp2
     go_roundw
     case measure => simp [intOf]; omega
     case rel =>
      refine ⟨k + 1, by omega, by go_num, ?_, A1.drew.other (by simp; omega) _, A2.drew.other (by simp) _, A3.drew.other (by simp) _, A4.drew.fill (fun _ _ _ => rfl) rfl, ?_⟩
      ·rw [E2.out]
       congr 1
       rw [Bool.eq_iff_iff]
       simp [ho]
      ·(repeat' (first | (with_reducible exact Below.refl _ _) | (with_reducible assumption) | (with_reducible refine Below.drewN' ?_ _) | (with_reducible refine Below.alloc ?_ ?_ _) | (with_reducible refine Below.drew ?_) | (with_reducible refine Below.setCell ?_ ?_ _) | go_size))
  ·obtain rfl : k = 4 := by omega
   have o0 := A4.cell (j := 0) (by omega)
   have o1 := A4.cell (j := 1) (by omega)
   have o2 := A4.cell (j := 2) (by omega)
   have o3 := A4.cell (j := 3) (by omega)
   have r0 := A3.cell (j := 0) (by omega)
   have r1 := A3.cell (j := 1) (by omega)
   have r2 := A3.cell (j := 2) (by omega)
   have r3 := A3.cell (j := 3) (by omega)
   have f0 := A3.frozen 0
   have f1 := A3.frozen 1
   have f2 := A3.frozen 2
   have f3 := A3.frozen 3
   clear hs hn hy hc0
   simp only [Nat.reduceLT, if_true] at o0 o1 o2 o3
   go_wp2
   refine bodyPost_ret (v := .tuple #[.agg #[.int .u64 (lm z 0), .int .u64 (lm z 1), .int .u64 (lm z 2), .int .u64 (lm z 3)], .bool (cy 4)]) (by simp [results, Tryd.results82, go_sem, *]) rfl ⟨rfl, ?_⟩
   (repeat' (first | (with_reducible exact Below.refl _ _) | (with_reducible assumption) | (with_reducible refine Below.drewN' ?_ _) | (with_reducible refine Below.alloc ?_ ?_ _) | (with_reducible refine Below.drew ?_) | (with_reducible refine Below.setCell ?_ ?_ _) | go_size))
theorem ref_add (x y : Nat) (hx : x < N) (hy : y < N) (w : World) :
  Calls Tryd.prog 82 #[.agg #[.int .u64 (lm x 0), .int .u64 (lm x 1), .int .u64 (lm x 2), .int .u64 (lm x 3)], .agg #[.int .u64 (lm y 0), .int .u64 (lm y 1), .int .u64 (lm y 2), .int .u64 (lm y 3)]] w fun e w' => e = .returned (.tuple #[.agg #[.int .u64 (lm ((x + y) % N) 0), .int .u64 (lm ((x + y) % N) 1), .int .u64 (lm ((x + y) % N) 2), .int .u64 (lm ((x + y) % N) 3)], .bool (decide (N ≤ x + y))]) ∧ Below w.heap.size w w' := by
 rw [← cyb_four hx hy]
 refine ref_add_walk x y _ (cyb x y) (fun k => (lm x k + lm y k) % B) w (cyb_zero x y) ?_ ?_ ?_
 ·intro k
  rw [IntKind.wrap_u64]
  unfold B
  omega
 ·intro k hk h
  obtain ⟨h1, h2⟩ := add_no h
  exact ⟨by rw [lm_modN _ _ hk, h1], h2⟩
 ·intro k hk h
  obtain ⟨h1, h2⟩ := add_yes h
  rw [lm_modN _ _ hk]
  refine ⟨?_, h2⟩
  rw [h1, IntKind.wrap_u64]
  unfold B
  omega
end Go.Proofs.YtkckmpnkacdchaaDoor
