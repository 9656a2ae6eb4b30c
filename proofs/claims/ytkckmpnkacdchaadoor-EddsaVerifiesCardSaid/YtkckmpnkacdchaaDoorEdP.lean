/- Points lifted, added, dropped. -/
import Derived.Test.YtkckmpnkacdchaaDoorEdF
set_option linter.unusedVariables false
set_option linter.unusedSimpArgs false
set_option maxHeartbeats 4000000
namespace Go.Proofs.YtkckmpnkacdchaaDoor
open Go.RowKit Go.Num Go.Sx
abbrev JF0 : A := .agg [.v 0, .v 1, .v 2, .v 3, .v 4, .v 5, .v 6, .v 7, .bool (.var 8)]
abbrev JF1 : A := .agg [.v 16, .v 17, .v 18, .v 19]
abbrev JF2 : A := .agg [.v 24, .v 25, .v 26, .v 27]
abbrev JF3 : A := .agg [.v 4, .v 5, .v 6, .v 7]
abbrev JF4 : A := .agg [.v 0, .v 1, .v 2, .v 3]
abbrev JF5 : A := .agg [.v 68, .v 69, .v 70, .v 71]
abbrev JF6 : A := .agg [.v 64, .v 65, .v 66, .v 67]
abbrev JF7 : A := .agg [.v 12, .v 13, .v 14, .v 15]
abbrev JF8 : A := .agg [.v 84, .v 85, .v 86, .v 87]
abbrev JF9 : A := .agg [.v 80, .v 81, .v 82, .v 83]
abbrev JF10 : A := .agg [.v 72, .v 73, .v 74, .v 75]
abbrev JF11 : A := .agg [.v 60, .v 61, .v 62, .v 63]
abbrev JF12 : A := .agg [.v 52, .v 53, .v 54, .v 55]
abbrev JF13 : A := .agg [.v 48, .v 49, .v 50, .v 51]
abbrev JF14 : A := .agg [.v 40, .v 41, .v 42, .v 43]
abbrev JF15 : A := .agg [.v 36, .v 37, .v 38, .v 39]
abbrev JF16 : A := .agg [.v 32, .v 33, .v 34, .v 35]
abbrev JF17 : A := .agg [.v 20, .v 21, .v 22, .v 23]
abbrev JF18 : A := .agg [.v 0, .v 1, .v 2, .v 3, .v 4, .v 5, .v 6, .v 7, .v 8, .v 9, .v 10, .v 11, .v 12, .v 13, .v 14, .v 15]
abbrev JF19 : A := .agg [.v 76, .v 77, .v 78, .v 79]
abbrev JF20 : A := .agg [.v 56, .v 57, .v 58, .v 59]
abbrev JF21 : A := .agg [.v 44, .v 45, .v 46, .v 47]
abbrev JF22 : A := .agg [.v 28, .v 29, .v 30, .v 31]
abbrev JF23 : A := .agg [.v 8, .v 9, .v 10, .v 11]
abbrev JF24 : A := .agg [.v 42, .v 43, .v 44, .v 45, .v 46, .v 47, .v 48, .v 49, .v 50, .v 51, .v 52, .v 53]
abbrev JF25 : A := .agg [.v 30, .v 31, .v 32, .v 33, .v 34, .v 35, .v 36, .v 37, .v 38, .v 39, .v 40, .v 41]
abbrev JF26 : A := .agg [.v 18, .v 19, .v 20, .v 21, .v 22, .v 23, .v 24, .v 25, .v 26, .v 27, .v 28, .v 29]
abbrev JF27 : A := .agg [.v 0, .v 1, .v 2, .v 3, .v 4, .v 5, .v 6, .v 7, .v 8, .v 9, .v 10, .v 11]
abbrev JF28 : A := .agg [.v 54, .v 55, .v 56, .v 57, .v 58, .v 59, .v 60, .v 61, .bool (.var 62)]
abbrev JF29 : A := .agg [.v 9, .v 10, .v 11, .v 12, .v 13, .v 14, .v 15, .v 16, .bool (.var 17)]
abbrev JF30 : A := .sc (.bool (.var 9))
def twN : Nat := 16295367250680780974490674513165176452449235426866156013048779062215315747161
theorem phi_tw : Ed.phi twN = Ed.D + Ed.D := by decide +kernel
theorem phi_inv (a : Nat) : Ed.phi (a ^ (Ed.P - 2) % Ed.P) = Ed.inv (Ed.phi a) := by rw [Ed.phi_mod, Ed.phi_pow]; rfl
theorem val_of {r : Nat} {a : Ed.F} (hr : r < Ed.P) (h : Ed.phi r = a) : r = a.val := by rw [← h, Ed.phi_val, Nat.mod_eq_of_lt hr]
theorem one_lt : (1 : Nat) < Ed.P := by decide +kernel
theorem elift_yes (x y : Nat) (b : Bool) (Ts : TQ) (hx : x < N) (hy : y < N) (hf : formedB x y b = true) (t : Nat) (ht : t = x * y % Ed.P) (w : World) (hK : (LE Ts).K ≤ w.heap.size) (hG : (LE Ts).G w) : Calls Tryd.prog 70 #[vP x y b] w fun e w' => e = .returned (.agg #[.int .u64 (lm x 0), .int .u64 (lm x 1), .int .u64 (lm x 2), .int .u64 (lm x 3), .int .u64 (lm y 0), .int .u64 (lm y 1), .int .u64 (lm y 2), .int .u64 (lm y 3), .int .u64 (lm 1 0), .int .u64 (lm 1 1), .int .u64 (lm 1 2), .int .u64 (lm 1 3), .int .u64 (lm t 0), .int .u64 (lm t 1), .int .u64 (lm t 2), .int .u64 (lm t 3)]) ∧ Below w.heap.size w w' := by
 obtain ⟨r1, hr1⟩ : ∃ r : Bool, r = formedB x y b := ⟨_, rfl⟩
 obtain ⟨r2, hr2⟩ : ∃ r : Nat, r = x * y % Ed.P := ⟨_, rfl⟩
 have br2 : r2 < Ed.P := (by rw [hr2]; exact Nat.mod_lt _ P_pos)
 have hrun := calls_of_runG (P := Tryd.prog) (v := ⟨envI [lm x 0, lm x 1, lm x 2, lm x 3, lm y 0, lm y 1, lm y 2, lm y 3, 0, 0, lm r2 0, lm r2 1, lm r2 2, lm r2 3], envB [false, false, false, false, false, false, false, false, b, r1], envL [], envP [], LE Ts, w⟩) (gs := (edGs Ts [v_one, v_neutral])) (fuel := 3000) (nv := 9) (args := [JF0]) (ora := [some true]) (sums := []) (res := [(.agg [.v 0, .v 1, .v 2, .v 3, .v 4, .v 5, .v 6, .v 7, .n 1, .n 0, .n 0, .n 0, .v 10, .v 11, .v 12, .v 13])]) (ev := [.call 54 [JF0] (.one JF30), .dec (.var 9) true, .call 63 [JF4, JF3] (.one (.agg [.v 10, .v 11, .v 12, .v 13]))]) (lev := []) Tryd.func70 (by kernel_rfl) (by kernel_rfl)
  (evs_of ⟨?_, ?_, ?_, trivial⟩) (by simp) (varsOk Ts _ (List.forall_mem_cons.2 ⟨Ts.one, (List.forall_mem_cons.2 ⟨Ts.neutral, (List.forall_mem_nil _)⟩)⟩) (by decide)) hK hG
 ·(refine calls_eq hrun ?_; rw [one_l0, one_l1, one_l2, one_l3, show t = r2 by rw [ht, hr2]]; rfl)
 ·exact eformed_g Ts x y b hx hy hr1
 ·(show r1 = true; rw [hr1]; exact hf)
 ·exact emul_g Ts x y (by first | assumption | exact ltP ‹_› | decide +kernel) (by first | assumption | exact ltP ‹_› | decide +kernel) hr2
theorem elift_no (x y : Nat) (b : Bool) (Ts : TQ) (hx : x < N) (hy : y < N) (hf : ¬ formedB x y b = true) (w : World) (hK : (LE Ts).K ≤ w.heap.size) (hG : (LE Ts).G w) : Calls Tryd.prog 70 #[vP x y b] w fun e w' => e = .returned (.agg #[.int .u64 (lm 0 0), .int .u64 (lm 0 1), .int .u64 (lm 0 2), .int .u64 (lm 0 3), .int .u64 (lm 1 0), .int .u64 (lm 1 1), .int .u64 (lm 1 2), .int .u64 (lm 1 3), .int .u64 (lm 1 0), .int .u64 (lm 1 1), .int .u64 (lm 1 2), .int .u64 (lm 1 3), .int .u64 (lm 0 0), .int .u64 (lm 0 1), .int .u64 (lm 0 2), .int .u64 (lm 0 3)]) ∧ Below w.heap.size w w' := by
 obtain ⟨r1, hr1⟩ : ∃ r : Bool, r = formedB x y b := ⟨_, rfl⟩
 have hrun := calls_of_runG (P := Tryd.prog) (v := ⟨envI [lm x 0, lm x 1, lm x 2, lm x 3, lm y 0, lm y 1, lm y 2, lm y 3], envB [false, false, false, false, false, false, false, false, b, r1], envL [], envP [], LE Ts, w⟩) (gs := (edGs Ts [v_one, v_neutral])) (fuel := 3000) (nv := 9) (args := [JF0]) (ora := [some false]) (sums := []) (res := [(.agg [.n 0, .n 0, .n 0, .n 0, .n 1, .n 0, .n 0, .n 0, .n 1, .n 0, .n 0, .n 0, .n 0, .n 0, .n 0, .n 0])]) (ev := [.call 54 [JF0] (.one JF30), .dec (.var 9) false]) (lev := []) Tryd.func70 (by kernel_rfl) (by kernel_rfl)
  (evs_of ⟨?_, ?_, trivial⟩) (by simp) (varsOk Ts _ (List.forall_mem_cons.2 ⟨Ts.one, (List.forall_mem_cons.2 ⟨Ts.neutral, (List.forall_mem_nil _)⟩)⟩) (by decide)) hK hG
 ·(exact calls_eq hrun (by kernel_rfl))
 ·exact eformed_g Ts x y b hx hy hr1
 ·(show r1 = false; rw [hr1]; exact Bool.eq_false_iff.2 hf)
theorem elift_ex (Ts : TQ) (x y : Nat) (b : Bool) (hx : x < N) (hy : y < N) : ∃ X Y Z : Nat, CallG Tryd.prog (LE Ts) 70 #[vP x y b] (.agg #[.int .u64 (lm X 0), .int .u64 (lm X 1), .int .u64 (lm X 2), .int .u64 (lm X 3), .int .u64 (lm Y 0), .int .u64 (lm Y 1), .int .u64 (lm Y 2), .int .u64 (lm Y 3), .int .u64 (lm 1 0), .int .u64 (lm 1 1), .int .u64 (lm 1 2), .int .u64 (lm 1 3), .int .u64 (lm Z 0), .int .u64 (lm Z 1), .int .u64 (lm Z 2), .int .u64 (lm Z 3)]) ∧ X < Ed.P ∧ Y < Ed.P ∧ Z < Ed.P ∧ Ed.Rep (Ed.phi X) (Ed.phi Y) (Ed.phi 1) (Ed.phi Z) (ptOf x y b) := by
 by_cases hf : formedB x y b = true
 ·obtain ⟨h, h1, h2, h3⟩ := rep_lift (x := x) (y := y) (b := b) (X := x) (Y := y) (Z := x * y % Ed.P) (by rw [if_pos hf]) (by rw [if_pos hf]) (by rw [if_pos hf])
  exact ⟨x, y, _, callG_of Tryd.func70 (by kernel_rfl) (by kernel_rfl) (fun w hK hG => elift_yes x y b Ts hx hy hf _ rfl w hK hG), h1, h2, h3, h⟩
 ·obtain ⟨h, h1, h2, h3⟩ := rep_lift (x := x) (y := y) (b := b) (X := 0) (Y := 1) (Z := 0) (by rw [if_neg hf]) (by rw [if_neg hf]) (by rw [if_neg hf])
  exact ⟨0, 1, 0, callG_of Tryd.func70 (by kernel_rfl) (by kernel_rfl) (fun w hK hG => elift_no x y b Ts hx hy hf w hK hG), h1, h2, h3, h⟩
theorem eplus_run (x1 y1 z1 t1 : Nat) (x2 y2 z2 t2 : Nat) (Ts : TQ) (bx1 : x1 < N) (by1 : y1 < N) (bz1 : z1 < N) (bt1 : t1 < N) (bx2 : x2 < N) (by2 : y2 < N) (bz2 : z2 < N) (bt2 : t2 < N) (tw : Nat) (htw : tw = twN) (r1 r2 r3 r4 r5 r6 r7 r8 r9 r10 r11 r12 r13 r14 r15 r16 r17 r18 : Nat) (hr1 : r1 = sb Ed.P y1 x1) (hr2 : r2 = sb Ed.P y2 x2) (hr3 : r3 = r1 * r2 % Ed.P) (hr4 : r4 = (y1 + x1) % Ed.P) (hr5 : r5 = (y2 + x2) % Ed.P) (hr6 : r6 = r4 * r5 % Ed.P) (hr7 : r7 = t1 * tw % Ed.P) (hr8 : r8 = r7 * t2 % Ed.P) (hr9 : r9 = z1 * z2 % Ed.P) (hr10 : r10 = (r9 + r9) % Ed.P) (hr11 : r11 = sb Ed.P r6 r3) (hr12 : r12 = sb Ed.P r10 r8) (hr13 : r13 = (r10 + r8) % Ed.P) (hr14 : r14 = (r6 + r3) % Ed.P) (hr15 : r15 = r11 * r12 % Ed.P) (hr16 : r16 = r13 * r14 % Ed.P) (hr17 : r17 = r12 * r13 % Ed.P) (hr18 : r18 = r11 * r14 % Ed.P) (w : World) (hK : (LE Ts).K ≤ w.heap.size) (hG : (LE Ts).G w) : Calls Tryd.prog 71 #[.agg #[.int .u64 (lm x1 0), .int .u64 (lm x1 1), .int .u64 (lm x1 2), .int .u64 (lm x1 3), .int .u64 (lm y1 0), .int .u64 (lm y1 1), .int .u64 (lm y1 2), .int .u64 (lm y1 3), .int .u64 (lm z1 0), .int .u64 (lm z1 1), .int .u64 (lm z1 2), .int .u64 (lm z1 3), .int .u64 (lm t1 0), .int .u64 (lm t1 1), .int .u64 (lm t1 2), .int .u64 (lm t1 3)], .agg #[.int .u64 (lm x2 0), .int .u64 (lm x2 1), .int .u64 (lm x2 2), .int .u64 (lm x2 3), .int .u64 (lm y2 0), .int .u64 (lm y2 1), .int .u64 (lm y2 2), .int .u64 (lm y2 3), .int .u64 (lm z2 0), .int .u64 (lm z2 1), .int .u64 (lm z2 2), .int .u64 (lm z2 3), .int .u64 (lm t2 0), .int .u64 (lm t2 1), .int .u64 (lm t2 2), .int .u64 (lm t2 3)]] w fun e w' => e = .returned (.agg #[.int .u64 (lm r15 0), .int .u64 (lm r15 1), .int .u64 (lm r15 2), .int .u64 (lm r15 3), .int .u64 (lm r16 0), .int .u64 (lm r16 1), .int .u64 (lm r16 2), .int .u64 (lm r16 3), .int .u64 (lm r17 0), .int .u64 (lm r17 1), .int .u64 (lm r17 2), .int .u64 (lm r17 3), .int .u64 (lm r18 0), .int .u64 (lm r18 1), .int .u64 (lm r18 2), .int .u64 (lm r18 3)]) ∧ Below w.heap.size w w' := by
 have btw : tw < N := by rw [htw]; decide +kernel
 have br1 : r1 < Ed.P := (by rw [hr1]; exact sb_P _ _)
 have br2 : r2 < Ed.P := (by rw [hr2]; exact sb_P _ _)
 have br3 : r3 < Ed.P := (by rw [hr3]; exact Nat.mod_lt _ P_pos)
 have br4 : r4 < Ed.P := (by rw [hr4]; exact Nat.mod_lt _ P_pos)
 have br5 : r5 < Ed.P := (by rw [hr5]; exact Nat.mod_lt _ P_pos)
 have br6 : r6 < Ed.P := (by rw [hr6]; exact Nat.mod_lt _ P_pos)
 have br7 : r7 < Ed.P := (by rw [hr7]; exact Nat.mod_lt _ P_pos)
 have br8 : r8 < Ed.P := (by rw [hr8]; exact Nat.mod_lt _ P_pos)
 have br9 : r9 < Ed.P := (by rw [hr9]; exact Nat.mod_lt _ P_pos)
 have br10 : r10 < Ed.P := (by rw [hr10]; exact Nat.mod_lt _ P_pos)
 have br11 : r11 < Ed.P := (by rw [hr11]; exact sb_P _ _)
 have br12 : r12 < Ed.P := (by rw [hr12]; exact sb_P _ _)
 have br13 : r13 < Ed.P := (by rw [hr13]; exact Nat.mod_lt _ P_pos)
 have br14 : r14 < Ed.P := (by rw [hr14]; exact Nat.mod_lt _ P_pos)
 have br15 : r15 < Ed.P := (by rw [hr15]; exact Nat.mod_lt _ P_pos)
 have br16 : r16 < Ed.P := (by rw [hr16]; exact Nat.mod_lt _ P_pos)
 have br17 : r17 < Ed.P := (by rw [hr17]; exact Nat.mod_lt _ P_pos)
 have br18 : r18 < Ed.P := (by rw [hr18]; exact Nat.mod_lt _ P_pos)
 have hrun := calls_of_runG (P := Tryd.prog) (v := ⟨envI [(lm x1 0 : Int), (lm x1 1 : Int), (lm x1 2 : Int), (lm x1 3 : Int), (lm y1 0 : Int), (lm y1 1 : Int), (lm y1 2 : Int), (lm y1 3 : Int), (lm z1 0 : Int), (lm z1 1 : Int), (lm z1 2 : Int), (lm z1 3 : Int), (lm t1 0 : Int), (lm t1 1 : Int), (lm t1 2 : Int), (lm t1 3 : Int), (lm x2 0 : Int), (lm x2 1 : Int), (lm x2 2 : Int), (lm x2 3 : Int), (lm y2 0 : Int), (lm y2 1 : Int), (lm y2 2 : Int), (lm y2 3 : Int), (lm z2 0 : Int), (lm z2 1 : Int), (lm z2 2 : Int), (lm z2 3 : Int), (lm t2 0 : Int), (lm t2 1 : Int), (lm t2 2 : Int), (lm t2 3 : Int), (lm r1 0 : Int), (lm r1 1 : Int), (lm r1 2 : Int), (lm r1 3 : Int), (lm r2 0 : Int), (lm r2 1 : Int), (lm r2 2 : Int), (lm r2 3 : Int), (lm r3 0 : Int), (lm r3 1 : Int), (lm r3 2 : Int), (lm r3 3 : Int), (lm r4 0 : Int), (lm r4 1 : Int), (lm r4 2 : Int), (lm r4 3 : Int), (lm r5 0 : Int), (lm r5 1 : Int), (lm r5 2 : Int), (lm r5 3 : Int), (lm r6 0 : Int), (lm r6 1 : Int), (lm r6 2 : Int), (lm r6 3 : Int), (lm r7 0 : Int), (lm r7 1 : Int), (lm r7 2 : Int), (lm r7 3 : Int), (lm r8 0 : Int), (lm r8 1 : Int), (lm r8 2 : Int), (lm r8 3 : Int), (lm r9 0 : Int), (lm r9 1 : Int), (lm r9 2 : Int), (lm r9 3 : Int), (lm r10 0 : Int), (lm r10 1 : Int), (lm r10 2 : Int), (lm r10 3 : Int), (lm r11 0 : Int), (lm r11 1 : Int), (lm r11 2 : Int), (lm r11 3 : Int), (lm r12 0 : Int), (lm r12 1 : Int), (lm r12 2 : Int), (lm r12 3 : Int), (lm r13 0 : Int), (lm r13 1 : Int), (lm r13 2 : Int), (lm r13 3 : Int), (lm r14 0 : Int), (lm r14 1 : Int), (lm r14 2 : Int), (lm r14 3 : Int), (lm r15 0 : Int), (lm r15 1 : Int), (lm r15 2 : Int), (lm r15 3 : Int), (lm r16 0 : Int), (lm r16 1 : Int), (lm r16 2 : Int), (lm r16 3 : Int), (lm r17 0 : Int), (lm r17 1 : Int), (lm r17 2 : Int), (lm r17 3 : Int), (lm r18 0 : Int), (lm r18 1 : Int), (lm r18 2 : Int), (lm r18 3 : Int)], envB [], envL [], envP [], LE Ts, w⟩) (gs := (edGs Ts [v_twice])) (fuel := 3000) (nv := 32) (args := [JF18, (.agg [.v 16, .v 17, .v 18, .v 19, .v 20, .v 21, .v 22, .v 23, .v 24, .v 25, .v 26, .v 27, .v 28, .v 29, .v 30, .v 31])]) (ora := []) (sums := []) (res := [(.agg [.v 88, .v 89, .v 90, .v 91, .v 92, .v 93, .v 94, .v 95, .v 96, .v 97, .v 98, .v 99, .v 100, .v 101, .v 102, .v 103])]) (ev := [.call 65 [JF3, JF4] (.one JF16), .call 65 [JF17, JF1] (.one JF15), .call 63 [JF16, JF15] (.one JF14), .call 66 [JF3, JF4] (.one JF21), .call 66 [JF17, JF1] (.one JF13), .call 63 [JF21, JF13] (.one JF12), .call 63 [JF7, (.agg [.n 16993941304535871833, .n 63073048630374742, .n 1841551078520508720, .n 2596001775599221991])] (.one JF20), .call 63 [JF20, JF22] (.one JF11), .call 63 [JF23, JF2] (.one JF6), .call 66 [JF6, JF6] (.one JF5), .call 65 [JF12, JF14] (.one JF10), .call 65 [JF5, JF11] (.one JF19), .call 66 [JF5, JF11] (.one JF9), .call 66 [JF12, JF14] (.one JF8), .call 63 [JF10, JF19] (.one (.agg [.v 88, .v 89, .v 90, .v 91])), .call 63 [JF9, JF8] (.one (.agg [.v 92, .v 93, .v 94, .v 95])), .call 63 [JF19, JF9] (.one (.agg [.v 96, .v 97, .v 98, .v 99])), .call 63 [JF10, JF8] (.one (.agg [.v 100, .v 101, .v 102, .v 103]))]) (lev := []) Tryd.func71 (by kernel_rfl) (by kernel_rfl)
  (evs_of ⟨?_, ?_, ?_, ?_, ?_, ?_, ?_, ?_, ?_, ?_, ?_, ?_, ?_, ?_, ?_, ?_, ?_, ?_, trivial⟩) (by simp) (varsOk Ts _ (List.forall_mem_cons.2 ⟨Ts.twice, (List.forall_mem_nil _)⟩) (by decide)) hK hG
 ·(exact hrun)
 ·exact esub_g Ts y1 x1 (by first | assumption | exact ltP ‹_› | decide +kernel) (by first | assumption | exact ltP ‹_› | decide +kernel) hr1
 ·exact esub_g Ts y2 x2 (by first | assumption | exact ltP ‹_› | decide +kernel) (by first | assumption | exact ltP ‹_› | decide +kernel) hr2
 ·exact emul_g Ts r1 r2 (by first | assumption | exact ltP ‹_› | decide +kernel) (by first | assumption | exact ltP ‹_› | decide +kernel) hr3
 ·exact eadd_g Ts y1 x1 (by first | assumption | exact ltP ‹_› | decide +kernel) (by first | assumption | exact ltP ‹_› | decide +kernel) hr4
 ·exact eadd_g Ts y2 x2 (by first | assumption | exact ltP ‹_› | decide +kernel) (by first | assumption | exact ltP ‹_› | decide +kernel) hr5
 ·exact emul_g Ts r4 r5 (by first | assumption | exact ltP ‹_› | decide +kernel) (by first | assumption | exact ltP ‹_› | decide +kernel) hr6
 ·(have hX := emul_g Ts t1 tw (by first | assumption | exact ltP ‹_› | decide +kernel) (by first | assumption | exact ltP ‹_› | decide +kernel) hr7; rw [htw] at hX; exact hX)
 ·exact emul_g Ts r7 t2 (by first | assumption | exact ltP ‹_› | decide +kernel) (by first | assumption | exact ltP ‹_› | decide +kernel) hr8
 ·exact emul_g Ts z1 z2 (by first | assumption | exact ltP ‹_› | decide +kernel) (by first | assumption | exact ltP ‹_› | decide +kernel) hr9
 ·exact eadd_g Ts r9 r9 (by first | assumption | exact ltP ‹_› | decide +kernel) (by first | assumption | exact ltP ‹_› | decide +kernel) hr10
 ·exact esub_g Ts r6 r3 (by first | assumption | exact ltP ‹_› | decide +kernel) (by first | assumption | exact ltP ‹_› | decide +kernel) hr11
 ·exact esub_g Ts r10 r8 (by first | assumption | exact ltP ‹_› | decide +kernel) (by first | assumption | exact ltP ‹_› | decide +kernel) hr12
 ·exact eadd_g Ts r10 r8 (by first | assumption | exact ltP ‹_› | decide +kernel) (by first | assumption | exact ltP ‹_› | decide +kernel) hr13
 ·exact eadd_g Ts r6 r3 (by first | assumption | exact ltP ‹_› | decide +kernel) (by first | assumption | exact ltP ‹_› | decide +kernel) hr14
 ·exact emul_g Ts r11 r12 (by first | assumption | exact ltP ‹_› | decide +kernel) (by first | assumption | exact ltP ‹_› | decide +kernel) hr15
 ·exact emul_g Ts r13 r14 (by first | assumption | exact ltP ‹_› | decide +kernel) (by first | assumption | exact ltP ‹_› | decide +kernel) hr16
 ·exact emul_g Ts r12 r13 (by first | assumption | exact ltP ‹_› | decide +kernel) (by first | assumption | exact ltP ‹_› | decide +kernel) hr17
 ·exact emul_g Ts r11 r14 (by first | assumption | exact ltP ‹_› | decide +kernel) (by first | assumption | exact ltP ‹_› | decide +kernel) hr18
theorem eplus_ex (Ts : TQ) {x1 y1 z1 t1 x2 y2 z2 t2 : Nat} (bx1 : x1 < Ed.P) (by1 : y1 < Ed.P) (bz1 : z1 < Ed.P) (bt1 : t1 < Ed.P) (bx2 : x2 < Ed.P) (by2 : y2 < Ed.P) (bz2 : z2 < Ed.P) (bt2 : t2 < Ed.P) {p q : Ed.Pt} (hp : Ed.Rep (Ed.phi x1) (Ed.phi y1) (Ed.phi z1) (Ed.phi t1) p) (hq : Ed.Rep (Ed.phi x2) (Ed.phi y2) (Ed.phi z2) (Ed.phi t2) q) : ∃ X Y Z W : Nat, CallG Tryd.prog (LE Ts) 71 #[.agg #[.int .u64 (lm x1 0), .int .u64 (lm x1 1), .int .u64 (lm x1 2), .int .u64 (lm x1 3), .int .u64 (lm y1 0), .int .u64 (lm y1 1), .int .u64 (lm y1 2), .int .u64 (lm y1 3), .int .u64 (lm z1 0), .int .u64 (lm z1 1), .int .u64 (lm z1 2), .int .u64 (lm z1 3), .int .u64 (lm t1 0), .int .u64 (lm t1 1), .int .u64 (lm t1 2), .int .u64 (lm t1 3)], .agg #[.int .u64 (lm x2 0), .int .u64 (lm x2 1), .int .u64 (lm x2 2), .int .u64 (lm x2 3), .int .u64 (lm y2 0), .int .u64 (lm y2 1), .int .u64 (lm y2 2), .int .u64 (lm y2 3), .int .u64 (lm z2 0), .int .u64 (lm z2 1), .int .u64 (lm z2 2), .int .u64 (lm z2 3), .int .u64 (lm t2 0), .int .u64 (lm t2 1), .int .u64 (lm t2 2), .int .u64 (lm t2 3)]] (.agg #[.int .u64 (lm X 0), .int .u64 (lm X 1), .int .u64 (lm X 2), .int .u64 (lm X 3), .int .u64 (lm Y 0), .int .u64 (lm Y 1), .int .u64 (lm Y 2), .int .u64 (lm Y 3), .int .u64 (lm Z 0), .int .u64 (lm Z 1), .int .u64 (lm Z 2), .int .u64 (lm Z 3), .int .u64 (lm W 0), .int .u64 (lm W 1), .int .u64 (lm W 2), .int .u64 (lm W 3)]) ∧ X < Ed.P ∧ Y < Ed.P ∧ Z < Ed.P ∧ W < Ed.P ∧ Ed.Rep (Ed.phi X) (Ed.phi Y) (Ed.phi Z) (Ed.phi W) (p + q) := by
 obtain ⟨r1, hr1⟩ : ∃ r : Nat, r = sb Ed.P y1 x1 := ⟨_, rfl⟩
 obtain ⟨r2, hr2⟩ : ∃ r : Nat, r = sb Ed.P y2 x2 := ⟨_, rfl⟩
 obtain ⟨r3, hr3⟩ : ∃ r : Nat, r = r1 * r2 % Ed.P := ⟨_, rfl⟩
 obtain ⟨r4, hr4⟩ : ∃ r : Nat, r = (y1 + x1) % Ed.P := ⟨_, rfl⟩
 obtain ⟨r5, hr5⟩ : ∃ r : Nat, r = (y2 + x2) % Ed.P := ⟨_, rfl⟩
 obtain ⟨r6, hr6⟩ : ∃ r : Nat, r = r4 * r5 % Ed.P := ⟨_, rfl⟩
 obtain ⟨r7, hr7⟩ : ∃ r : Nat, r = t1 * twN % Ed.P := ⟨_, rfl⟩
 obtain ⟨r8, hr8⟩ : ∃ r : Nat, r = r7 * t2 % Ed.P := ⟨_, rfl⟩
 obtain ⟨r9, hr9⟩ : ∃ r : Nat, r = z1 * z2 % Ed.P := ⟨_, rfl⟩
 obtain ⟨r10, hr10⟩ : ∃ r : Nat, r = (r9 + r9) % Ed.P := ⟨_, rfl⟩
 obtain ⟨r11, hr11⟩ : ∃ r : Nat, r = sb Ed.P r6 r3 := ⟨_, rfl⟩
 obtain ⟨r12, hr12⟩ : ∃ r : Nat, r = sb Ed.P r10 r8 := ⟨_, rfl⟩
 obtain ⟨r13, hr13⟩ : ∃ r : Nat, r = (r10 + r8) % Ed.P := ⟨_, rfl⟩
 obtain ⟨r14, hr14⟩ : ∃ r : Nat, r = (r6 + r3) % Ed.P := ⟨_, rfl⟩
 obtain ⟨r15, hr15⟩ : ∃ r : Nat, r = r11 * r12 % Ed.P := ⟨_, rfl⟩
 obtain ⟨r16, hr16⟩ : ∃ r : Nat, r = r13 * r14 % Ed.P := ⟨_, rfl⟩
 obtain ⟨r17, hr17⟩ : ∃ r : Nat, r = r12 * r13 % Ed.P := ⟨_, rfl⟩
 obtain ⟨r18, hr18⟩ : ∃ r : Nat, r = r11 * r14 % Ed.P := ⟨_, rfl⟩
 refine ⟨r15, r16, r17, r18, callG_of Tryd.func71 (by kernel_rfl) (by kernel_rfl) (fun w hK hG => eplus_run x1 y1 z1 t1 x2 y2 z2 t2 Ts (Nat.lt_trans bx1 PN) (Nat.lt_trans by1 PN) (Nat.lt_trans bz1 PN) (Nat.lt_trans bt1 PN) (Nat.lt_trans bx2 PN) (Nat.lt_trans by2 PN) (Nat.lt_trans bz2 PN) (Nat.lt_trans bt2 PN) _ rfl _ _ _ _ _ _ _ _ _ _ _ _ _ _ _ _ _ _ hr1 hr2 hr3 hr4 hr5 hr6 hr7 hr8 hr9 hr10 hr11 hr12 hr13 hr14 hr15 hr16 hr17 hr18 w hK hG), by rw [hr15]; exact Nat.mod_lt _ P_pos, by rw [hr16]; exact Nat.mod_lt _ P_pos, by rw [hr17]; exact Nat.mod_lt _ P_pos, by rw [hr18]; exact Nat.mod_lt _ P_pos, ?_⟩
 have h := Ed.rep_plus hp hq rfl rfl rfl rfl rfl rfl rfl rfl
 subst hr18 hr17 hr16 hr15 hr14 hr13 hr12 hr11 hr10 hr9 hr8 hr7 hr6 hr5 hr4 hr3 hr2 hr1
 simp only [Ed.phi_mod, Ed.phi_mul, Ed.phi_add, phi_sb, phi_tw, Ed.phi_dN]
 exact h
theorem edrop_run (x y z t : Nat) (Ts : TQ) (bdx : x < Ed.P) (bdy : y < Ed.P) (bdz : z < Ed.P) (bdt : t < Ed.P) {p : Ed.Pt} (h : Ed.Rep (Ed.phi x) (Ed.phi y) (Ed.phi z) (Ed.phi t) p) (X Y : Nat) (hX : X = p.x.val) (hY : Y = p.y.val) (w : World) (hK : (LE Ts).K ≤ w.heap.size) (hG : (LE Ts).G w) : Calls Tryd.prog 73 #[.agg #[.int .u64 (lm x 0), .int .u64 (lm x 1), .int .u64 (lm x 2), .int .u64 (lm x 3), .int .u64 (lm y 0), .int .u64 (lm y 1), .int .u64 (lm y 2), .int .u64 (lm y 3), .int .u64 (lm z 0), .int .u64 (lm z 1), .int .u64 (lm z 2), .int .u64 (lm z 3), .int .u64 (lm t 0), .int .u64 (lm t 1), .int .u64 (lm t 2), .int .u64 (lm t 3)]] w fun e w' => e = .returned (vP X Y false) ∧ Below w.heap.size w w' := by
 obtain ⟨r1, hr1⟩ : ∃ r : Nat, r = z ^ (Ed.P - 2) % Ed.P := ⟨_, rfl⟩
 have br1 : r1 < Ed.P := (by rw [hr1]; exact Nat.mod_lt _ P_pos)
 obtain ⟨r2, hr2⟩ : ∃ r : Nat, r = x * r1 % Ed.P := ⟨_, rfl⟩
 have br2 : r2 < Ed.P := (by rw [hr2]; exact Nat.mod_lt _ P_pos)
 obtain ⟨r3, hr3⟩ : ∃ r : Nat, r = y * r1 % Ed.P := ⟨_, rfl⟩
 have br3 : r3 < Ed.P := (by rw [hr3]; exact Nat.mod_lt _ P_pos)
 have d := h.drop
 have e2 : X = r2 := by
  rw [hX]
  refine (val_of br2 ?_).symm
  rw [hr2, hr1, Ed.phi_mod, Ed.phi_mul, phi_inv]
  exact d.1
 have e3 : Y = r3 := by
  rw [hY]
  refine (val_of br3 ?_).symm
  rw [hr3, hr1, Ed.phi_mod, Ed.phi_mul, phi_inv]
  exact d.2
 have hrun := calls_of_runG (P := Tryd.prog) (v := ⟨envI [lm x 0, lm x 1, lm x 2, lm x 3, lm y 0, lm y 1, lm y 2, lm y 3, lm z 0, lm z 1, lm z 2, lm z 3, lm t 0, lm t 1, lm t 2, lm t 3, lm r1 0, lm r1 1, lm r1 2, lm r1 3, lm r2 0, lm r2 1, lm r2 2, lm r2 3, lm r3 0, lm r3 1, lm r3 2, lm r3 3], envB [], envL [], envP [], LE Ts, w⟩) (gs := []) (fuel := 3000) (nv := 16) (args := [JF18]) (ora := []) (sums := []) (res := [(.agg [.v 20, .v 21, .v 22, .v 23, .v 24, .v 25, .v 26, .v 27, .bool (.lit false)])]) (ev := [.call 46 [(.sc (.int .i64 (.lit 2))), JF23] (.one JF1), .call 63 [JF4, JF1] (.one JF17), .call 63 [JF3, JF1] (.one JF2)]) (lev := []) Tryd.func73 (by kernel_rfl) (by kernel_rfl)
  (evs_of ⟨?_, ?_, ?_, trivial⟩) (by simp) (GsOk.nil _) hK hG
 ·(refine calls_eq hrun ?_; rw [e2, e3]; rfl)
 ·exact finv_g Ts z (by first | assumption | exact ltP ‹_› | decide +kernel) hr1
 ·exact emul_g Ts x r1 (by first | assumption | exact ltP ‹_› | decide +kernel) (by first | assumption | exact ltP ‹_› | decide +kernel) hr2
 ·exact emul_g Ts y r1 (by first | assumption | exact ltP ‹_› | decide +kernel) (by first | assumption | exact ltP ‹_› | decide +kernel) hr3
theorem edrop_g (Ts : TQ) {x y z t : Nat} (bdx : x < Ed.P) (bdy : y < Ed.P) (bdz : z < Ed.P) (bdt : t < Ed.P) {p : Ed.Pt} (h : Ed.Rep (Ed.phi x) (Ed.phi y) (Ed.phi z) (Ed.phi t) p) {X Y : Nat} (hX : X = p.x.val) (hY : Y = p.y.val) : CallG Tryd.prog (LE Ts) 73 #[.agg #[.int .u64 (lm x 0), .int .u64 (lm x 1), .int .u64 (lm x 2), .int .u64 (lm x 3), .int .u64 (lm y 0), .int .u64 (lm y 1), .int .u64 (lm y 2), .int .u64 (lm y 3), .int .u64 (lm z 0), .int .u64 (lm z 1), .int .u64 (lm z 2), .int .u64 (lm z 3), .int .u64 (lm t 0), .int .u64 (lm t 1), .int .u64 (lm t 2), .int .u64 (lm t 3)]] (vP X Y false) :=
 callG_of Tryd.func73 (by kernel_rfl) (by kernel_rfl) (fun w hK hG => edrop_run x y z t Ts bdx bdy bdz bdt h X Y hX hY w hK hG)
theorem rlift_yes (x y : Nat) (b : Bool) (Ts : TQ) (hx : x < N) (hy : y < N) (hf : formedB x y b = true) (one1 : Nat) (hone1 : one1 = 1) (w : World) (hK : (LE Ts).K ≤ w.heap.size) (hG : (LE Ts).G w) : Calls Tryd.prog 77 #[vP x y b] w fun e w' => e = .returned (.agg #[.int .u64 (lm x 0), .int .u64 (lm x 1), .int .u64 (lm x 2), .int .u64 (lm x 3), .int .u64 (lm y 0), .int .u64 (lm y 1), .int .u64 (lm y 2), .int .u64 (lm y 3), .int .u64 (lm one1 0), .int .u64 (lm one1 1), .int .u64 (lm one1 2), .int .u64 (lm one1 3)]) ∧ Below w.heap.size w w' := by
 obtain ⟨r1, hr1⟩ : ∃ r : Bool, r = formedB x y b := ⟨_, rfl⟩
 have hrun := calls_of_runG (P := Tryd.prog) (v := ⟨envI [lm x 0, lm x 1, lm x 2, lm x 3, lm y 0, lm y 1, lm y 2, lm y 3, 0, 0, lm one1 0, lm one1 1, lm one1 2, lm one1 3], envB [false, false, false, false, false, false, false, false, b, r1], envL [], envP [], LE Ts, w⟩) (gs := []) (fuel := 3000) (nv := 9) (args := [JF0]) (ora := [some true]) (sums := []) (res := [(.agg [.v 0, .v 1, .v 2, .v 3, .v 4, .v 5, .v 6, .v 7, .v 10, .v 11, .v 12, .v 13])]) (ev := [.call 20 [JF0] (.one JF30), .dec (.var 9) true, .call 45 [] (.one (.agg [.v 10, .v 11, .v 12, .v 13]))]) (lev := []) Tryd.func77 (by kernel_rfl) (by kernel_rfl)
  (evs_of ⟨?_, ?_, ?_, trivial⟩) (by simp) (GsOk.nil _) hK hG
 ·exact hrun
 ·exact rformed_g Ts x y b hx hy hr1
 ·(show r1 = true; rw [hr1]; exact hf)
 ·exact CallP.g (rone_c hone1)
theorem rlift_no (x y : Nat) (b : Bool) (Ts : TQ) (hx : x < N) (hy : y < N) (hf : ¬ formedB x y b = true) (one1 X0 Y0 : Nat) (hone1 : one1 = 1) (hX0 : X0 = 0) (hY0 : Y0 = 1) (w : World) (hK : (LE Ts).K ≤ w.heap.size) (hG : (LE Ts).G w) : Calls Tryd.prog 77 #[vP x y b] w fun e w' => e = .returned (.agg #[.int .u64 (lm X0 0), .int .u64 (lm X0 1), .int .u64 (lm X0 2), .int .u64 (lm X0 3), .int .u64 (lm Y0 0), .int .u64 (lm Y0 1), .int .u64 (lm Y0 2), .int .u64 (lm Y0 3), .int .u64 (lm one1 0), .int .u64 (lm one1 1), .int .u64 (lm one1 2), .int .u64 (lm one1 3)]) ∧ Below w.heap.size w w' := by
 obtain ⟨r1, hr1⟩ : ∃ r : Bool, r = formedB x y b := ⟨_, rfl⟩
 have hrun := calls_of_runG (P := Tryd.prog) (v := ⟨envI [lm x 0, lm x 1, lm x 2, lm x 3, lm y 0, lm y 1, lm y 2, lm y 3, 0, 0, lm X0 0, lm X0 1, lm X0 2, lm X0 3, lm Y0 0, lm Y0 1, lm Y0 2, lm Y0 3, 0, lm one1 0, lm one1 1, lm one1 2, lm one1 3], envB [false, false, false, false, false, false, false, false, b, r1, false, false, false, false, false, false, false, false, false], envL [], envP [], LE Ts, w⟩) (gs := []) (fuel := 3000) (nv := 9) (args := [JF0]) (ora := [some false]) (sums := []) (res := [(.agg [.v 10, .v 11, .v 12, .v 13, .v 14, .v 15, .v 16, .v 17, .v 19, .v 20, .v 21, .v 22])]) (ev := [.call 20 [JF0] (.one JF30), .dec (.var 9) false, .call 42 [] (.one (.agg [.v 10, .v 11, .v 12, .v 13, .v 14, .v 15, .v 16, .v 17, .bool (.var 18)])), .call 45 [] (.one (.agg [.v 19, .v 20, .v 21, .v 22]))]) (lev := []) Tryd.func77 (by kernel_rfl) (by kernel_rfl)
  (evs_of ⟨?_, ?_, ?_, ?_, trivial⟩) (by simp) (GsOk.nil _) hK hG
 ·exact hrun
 ·exact rformed_g Ts x y b hx hy hr1
 ·(show r1 = false; rw [hr1]; exact Bool.eq_false_iff.2 hf)
 ·exact CallP.g (rnone_c hX0 hY0)
 ·exact CallP.g (rone_c hone1)
theorem rlift_ex (Ts : TQ) (x y : Nat) (b : Bool) (hx : x < N) (hy : y < N) : ∃ X Y Z : Nat, CallG Tryd.prog (LE Ts) 77 #[vP x y b] (.agg #[.int .u64 (lm X 0), .int .u64 (lm X 1), .int .u64 (lm X 2), .int .u64 (lm X 3), .int .u64 (lm Y 0), .int .u64 (lm Y 1), .int .u64 (lm Y 2), .int .u64 (lm Y 3), .int .u64 (lm Z 0), .int .u64 (lm Z 1), .int .u64 (lm Z 2), .int .u64 (lm Z 3)]) ∧ X < Ed.P ∧ Y < Ed.P ∧ Z < Ed.P ∧ Ed.Rep3 (Ed.phi X) (Ed.phi Y) (Ed.phi Z) (ptOf x y b) := by
 by_cases hf : formedB x y b = true
 ·obtain ⟨h, h1, h2, h3⟩ := rep_lift (x := x) (y := y) (b := b) (X := x) (Y := y) (Z := x * y % Ed.P) (by rw [if_pos hf]) (by rw [if_pos hf]) (by rw [if_pos hf])
  exact ⟨x, y, 1, callG_of Tryd.func77 (by kernel_rfl) (by kernel_rfl) (fun w hK hG => rlift_yes x y b Ts hx hy hf _ rfl w hK hG), h1, h2, one_lt, h.1, h.2.1, h.2.2.1⟩
 ·obtain ⟨h, h1, h2, h3⟩ := rep_lift (x := x) (y := y) (b := b) (X := 0) (Y := 1) (Z := 0) (by rw [if_neg hf]) (by rw [if_neg hf]) (by rw [if_neg hf])
  exact ⟨0, 1, 1, callG_of Tryd.func77 (by kernel_rfl) (by kernel_rfl) (fun w hK hG => rlift_no x y b Ts hx hy hf _ _ _ rfl rfl rfl w hK hG), h1, h2, one_lt, h.1, h.2.1, h.2.2.1⟩
theorem rplus_run (x1 y1 z1 : Nat) (x2 y2 z2 : Nat) (Ts : TQ) (bx1 : x1 < N) (by1 : y1 < N) (bz1 : z1 < N) (bx2 : x2 < N) (by2 : y2 < N) (bz2 : z2 < N) (dd : Nat) (hdd : dd = Ed.dN) (r1 r2 r3 r4 r5 r6 r7 r8 r9 r10 r11 r12 r13 r14 r15 r16 r17 : Nat) (hr1 : r1 = z1 * z2 % Ed.P) (hr2 : r2 = r1 * r1 % Ed.P) (hr3 : r3 = x1 * x2 % Ed.P) (hr4 : r4 = y1 * y2 % Ed.P) (hr5 : r5 = r3 * r4 % Ed.P) (hr6 : r6 = dd * r5 % Ed.P) (hr7 : r7 = x1 * y2 % Ed.P) (hr8 : r8 = x2 * y1 % Ed.P) (hr9 : r9 = (r7 + r8) % Ed.P) (hr10 : r10 = sb Ed.P r2 r6) (hr11 : r11 = (r2 + r6) % Ed.P) (hr12 : r12 = r1 * r9 % Ed.P) (hr13 : r13 = r12 * r10 % Ed.P) (hr14 : r14 = (r4 + r3) % Ed.P) (hr15 : r15 = r1 * r14 % Ed.P) (hr16 : r16 = r15 * r11 % Ed.P) (hr17 : r17 = r10 * r11 % Ed.P) (w : World) (hK : (LE Ts).K ≤ w.heap.size) (hG : (LE Ts).G w) : Calls Tryd.prog 84 #[.agg #[.int .u64 (lm x1 0), .int .u64 (lm x1 1), .int .u64 (lm x1 2), .int .u64 (lm x1 3), .int .u64 (lm y1 0), .int .u64 (lm y1 1), .int .u64 (lm y1 2), .int .u64 (lm y1 3), .int .u64 (lm z1 0), .int .u64 (lm z1 1), .int .u64 (lm z1 2), .int .u64 (lm z1 3)], .agg #[.int .u64 (lm x2 0), .int .u64 (lm x2 1), .int .u64 (lm x2 2), .int .u64 (lm x2 3), .int .u64 (lm y2 0), .int .u64 (lm y2 1), .int .u64 (lm y2 2), .int .u64 (lm y2 3), .int .u64 (lm z2 0), .int .u64 (lm z2 1), .int .u64 (lm z2 2), .int .u64 (lm z2 3)]] w fun e w' => e = .returned (.agg #[.int .u64 (lm r13 0), .int .u64 (lm r13 1), .int .u64 (lm r13 2), .int .u64 (lm r13 3), .int .u64 (lm r16 0), .int .u64 (lm r16 1), .int .u64 (lm r16 2), .int .u64 (lm r16 3), .int .u64 (lm r17 0), .int .u64 (lm r17 1), .int .u64 (lm r17 2), .int .u64 (lm r17 3)]) ∧ Below w.heap.size w w' := by
 have bdd : dd < N := by rw [hdd]; decide +kernel
 have br1 : r1 < Ed.P := (by rw [hr1]; exact Nat.mod_lt _ P_pos)
 have br2 : r2 < Ed.P := (by rw [hr2]; exact Nat.mod_lt _ P_pos)
 have br3 : r3 < Ed.P := (by rw [hr3]; exact Nat.mod_lt _ P_pos)
 have br4 : r4 < Ed.P := (by rw [hr4]; exact Nat.mod_lt _ P_pos)
 have br5 : r5 < Ed.P := (by rw [hr5]; exact Nat.mod_lt _ P_pos)
 have br6 : r6 < Ed.P := (by rw [hr6]; exact Nat.mod_lt _ P_pos)
 have br7 : r7 < Ed.P := (by rw [hr7]; exact Nat.mod_lt _ P_pos)
 have br8 : r8 < Ed.P := (by rw [hr8]; exact Nat.mod_lt _ P_pos)
 have br9 : r9 < Ed.P := (by rw [hr9]; exact Nat.mod_lt _ P_pos)
 have br10 : r10 < Ed.P := (by rw [hr10]; exact sb_P _ _)
 have br11 : r11 < Ed.P := (by rw [hr11]; exact Nat.mod_lt _ P_pos)
 have br12 : r12 < Ed.P := (by rw [hr12]; exact Nat.mod_lt _ P_pos)
 have br13 : r13 < Ed.P := (by rw [hr13]; exact Nat.mod_lt _ P_pos)
 have br14 : r14 < Ed.P := (by rw [hr14]; exact Nat.mod_lt _ P_pos)
 have br15 : r15 < Ed.P := (by rw [hr15]; exact Nat.mod_lt _ P_pos)
 have br16 : r16 < Ed.P := (by rw [hr16]; exact Nat.mod_lt _ P_pos)
 have br17 : r17 < Ed.P := (by rw [hr17]; exact Nat.mod_lt _ P_pos)
 have hrun := calls_of_runG (P := Tryd.prog) (v := ⟨envI [(lm x1 0 : Int), (lm x1 1 : Int), (lm x1 2 : Int), (lm x1 3 : Int), (lm y1 0 : Int), (lm y1 1 : Int), (lm y1 2 : Int), (lm y1 3 : Int), (lm z1 0 : Int), (lm z1 1 : Int), (lm z1 2 : Int), (lm z1 3 : Int), (lm x2 0 : Int), (lm x2 1 : Int), (lm x2 2 : Int), (lm x2 3 : Int), (lm y2 0 : Int), (lm y2 1 : Int), (lm y2 2 : Int), (lm y2 3 : Int), (lm z2 0 : Int), (lm z2 1 : Int), (lm z2 2 : Int), (lm z2 3 : Int), (lm r1 0 : Int), (lm r1 1 : Int), (lm r1 2 : Int), (lm r1 3 : Int), (lm r2 0 : Int), (lm r2 1 : Int), (lm r2 2 : Int), (lm r2 3 : Int), (lm r3 0 : Int), (lm r3 1 : Int), (lm r3 2 : Int), (lm r3 3 : Int), (lm r4 0 : Int), (lm r4 1 : Int), (lm r4 2 : Int), (lm r4 3 : Int), (lm dd 0 : Int), (lm dd 1 : Int), (lm dd 2 : Int), (lm dd 3 : Int), (lm r5 0 : Int), (lm r5 1 : Int), (lm r5 2 : Int), (lm r5 3 : Int), (lm r6 0 : Int), (lm r6 1 : Int), (lm r6 2 : Int), (lm r6 3 : Int), (lm r7 0 : Int), (lm r7 1 : Int), (lm r7 2 : Int), (lm r7 3 : Int), (lm r8 0 : Int), (lm r8 1 : Int), (lm r8 2 : Int), (lm r8 3 : Int), (lm r9 0 : Int), (lm r9 1 : Int), (lm r9 2 : Int), (lm r9 3 : Int), (lm r10 0 : Int), (lm r10 1 : Int), (lm r10 2 : Int), (lm r10 3 : Int), (lm r11 0 : Int), (lm r11 1 : Int), (lm r11 2 : Int), (lm r11 3 : Int), (lm r12 0 : Int), (lm r12 1 : Int), (lm r12 2 : Int), (lm r12 3 : Int), (lm r13 0 : Int), (lm r13 1 : Int), (lm r13 2 : Int), (lm r13 3 : Int), (lm r14 0 : Int), (lm r14 1 : Int), (lm r14 2 : Int), (lm r14 3 : Int), (lm r15 0 : Int), (lm r15 1 : Int), (lm r15 2 : Int), (lm r15 3 : Int), (lm r16 0 : Int), (lm r16 1 : Int), (lm r16 2 : Int), (lm r16 3 : Int), (lm r17 0 : Int), (lm r17 1 : Int), (lm r17 2 : Int), (lm r17 3 : Int)], envB [], envL [], envP [], LE Ts, w⟩) (gs := []) (fuel := 3000) (nv := 24) (args := [JF27, (.agg [.v 12, .v 13, .v 14, .v 15, .v 16, .v 17, .v 18, .v 19, .v 20, .v 21, .v 22, .v 23])]) (ora := []) (sums := []) (res := [(.agg [.v 76, .v 77, .v 78, .v 79, .v 88, .v 89, .v 90, .v 91, .v 92, .v 93, .v 94, .v 95])]) (ev := [.call 43 [JF23, JF17] (.one JF2), .call 43 [JF2, JF2] (.one JF22), .call 43 [JF4, JF7] (.one JF16), .call 43 [JF3, JF1] (.one JF15), .call 48 [] (.one JF14), .call 43 [JF16, JF15] (.one JF21), .call 43 [JF14, JF21] (.one JF13), .call 43 [JF4, JF1] (.one JF12), .call 43 [JF7, JF3] (.one JF20), .call 47 [JF12, JF20] (.one JF11), .call 44 [JF22, JF13] (.one JF6), .call 47 [JF22, JF13] (.one JF5), .call 43 [JF2, JF11] (.one JF10), .call 43 [JF10, JF6] (.one JF19), .call 47 [JF15, JF16] (.one JF9), .call 43 [JF2, JF9] (.one JF8), .call 43 [JF8, JF5] (.one (.agg [.v 88, .v 89, .v 90, .v 91])), .call 43 [JF6, JF5] (.one (.agg [.v 92, .v 93, .v 94, .v 95]))]) (lev := []) Tryd.func84 (by kernel_rfl) (by kernel_rfl)
  (evs_of ⟨?_, ?_, ?_, ?_, ?_, ?_, ?_, ?_, ?_, ?_, ?_, ?_, ?_, ?_, ?_, ?_, ?_, ?_, trivial⟩) (by simp) (GsOk.nil _) hK hG
 ·(exact hrun)
 ·exact rmul_g Ts z1 z2 (by first | assumption | exact ltP ‹_› | decide +kernel) (by first | assumption | exact ltP ‹_› | decide +kernel) hr1
 ·exact rmul_g Ts r1 r1 (by first | assumption | exact ltP ‹_› | decide +kernel) (by first | assumption | exact ltP ‹_› | decide +kernel) hr2
 ·exact rmul_g Ts x1 x2 (by first | assumption | exact ltP ‹_› | decide +kernel) (by first | assumption | exact ltP ‹_› | decide +kernel) hr3
 ·exact rmul_g Ts y1 y2 (by first | assumption | exact ltP ‹_› | decide +kernel) (by first | assumption | exact ltP ‹_› | decide +kernel) hr4
 ·exact CallP.g (rd_c hdd)
 ·exact rmul_g Ts r3 r4 (by first | assumption | exact ltP ‹_› | decide +kernel) (by first | assumption | exact ltP ‹_› | decide +kernel) hr5
 ·exact rmul_g Ts dd r5 (by first | assumption | exact ltP ‹_› | decide +kernel) (by first | assumption | exact ltP ‹_› | decide +kernel) hr6
 ·exact rmul_g Ts x1 y2 (by first | assumption | exact ltP ‹_› | decide +kernel) (by first | assumption | exact ltP ‹_› | decide +kernel) hr7
 ·exact rmul_g Ts x2 y1 (by first | assumption | exact ltP ‹_› | decide +kernel) (by first | assumption | exact ltP ‹_› | decide +kernel) hr8
 ·exact radd_g Ts r7 r8 (by first | assumption | exact ltP ‹_› | decide +kernel) (by first | assumption | exact ltP ‹_› | decide +kernel) hr9
 ·exact rsub_g Ts r2 r6 (by first | assumption | exact ltP ‹_› | decide +kernel) (by first | assumption | exact ltP ‹_› | decide +kernel) hr10
 ·exact radd_g Ts r2 r6 (by first | assumption | exact ltP ‹_› | decide +kernel) (by first | assumption | exact ltP ‹_› | decide +kernel) hr11
 ·exact rmul_g Ts r1 r9 (by first | assumption | exact ltP ‹_› | decide +kernel) (by first | assumption | exact ltP ‹_› | decide +kernel) hr12
 ·exact rmul_g Ts r12 r10 (by first | assumption | exact ltP ‹_› | decide +kernel) (by first | assumption | exact ltP ‹_› | decide +kernel) hr13
 ·exact radd_g Ts r4 r3 (by first | assumption | exact ltP ‹_› | decide +kernel) (by first | assumption | exact ltP ‹_› | decide +kernel) hr14
 ·exact rmul_g Ts r1 r14 (by first | assumption | exact ltP ‹_› | decide +kernel) (by first | assumption | exact ltP ‹_› | decide +kernel) hr15
 ·exact rmul_g Ts r15 r11 (by first | assumption | exact ltP ‹_› | decide +kernel) (by first | assumption | exact ltP ‹_› | decide +kernel) hr16
 ·exact rmul_g Ts r10 r11 (by first | assumption | exact ltP ‹_› | decide +kernel) (by first | assumption | exact ltP ‹_› | decide +kernel) hr17
theorem rplus_ex (Ts : TQ) {x1 y1 z1 x2 y2 z2 : Nat} (bx1 : x1 < Ed.P) (by1 : y1 < Ed.P) (bz1 : z1 < Ed.P) (bx2 : x2 < Ed.P) (by2 : y2 < Ed.P) (bz2 : z2 < Ed.P) {p q : Ed.Pt} (hp : Ed.Rep3 (Ed.phi x1) (Ed.phi y1) (Ed.phi z1) p) (hq : Ed.Rep3 (Ed.phi x2) (Ed.phi y2) (Ed.phi z2) q) : ∃ X Y Z : Nat, CallG Tryd.prog (LE Ts) 84 #[.agg #[.int .u64 (lm x1 0), .int .u64 (lm x1 1), .int .u64 (lm x1 2), .int .u64 (lm x1 3), .int .u64 (lm y1 0), .int .u64 (lm y1 1), .int .u64 (lm y1 2), .int .u64 (lm y1 3), .int .u64 (lm z1 0), .int .u64 (lm z1 1), .int .u64 (lm z1 2), .int .u64 (lm z1 3)], .agg #[.int .u64 (lm x2 0), .int .u64 (lm x2 1), .int .u64 (lm x2 2), .int .u64 (lm x2 3), .int .u64 (lm y2 0), .int .u64 (lm y2 1), .int .u64 (lm y2 2), .int .u64 (lm y2 3), .int .u64 (lm z2 0), .int .u64 (lm z2 1), .int .u64 (lm z2 2), .int .u64 (lm z2 3)]] (.agg #[.int .u64 (lm X 0), .int .u64 (lm X 1), .int .u64 (lm X 2), .int .u64 (lm X 3), .int .u64 (lm Y 0), .int .u64 (lm Y 1), .int .u64 (lm Y 2), .int .u64 (lm Y 3), .int .u64 (lm Z 0), .int .u64 (lm Z 1), .int .u64 (lm Z 2), .int .u64 (lm Z 3)]) ∧ X < Ed.P ∧ Y < Ed.P ∧ Z < Ed.P ∧ Ed.Rep3 (Ed.phi X) (Ed.phi Y) (Ed.phi Z) (p + q) := by
 obtain ⟨r1, hr1⟩ : ∃ r : Nat, r = z1 * z2 % Ed.P := ⟨_, rfl⟩
 obtain ⟨r2, hr2⟩ : ∃ r : Nat, r = r1 * r1 % Ed.P := ⟨_, rfl⟩
 obtain ⟨r3, hr3⟩ : ∃ r : Nat, r = x1 * x2 % Ed.P := ⟨_, rfl⟩
 obtain ⟨r4, hr4⟩ : ∃ r : Nat, r = y1 * y2 % Ed.P := ⟨_, rfl⟩
 obtain ⟨r5, hr5⟩ : ∃ r : Nat, r = r3 * r4 % Ed.P := ⟨_, rfl⟩
 obtain ⟨r6, hr6⟩ : ∃ r : Nat, r = Ed.dN * r5 % Ed.P := ⟨_, rfl⟩
 obtain ⟨r7, hr7⟩ : ∃ r : Nat, r = x1 * y2 % Ed.P := ⟨_, rfl⟩
 obtain ⟨r8, hr8⟩ : ∃ r : Nat, r = x2 * y1 % Ed.P := ⟨_, rfl⟩
 obtain ⟨r9, hr9⟩ : ∃ r : Nat, r = (r7 + r8) % Ed.P := ⟨_, rfl⟩
 obtain ⟨r10, hr10⟩ : ∃ r : Nat, r = sb Ed.P r2 r6 := ⟨_, rfl⟩
 obtain ⟨r11, hr11⟩ : ∃ r : Nat, r = (r2 + r6) % Ed.P := ⟨_, rfl⟩
 obtain ⟨r12, hr12⟩ : ∃ r : Nat, r = r1 * r9 % Ed.P := ⟨_, rfl⟩
 obtain ⟨r13, hr13⟩ : ∃ r : Nat, r = r12 * r10 % Ed.P := ⟨_, rfl⟩
 obtain ⟨r14, hr14⟩ : ∃ r : Nat, r = (r4 + r3) % Ed.P := ⟨_, rfl⟩
 obtain ⟨r15, hr15⟩ : ∃ r : Nat, r = r1 * r14 % Ed.P := ⟨_, rfl⟩
 obtain ⟨r16, hr16⟩ : ∃ r : Nat, r = r15 * r11 % Ed.P := ⟨_, rfl⟩
 obtain ⟨r17, hr17⟩ : ∃ r : Nat, r = r10 * r11 % Ed.P := ⟨_, rfl⟩
 refine ⟨r13, r16, r17, callG_of Tryd.func84 (by kernel_rfl) (by kernel_rfl) (fun w hK hG => rplus_run x1 y1 z1 x2 y2 z2 Ts (Nat.lt_trans bx1 PN) (Nat.lt_trans by1 PN) (Nat.lt_trans bz1 PN) (Nat.lt_trans bx2 PN) (Nat.lt_trans by2 PN) (Nat.lt_trans bz2 PN) _ rfl _ _ _ _ _ _ _ _ _ _ _ _ _ _ _ _ _ hr1 hr2 hr3 hr4 hr5 hr6 hr7 hr8 hr9 hr10 hr11 hr12 hr13 hr14 hr15 hr16 hr17 w hK hG), by rw [hr13]; exact Nat.mod_lt _ P_pos, by rw [hr16]; exact Nat.mod_lt _ P_pos, by rw [hr17]; exact Nat.mod_lt _ P_pos, ?_⟩
 have h := Ed.rep3_plus hp hq rfl rfl rfl rfl rfl rfl rfl rfl
 subst hr17 hr16 hr15 hr14 hr13 hr12 hr11 hr10 hr9 hr8 hr7 hr6 hr5 hr4 hr3 hr2 hr1
 simp only [Ed.phi_mod, Ed.phi_mul, Ed.phi_add, phi_sb, phi_tw, Ed.phi_dN]
 exact h
theorem rdrop_run (x y z : Nat) (Ts : TQ) (bdx : x < Ed.P) (bdy : y < Ed.P) (bdz : z < Ed.P) {p : Ed.Pt} (h : Ed.Rep3 (Ed.phi x) (Ed.phi y) (Ed.phi z) p) (X Y : Nat) (hX : X = p.x.val) (hY : Y = p.y.val) (w : World) (hK : (LE Ts).K ≤ w.heap.size) (hG : (LE Ts).G w) : Calls Tryd.prog 75 #[.agg #[.int .u64 (lm x 0), .int .u64 (lm x 1), .int .u64 (lm x 2), .int .u64 (lm x 3), .int .u64 (lm y 0), .int .u64 (lm y 1), .int .u64 (lm y 2), .int .u64 (lm y 3), .int .u64 (lm z 0), .int .u64 (lm z 1), .int .u64 (lm z 2), .int .u64 (lm z 3)]] w fun e w' => e = .returned (vP X Y false) ∧ Below w.heap.size w w' := by
 obtain ⟨r1, hr1⟩ : ∃ r : Nat, r = z ^ (Ed.P - 2) % Ed.P := ⟨_, rfl⟩
 have br1 : r1 < Ed.P := (by rw [hr1]; exact Nat.mod_lt _ P_pos)
 obtain ⟨r2, hr2⟩ : ∃ r : Nat, r = x * r1 % Ed.P := ⟨_, rfl⟩
 have br2 : r2 < Ed.P := (by rw [hr2]; exact Nat.mod_lt _ P_pos)
 obtain ⟨r3, hr3⟩ : ∃ r : Nat, r = y * r1 % Ed.P := ⟨_, rfl⟩
 have br3 : r3 < Ed.P := (by rw [hr3]; exact Nat.mod_lt _ P_pos)
 have d := h.drop
 have e2 : X = r2 := by
  rw [hX]
  refine (val_of br2 ?_).symm
  rw [hr2, hr1, Ed.phi_mod, Ed.phi_mul, phi_inv]
  exact d.1
 have e3 : Y = r3 := by
  rw [hY]
  refine (val_of br3 ?_).symm
  rw [hr3, hr1, Ed.phi_mod, Ed.phi_mul, phi_inv]
  exact d.2
 have hrun := calls_of_runG (P := Tryd.prog) (v := ⟨envI [lm x 0, lm x 1, lm x 2, lm x 3, lm y 0, lm y 1, lm y 2, lm y 3, lm z 0, lm z 1, lm z 2, lm z 3, lm r1 0, lm r1 1, lm r1 2, lm r1 3, lm r2 0, lm r2 1, lm r2 2, lm r2 3, lm r3 0, lm r3 1, lm r3 2, lm r3 3], envB [], envL [], envP [], LE Ts, w⟩) (gs := []) (fuel := 3000) (nv := 12) (args := [JF27]) (ora := []) (sums := []) (res := [(.agg [.v 16, .v 17, .v 18, .v 19, .v 20, .v 21, .v 22, .v 23, .bool (.lit false)])]) (ev := [.call 46 [(.sc (.int .i64 (.lit 2))), JF23] (.one JF7), .call 43 [JF4, JF7] (.one JF1), .call 43 [JF3, JF7] (.one JF17)]) (lev := []) Tryd.func75 (by kernel_rfl) (by kernel_rfl)
  (evs_of ⟨?_, ?_, ?_, trivial⟩) (by simp) (GsOk.nil _) hK hG
 ·(refine calls_eq hrun ?_; rw [e2, e3]; rfl)
 ·exact finv_g Ts z (by first | assumption | exact ltP ‹_› | decide +kernel) hr1
 ·exact rmul_g Ts x r1 (by first | assumption | exact ltP ‹_› | decide +kernel) (by first | assumption | exact ltP ‹_› | decide +kernel) hr2
 ·exact rmul_g Ts y r1 (by first | assumption | exact ltP ‹_› | decide +kernel) (by first | assumption | exact ltP ‹_› | decide +kernel) hr3
theorem rdrop_g (Ts : TQ) {x y z : Nat} (bdx : x < Ed.P) (bdy : y < Ed.P) (bdz : z < Ed.P) {p : Ed.Pt} (h : Ed.Rep3 (Ed.phi x) (Ed.phi y) (Ed.phi z) p) {X Y : Nat} (hX : X = p.x.val) (hY : Y = p.y.val) : CallG Tryd.prog (LE Ts) 75 #[.agg #[.int .u64 (lm x 0), .int .u64 (lm x 1), .int .u64 (lm x 2), .int .u64 (lm x 3), .int .u64 (lm y 0), .int .u64 (lm y 1), .int .u64 (lm y 2), .int .u64 (lm y 3), .int .u64 (lm z 0), .int .u64 (lm z 1), .int .u64 (lm z 2), .int .u64 (lm z 3)]] (vP X Y false) :=
 callG_of Tryd.func75 (by kernel_rfl) (by kernel_rfl) (fun w hK hG => rdrop_run x y z Ts bdx bdy bdz h X Y hX hY w hK hG)
theorem rAdd_run (x1 y1 : Nat) (b1 : Bool) (x2 y2 : Nat) (b2 : Bool) (Ts : TQ) (hx1 : x1 < N) (hy1 : y1 < N) (hx2 : x2 < N) (hy2 : y2 < N) (U V : Nat) (hU : U = (ptOf x1 y1 b1 + ptOf x2 y2 b2).x.val) (hV : V = (ptOf x1 y1 b1 + ptOf x2 y2 b2).y.val) (w : World) (hK : (LE Ts).K ≤ w.heap.size) (hG : (LE Ts).G w) : Calls Tryd.prog 52 #[vP x1 y1 b1, vP x2 y2 b2] w fun e w' => e = .returned (vP U V false) ∧ Below w.heap.size w w' := by
 obtain ⟨X1, Y1, Z1, C1_g, bX1, bY1, bZ1, R1⟩ := rlift_ex Ts x1 y1 b1 (by assumption) (by assumption)
 obtain ⟨X2, Y2, Z2, C2_g, bX2, bY2, bZ2, R2⟩ := rlift_ex Ts x2 y2 b2 (by assumption) (by assumption)
 obtain ⟨X, Y, Z, Cp_g, bX, bY, bZ, Rp⟩ := rplus_ex Ts bX1 bY1 bZ1 bX2 bY2 bZ2 R1 R2
 have hrun := calls_of_runG (P := Tryd.prog) (v := ⟨envI [(lm x1 0 : Int), (lm x1 1 : Int), (lm x1 2 : Int), (lm x1 3 : Int), (lm y1 0 : Int), (lm y1 1 : Int), (lm y1 2 : Int), (lm y1 3 : Int), 0, (lm x2 0 : Int), (lm x2 1 : Int), (lm x2 2 : Int), (lm x2 3 : Int), (lm y2 0 : Int), (lm y2 1 : Int), (lm y2 2 : Int), (lm y2 3 : Int), 0, (lm X1 0 : Int), (lm X1 1 : Int), (lm X1 2 : Int), (lm X1 3 : Int), (lm Y1 0 : Int), (lm Y1 1 : Int), (lm Y1 2 : Int), (lm Y1 3 : Int), (lm Z1 0 : Int), (lm Z1 1 : Int), (lm Z1 2 : Int), (lm Z1 3 : Int), (lm X2 0 : Int), (lm X2 1 : Int), (lm X2 2 : Int), (lm X2 3 : Int), (lm Y2 0 : Int), (lm Y2 1 : Int), (lm Y2 2 : Int), (lm Y2 3 : Int), (lm Z2 0 : Int), (lm Z2 1 : Int), (lm Z2 2 : Int), (lm Z2 3 : Int), (lm X 0 : Int), (lm X 1 : Int), (lm X 2 : Int), (lm X 3 : Int), (lm Y 0 : Int), (lm Y 1 : Int), (lm Y 2 : Int), (lm Y 3 : Int), (lm Z 0 : Int), (lm Z 1 : Int), (lm Z 2 : Int), (lm Z 3 : Int), (lm U 0 : Int), (lm U 1 : Int), (lm U 2 : Int), (lm U 3 : Int), (lm V 0 : Int), (lm V 1 : Int), (lm V 2 : Int), (lm V 3 : Int)], envB [false, false, false, false, false, false, false, false, b1, false, false, false, false, false, false, false, false, b2, false, false, false, false, false, false, false, false, false, false, false, false, false, false, false, false, false, false, false, false, false, false, false, false, false, false, false, false, false, false, false, false, false, false, false, false, false, false, false, false, false, false, false, false, false], envL [], envP [], LE Ts, w⟩) (gs := []) (fuel := 3000) (nv := 18) (args := [JF0, JF29]) (ora := []) (sums := []) (res := [JF28]) (ev := [.call 77 [JF0] (.one JF26), .call 77 [JF29] (.one JF25), .call 84 [JF26, JF25] (.one JF24), .call 75 [JF24] (.one JF28)]) (lev := []) Tryd.func52 (by kernel_rfl) (by kernel_rfl)
  (evs_of ⟨?_, ?_, ?_, ?_, trivial⟩) (by simp) (GsOk.nil _) hK hG
 ·exact hrun
 ·exact C1_g
 ·exact C2_g
 ·exact Cp_g
 ·exact rdrop_g Ts bX bY bZ Rp hU hV
theorem rAdd_g (Ts : TQ) (x1 y1 : Nat) (b1 : Bool) (x2 y2 : Nat) (b2 : Bool) (hx1 : x1 < N) (hy1 : y1 < N) (hx2 : x2 < N) (hy2 : y2 < N) {U V : Nat} (hU : U = (ptOf x1 y1 b1 + ptOf x2 y2 b2).x.val) (hV : V = (ptOf x1 y1 b1 + ptOf x2 y2 b2).y.val) :
  CallG Tryd.prog (LE Ts) 52 #[vP x1 y1 b1, vP x2 y2 b2] (vP U V false) :=
 callG_of Tryd.func52 (by kernel_rfl) (by kernel_rfl) (fun w hK hG => rAdd_run x1 y1 b1 x2 y2 b2 Ts hx1 hy1 hx2 hy2 U V hU hV w hK hG)
end Go.Proofs.YtkckmpnkacdchaaDoor
