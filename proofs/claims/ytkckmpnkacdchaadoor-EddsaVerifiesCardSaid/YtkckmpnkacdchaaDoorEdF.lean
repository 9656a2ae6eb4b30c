/- Formed points; points lifted. -/
import Derived.Test.YtkckmpnkacdchaaDoorEdV
import Derived.Test.YtkckmpnkacdchaaDoorFout
import Derived.Test.YtkckmpnkacdchaaDoorRel02b
set_option linter.unusedVariables false
set_option linter.unusedSimpArgs false
set_option maxHeartbeats 4000000
namespace Go.Proofs.YtkckmpnkacdchaaDoor
open Go.RowKit Go.Num Go.Sx
abbrev JH0 : List A := [(.agg [.v 0, .v 1, .v 2, .v 3, .v 4, .v 5, .v 6, .v 7, .bool (.lit false)])]
abbrev JH1 : A := .agg [.v 0, .v 1, .v 2, .v 3]
abbrev JH2 : List A := [(.agg [.n 14507833142362363162, .n 7578651490590762930, .n 13881468655802702940, .n 2407515759118799870, .n 7378697629483820632, .n 7378697629483820646, .n 7378697629483820646, .n 7378697629483820646, .bool (.lit false)])]
abbrev JH3 : A := .sc (.int .i64 (.lit 2))
abbrev JH4 : A := .agg [.v 4, .v 5, .v 6, .v 7]
abbrev JH5 : A := .agg [.v 14, .v 15, .v 16, .v 17]
abbrev JH6 : A := .agg [.v 10, .v 11, .v 12, .v 13]
abbrev JH7 : List A := [(.sc (.bool (.lit false)))]
abbrev JH8 : A := .agg [.n 8496970652267935907, .n 31536524315187371, .n 10144147576115030168, .n 5909686906226998899]
abbrev JH9 : A := .agg [.v 26, .v 27, .v 28, .v 29]
abbrev JH10 : A := .agg [.v 22, .v 23, .v 24, .v 25]
abbrev JH11 : A := .sc (.bool (.var 8))
abbrev JH12 : List A := [(.agg [.v 0, .v 1, .v 2, .v 3, .v 4, .v 5, .v 6, .v 7, .bool (.lit true)])]
abbrev JH13 : A := .agg [.v 30, .v 31, .v 32, .v 33]
abbrev JH14 : A := .sc (.bool (.var 9))
def formedB (x y : Nat) (b : Bool) : Bool := !b && (decide (x < Ed.P) && (decide (y < Ed.P) && decide (sb Ed.P (y * y % Ed.P) (x * x % Ed.P) = (1 + Ed.dN * (x * x % Ed.P * (y * y % Ed.P) % Ed.P) % Ed.P) % Ed.P)))
theorem formed_iff {x y : Nat} {b : Bool} : formedB x y b = true ↔ b = false ∧ x < Ed.P ∧ y < Ed.P ∧ Ed.On (Ed.phi x) (Ed.phi y) := by
 have key : (sb Ed.P (y * y % Ed.P) (x * x % Ed.P) = (1 + Ed.dN * (x * x % Ed.P * (y * y % Ed.P) % Ed.P) % Ed.P) % Ed.P) ↔ Ed.On (Ed.phi x) (Ed.phi y) := by
  unfold Ed.On
  rw [← Ed.phi_dN, ← Ed.phi_one]
  have e1 : Ed.phi (sb Ed.P (y * y % Ed.P) (x * x % Ed.P)) = Ed.phi y * Ed.phi y - Ed.phi x * Ed.phi x := by rw [phi_sb, Ed.phi_mod, Ed.phi_mod, Ed.phi_mul, Ed.phi_mul]
  have e2 : Ed.phi ((1 + Ed.dN * (x * x % Ed.P * (y * y % Ed.P) % Ed.P) % Ed.P) % Ed.P) = Ed.phi 1 + Ed.phi Ed.dN * (Ed.phi x * Ed.phi x * (Ed.phi y * Ed.phi y)) := by simp only [Ed.phi_mod, Ed.phi_add, Ed.phi_mul]
  rw [← e1, ← e2]
  exact ⟨fun h => by rw [h], fun h => Ed.phi_inj (sb_P _ _) (Nat.mod_lt _ P_pos) h⟩
 unfold formedB
 simp only [Bool.and_eq_true, decide_eq_true_eq, Bool.not_eq_true', key]
def ptOf (x y : Nat) (b : Bool) : Ed.Pt := if h : formedB x y b = true then ⟨Ed.phi x, Ed.phi y, (formed_iff.1 h).2.2.2⟩ else 0
theorem pt_formed (p : Ed.Pt) : formedB p.x.val p.y.val false = true := formed_iff.2 ⟨rfl, p.x.isLt, p.y.isLt, by rw [Ed.phi_of_val, Ed.phi_of_val]; exact p.on⟩
theorem ptOf_pt (p : Ed.Pt) : ptOf p.x.val p.y.val false = p := by
 unfold ptOf
 rw [dif_pos (pt_formed p)]
 exact Ed.Pt.ext' (Ed.phi_of_val _) (Ed.phi_of_val _)
theorem ptOf_val {x y : Nat} {b : Bool} (h : formedB x y b = true) : (ptOf x y b).x.val = x ∧ (ptOf x y b).y.val = y ∧ b = false := by
 obtain ⟨h1, h2, h3, _⟩ := formed_iff.1 h
 unfold ptOf
 rw [dif_pos h]
 exact ⟨Nat.mod_eq_of_lt h2, Nat.mod_eq_of_lt h3, h1⟩
theorem ptOf_none {x y : Nat} {b : Bool} (h : ¬ formedB x y b = true) : ptOf x y b = 0 := by
 unfold ptOf
 rw [dif_neg h]
theorem zero_val : (0 : Ed.Pt).x.val = 0 ∧ (0 : Ed.Pt).y.val = 1 := ⟨rfl, by rw [Ed.Pt.zero_y]; decide +kernel⟩
theorem rep_lift {x y : Nat} {b : Bool} {X Y Z : Nat} (hX : X = if formedB x y b = true then x else 0) (hY : Y = if formedB x y b = true then y else 1) (hZ : Z = if formedB x y b = true then x * y % Ed.P else 0) :
  Ed.Rep (Ed.phi X) (Ed.phi Y) (Ed.phi 1) (Ed.phi Z) (ptOf x y b) ∧ X < Ed.P ∧ Y < Ed.P ∧ Z < Ed.P := by
 by_cases h : formedB x y b = true
 ·obtain ⟨_, h2, h3, h4⟩ := formed_iff.1 h
  rw [if_pos h] at hX hY hZ
  subst hX hY hZ
  refine ⟨?_, h2, h3, Nat.mod_lt _ P_pos⟩
  have := Ed.rep_pt (ptOf X Y b)
  unfold ptOf at this ⊢
  rw [dif_pos h] at this ⊢
  rw [Ed.phi_one, Ed.phi_mod, Ed.phi_mul]
  exact this
 ·rw [if_neg h] at hX hY hZ
  subst hX hY hZ
  rw [ptOf_none h, Ed.phi_one, Ed.phi_zero]
  exact ⟨Ed.rep_zero, P_pos, by decide +kernel, P_pos⟩
theorem lm_eq {a b : Nat} (ha : a < N) (hb : b < N) : (((lm a 0 : Int) == (lm b 0 : Int)) && (((lm a 1 : Int) == (lm b 1 : Int)) && (((lm a 2 : Int) == (lm b 2 : Int)) && ((lm a 3 : Int) == (lm b 3 : Int))))) = decide (a = b) := by
 by_cases h : a = b
 ·subst h; simp
 ·rw [decide_eq_false h, Bool.eq_false_iff]
  intro hh
  simp only [Bool.and_eq_true, beq_iff_eq] at hh
  obtain ⟨h0, h1, h2, h3⟩ := hh
  apply h
  rw [← num_lm ha, ← num_lm hb]
  rw [show lm a 0 = lm b 0 by omega, show lm a 1 = lm b 1 by omega, show lm a 2 = lm b 2 by omega, show lm a 3 = lm b 3 by omega]
theorem below_P (Ts : TV) {a : Nat} : (decide (a < Mz 2)) = decide (a < Ed.P) := by
 have e : Mz 2 = Ed.P := by unfold Mz; rw [if_pos (by decide)]; exact P_mo.symm
 rw [e]
theorem one_l {r : Nat} (hr : r = 1) : CallP Tryd.prog 79 #[.int .u64 (1 : Int)] (vN r) := rsmall1_l hr
theorem ebelow_g (Ts : TV) (a : Nat) (ha : a < N) {z : Bool} (hz : z = decide (a < Ed.P)) : CallG Tryd.prog (LE Ts) 33 #[.int .i64 (2 : Int), vN a] (.bool z) :=
 lf (below_g _ 2 a ha (hz.trans (below_P Ts).symm))
theorem rrbelow_g (Ts : TV) (a : Nat) (ha : a < N) {z : Bool} (hz : z = decide (a < Ed.P)) : CallG Tryd.prog (LE Ts) 19 #[.int .i64 (2 : Int), vN a] (.bool z) :=
 lf (rbelow_g _ 2 a ha (hz.trans (below_P Ts).symm))
theorem rone_run  (r : Nat) (hr : r = 1) (w : World) : Calls Tryd.prog 45 #[] w fun e w' => e = .returned (vN r) ∧ Below w.heap.size w w' := by
 have hrun := calls_of_runG (P := Tryd.prog) (v := ⟨envI [lm r 0, lm r 1, lm r 2, lm r 3], envB [], envL [], envP [], L0, w⟩) (gs := []) (fuel := 3000) (nv := 0) (args := []) (ora := []) (sums := []) (res := [JH1]) (ev := [.call 79 [(.sc (.n 1))] (.one JH1)]) (lev := []) Tryd.func45 (by kernel_rfl) (by kernel_rfl)
  (evs_of ⟨?_, trivial⟩) (by simp) (GsOk.nil _) (Nat.zero_le _) trivial
 ·exact hrun
 ·exact CallP.g (one_l hr)
theorem rone_c {r : Nat} (hr : r = 1) : CallP Tryd.prog 45 #[] (vN r) := callP_of Tryd.func45 (by kernel_rfl) (by kernel_rfl) (fun w => rone_run r hr w)
theorem rd_run   (w : World) : Calls Tryd.prog 48 #[] w fun e w' => e = .returned (.agg #[.int .u64 (lm Ed.dN 0), .int .u64 (lm Ed.dN 1), .int .u64 (lm Ed.dN 2), .int .u64 (lm Ed.dN 3)]) ∧ Below w.heap.size w w' := by
 have hrun := calls_of_runG (P := Tryd.prog) (v := ⟨envI [], envB [], envL [], envP [], L0, w⟩) (gs := []) (fuel := 3000) (nv := 0) (args := []) (ora := []) (sums := []) (res := [JH8]) (ev := []) (lev := []) Tryd.func48 (by kernel_rfl) (by kernel_rfl)
  (by simp) (by simp) (GsOk.nil _) (Nat.zero_le _) trivial
 ·(exact calls_eq hrun (by kernel_rfl))
theorem rd_c {r : Nat} (hr : r = Ed.dN) : CallP Tryd.prog 48 #[] (vN r) := by
 subst hr
 exact callP_of Tryd.func48 (by kernel_rfl) (by kernel_rfl) (fun w => rd_run w)
theorem ebase_run   (w : World) : Calls Tryd.prog 25 #[] w fun e w' => e = .returned (.agg #[.int .u64 (lm (Ed.bx) 0), .int .u64 (lm (Ed.bx) 1), .int .u64 (lm (Ed.bx) 2), .int .u64 (lm (Ed.bx) 3), .int .u64 (lm (Ed.bY) 0), .int .u64 (lm (Ed.bY) 1), .int .u64 (lm (Ed.bY) 2), .int .u64 (lm (Ed.bY) 3), .bool false]) ∧ Below w.heap.size w w' := by
 have hrun := calls_of_runG (P := Tryd.prog) (v := ⟨envI [], envB [], envL [], envP [], L0, w⟩) (gs := []) (fuel := 3000) (nv := 0) (args := []) (ora := []) (sums := []) (res := JH2) (ev := []) (lev := []) Tryd.func25 (by kernel_rfl) (by kernel_rfl)
  (by simp) (by simp) (GsOk.nil _) (Nat.zero_le _) trivial
 ·(exact calls_eq hrun (by kernel_rfl))
theorem ebase_c {X Y : Nat} (hX : X = Ed.bx) (hY : Y = Ed.bY) : CallP Tryd.prog 25 #[] (vP X Y false) := by
 subst hX hY
 exact callP_of Tryd.func25 (by kernel_rfl) (by kernel_rfl) (fun w => ebase_run w)
theorem rbase_run   (w : World) : Calls Tryd.prog 40 #[] w fun e w' => e = .returned (.agg #[.int .u64 (lm (Ed.bx) 0), .int .u64 (lm (Ed.bx) 1), .int .u64 (lm (Ed.bx) 2), .int .u64 (lm (Ed.bx) 3), .int .u64 (lm (Ed.bY) 0), .int .u64 (lm (Ed.bY) 1), .int .u64 (lm (Ed.bY) 2), .int .u64 (lm (Ed.bY) 3), .bool false]) ∧ Below w.heap.size w w' := by
 have hrun := calls_of_runG (P := Tryd.prog) (v := ⟨envI [], envB [], envL [], envP [], L0, w⟩) (gs := []) (fuel := 3000) (nv := 0) (args := []) (ora := []) (sums := []) (res := JH2) (ev := []) (lev := []) Tryd.func40 (by kernel_rfl) (by kernel_rfl)
  (by simp) (by simp) (GsOk.nil _) (Nat.zero_le _) trivial
 ·(exact calls_eq hrun (by kernel_rfl))
theorem rbase_c {X Y : Nat} (hX : X = Ed.bx) (hY : Y = Ed.bY) : CallP Tryd.prog 40 #[] (vP X Y false) := by
 subst hX hY
 exact callP_of Tryd.func40 (by kernel_rfl) (by kernel_rfl) (fun w => rbase_run w)
theorem rnone_run  (Y : Nat) (hY : Y = 1) (w : World) : Calls Tryd.prog 42 #[] w fun e w' => e = .returned (.agg #[.int .u64 (lm 0 0), .int .u64 (lm 0 1), .int .u64 (lm 0 2), .int .u64 (lm 0 3), .int .u64 (lm Y 0), .int .u64 (lm Y 1), .int .u64 (lm Y 2), .int .u64 (lm Y 3), .bool false]) ∧ Below w.heap.size w w' := by
 have hrun := calls_of_runG (P := Tryd.prog) (v := ⟨envI [lm Y 0, lm Y 1, lm Y 2, lm Y 3], envB [], envL [], envP [], L0, w⟩) (gs := []) (fuel := 3000) (nv := 0) (args := []) (ora := []) (sums := []) (res := [(.agg [.n 0, .n 0, .n 0, .n 0, .v 0, .v 1, .v 2, .v 3, .bool (.lit false)])]) (ev := [.call 45 [] (.one JH1)]) (lev := []) Tryd.func42 (by kernel_rfl) (by kernel_rfl)
  (evs_of ⟨?_, trivial⟩) (by simp) (GsOk.nil _) (Nat.zero_le _) trivial
 ·(refine calls_eq hrun ?_; rw [lm_zz, lm_zz, lm_zz, lm_zz]; rfl)
 ·exact CallP.g (rone_c hY)
theorem rnone_c {X Y : Nat} (hX : X = 0) (hY : Y = 1) : CallP Tryd.prog 42 #[] (vP X Y false) := by
 subst hX
 exact callP_of Tryd.func42 (by kernel_rfl) (by kernel_rfl) (fun w => rnone_run Y hY w)
theorem eformed_none (x y : Nat) (Ts : TV) (hx : x < N) (hy : y < N) (dd : Nat) (hdd : dd = Ed.dN) (one1 : Nat) (hone1 : one1 = 1) (w : World) (hK : (LE Ts).K ≤ w.heap.size) (hG : (LE Ts).G w) : Calls Tryd.prog 54 #[vP x y true] w fun e w' => e = .returned (.bool false) ∧ Below w.heap.size w w' := by
 have bdd : dd < N := by rw [hdd]; decide +kernel
 have bone : one1 < N := by rw [hone1]; decide
 have hrun := calls_of_runG (P := Tryd.prog) (v := ⟨envI [lm x 0, lm x 1, lm x 2, lm x 3, lm y 0, lm y 1, lm y 2, lm y 3], envB [], envL [], envP [], LE Ts, w⟩) (gs := (edGs Ts [v_one, v_d])) (fuel := 3000) (nv := 8) (args := JH12) (ora := []) (sums := []) (res := JH7) (ev := []) (lev := []) Tryd.func54 (by kernel_rfl) (by kernel_rfl)
  (by simp) (by simp) (varsOk Ts _ (List.forall_mem_cons.2 ⟨Ts.one, (List.forall_mem_cons.2 ⟨Ts.d, (List.forall_mem_nil _)⟩)⟩) (by decide)) hK hG
 ·exact hrun
theorem eformed_x (x y : Nat) (Ts : TV) (hx : x < N) (hy : y < N) (dd : Nat) (hdd : dd = Ed.dN) (one1 : Nat) (hone1 : one1 = 1) (h1 : ¬ x < Ed.P) (w : World) (hK : (LE Ts).K ≤ w.heap.size) (hG : (LE Ts).G w) : Calls Tryd.prog 54 #[vP x y false] w fun e w' => e = .returned (.bool false) ∧ Below w.heap.size w w' := by
 have bdd : dd < N := by rw [hdd]; decide +kernel
 have bone : one1 < N := by rw [hone1]; decide
 obtain ⟨r1, hr1⟩ : ∃ r : Bool, r = decide (x < Ed.P) := ⟨_, rfl⟩
 have hrun := calls_of_runG (P := Tryd.prog) (v := ⟨envI [lm x 0, lm x 1, lm x 2, lm x 3, lm y 0, lm y 1, lm y 2, lm y 3], envB [false, false, false, false, false, false, false, false, r1], envL [], envP [], LE Ts, w⟩) (gs := (edGs Ts [v_one, v_d])) (fuel := 3000) (nv := 8) (args := JH0) (ora := [some false]) (sums := []) (res := JH7) (ev := [.call 33 [JH3, JH1] (.one JH11), .dec (.var 8) false]) (lev := []) Tryd.func54 (by kernel_rfl) (by kernel_rfl)
  (evs_of ⟨?_, ?_, trivial⟩) (by simp) (varsOk Ts _ (List.forall_mem_cons.2 ⟨Ts.one, (List.forall_mem_cons.2 ⟨Ts.d, (List.forall_mem_nil _)⟩)⟩) (by decide)) hK hG
 ·exact hrun
 ·exact ebelow_g Ts x (by first | assumption | exact ltP ‹_› | decide +kernel) hr1
 ·(show r1 = false; rw [hr1]; exact decide_eq_false h1)
theorem eformed_y (x y : Nat) (Ts : TV) (hx : x < N) (hy : y < N) (dd : Nat) (hdd : dd = Ed.dN) (one1 : Nat) (hone1 : one1 = 1) (h1 : x < Ed.P) (h2 : ¬ y < Ed.P) (w : World) (hK : (LE Ts).K ≤ w.heap.size) (hG : (LE Ts).G w) : Calls Tryd.prog 54 #[vP x y false] w fun e w' => e = .returned (.bool false) ∧ Below w.heap.size w w' := by
 have bdd : dd < N := by rw [hdd]; decide +kernel
 have bone : one1 < N := by rw [hone1]; decide
 obtain ⟨r1, hr1⟩ : ∃ r : Bool, r = decide (x < Ed.P) := ⟨_, rfl⟩
 obtain ⟨r2, hr2⟩ : ∃ r : Bool, r = decide (y < Ed.P) := ⟨_, rfl⟩
 have hrun := calls_of_runG (P := Tryd.prog) (v := ⟨envI [lm x 0, lm x 1, lm x 2, lm x 3, lm y 0, lm y 1, lm y 2, lm y 3], envB [false, false, false, false, false, false, false, false, r1, r2], envL [], envP [], LE Ts, w⟩) (gs := (edGs Ts [v_one, v_d])) (fuel := 3000) (nv := 8) (args := JH0) (ora := [some true, some false]) (sums := []) (res := JH7) (ev := [.call 33 [JH3, JH1] (.one JH11), .dec (.var 8) true, .call 33 [JH3, JH4] (.one JH14), .dec (.var 9) false]) (lev := []) Tryd.func54 (by kernel_rfl) (by kernel_rfl)
  (evs_of ⟨?_, ?_, ?_, ?_, trivial⟩) (by simp) (varsOk Ts _ (List.forall_mem_cons.2 ⟨Ts.one, (List.forall_mem_cons.2 ⟨Ts.d, (List.forall_mem_nil _)⟩)⟩) (by decide)) hK hG
 ·exact hrun
 ·exact ebelow_g Ts x (by first | assumption | exact ltP ‹_› | decide +kernel) hr1
 ·(show r1 = true; rw [hr1]; exact decide_eq_true h1)
 ·exact ebelow_g Ts y (by first | assumption | exact ltP ‹_› | decide +kernel) hr2
 ·(show r2 = false; rw [hr2]; exact decide_eq_false h2)
theorem eformed_eq (x y : Nat) (Ts : TV) (hx : x < N) (hy : y < N) (dd : Nat) (hdd : dd = Ed.dN) (one1 : Nat) (hone1 : one1 = 1) (h1 : x < Ed.P) (h2 : y < Ed.P) (z : Bool) (hz : z = decide (sb Ed.P (y * y % Ed.P) (x * x % Ed.P) = (1 + Ed.dN * (x * x % Ed.P * (y * y % Ed.P) % Ed.P) % Ed.P) % Ed.P)) (w : World) (hK : (LE Ts).K ≤ w.heap.size) (hG : (LE Ts).G w) : Calls Tryd.prog 54 #[vP x y false] w fun e w' => e = .returned (.bool z) ∧ Below w.heap.size w w' := by
 have bdd : dd < N := by rw [hdd]; decide +kernel
 have bone : one1 < N := by rw [hone1]; decide
 obtain ⟨r1, hr1⟩ : ∃ r : Bool, r = decide (x < Ed.P) := ⟨_, rfl⟩
 obtain ⟨r2, hr2⟩ : ∃ r : Bool, r = decide (y < Ed.P) := ⟨_, rfl⟩
 obtain ⟨r3, hr3⟩ : ∃ r : Nat, r = x * x % Ed.P := ⟨_, rfl⟩
 have br3 : r3 < Ed.P := (by rw [hr3]; exact Nat.mod_lt _ P_pos)
 obtain ⟨r4, hr4⟩ : ∃ r : Nat, r = y * y % Ed.P := ⟨_, rfl⟩
 have br4 : r4 < Ed.P := (by rw [hr4]; exact Nat.mod_lt _ P_pos)
 obtain ⟨r5, hr5⟩ : ∃ r : Nat, r = sb Ed.P r4 r3 := ⟨_, rfl⟩
 have br5 : r5 < Ed.P := (by rw [hr5]; exact sb_P _ _)
 obtain ⟨r6, hr6⟩ : ∃ r : Nat, r = r3 * r4 % Ed.P := ⟨_, rfl⟩
 have br6 : r6 < Ed.P := (by rw [hr6]; exact Nat.mod_lt _ P_pos)
 obtain ⟨r7, hr7⟩ : ∃ r : Nat, r = dd * r6 % Ed.P := ⟨_, rfl⟩
 have br7 : r7 < Ed.P := (by rw [hr7]; exact Nat.mod_lt _ P_pos)
 obtain ⟨r8, hr8⟩ : ∃ r : Nat, r = (1 + r7) % Ed.P := ⟨_, rfl⟩
 have hrun := calls_of_runG (P := Tryd.prog) (v := ⟨envI [(lm x 0 : Int), (lm x 1 : Int), (lm x 2 : Int), (lm x 3 : Int), (lm y 0 : Int), (lm y 1 : Int), (lm y 2 : Int), (lm y 3 : Int), 0, 0, (lm r3 0 : Int), (lm r3 1 : Int), (lm r3 2 : Int), (lm r3 3 : Int), (lm r4 0 : Int), (lm r4 1 : Int), (lm r4 2 : Int), (lm r4 3 : Int), (lm r5 0 : Int), (lm r5 1 : Int), (lm r5 2 : Int), (lm r5 3 : Int), (lm r6 0 : Int), (lm r6 1 : Int), (lm r6 2 : Int), (lm r6 3 : Int), (lm r7 0 : Int), (lm r7 1 : Int), (lm r7 2 : Int), (lm r7 3 : Int), (lm r8 0 : Int), (lm r8 1 : Int), (lm r8 2 : Int), (lm r8 3 : Int)], envB [false, false, false, false, false, false, false, false, r1, r2], envL [], envP [], LE Ts, w⟩) (gs := (edGs Ts [v_one, v_d])) (fuel := 3000) (nv := 8) (args := JH0) (ora := [some true, some true]) (sums := []) (res := [(.sc (.bool (.and (.cmp .eql (.var 18) (.var 30)) (.and (.cmp .eql (.var 19) (.var 31)) (.and (.cmp .eql (.var 20) (.var 32)) (.cmp .eql (.var 21) (.var 33)))))))]) (ev := [.call 33 [JH3, JH1] (.one JH11), .dec (.var 8) true, .call 33 [JH3, JH4] (.one JH14), .dec (.var 9) true, .call 63 [JH1, JH1] (.one JH6), .call 63 [JH4, JH4] (.one JH5), .call 65 [JH5, JH6] (.one (.agg [.v 18, .v 19, .v 20, .v 21])), .call 63 [JH6, JH5] (.one JH10), .call 63 [JH8, JH10] (.one JH9), .call 66 [(.agg [.n 1, .n 0, .n 0, .n 0]), JH9] (.one JH13)]) (lev := []) Tryd.func54 (by kernel_rfl) (by kernel_rfl)
  (evs_of ⟨?_, ?_, ?_, ?_, ?_, ?_, ?_, ?_, ?_, ?_, trivial⟩) (by simp) (varsOk Ts _ (List.forall_mem_cons.2 ⟨Ts.one, (List.forall_mem_cons.2 ⟨Ts.d, (List.forall_mem_nil _)⟩)⟩) (by decide)) hK hG
 ·(refine hrun.mono fun e w' h => ⟨h.1.trans (congrArg (fun z => Ending.returned (Value.bool z)) (show (((lm r5 0 : Int) == (lm r8 0 : Int)) && (((lm r5 1 : Int) == (lm r8 1 : Int)) && (((lm r5 2 : Int) == (lm r8 2 : Int)) && ((lm r5 3 : Int) == (lm r8 3 : Int))))) = z from ?_)), h.2⟩; rw [hz]; have e1 : r5 = sb Ed.P (y * y % Ed.P) (x * x % Ed.P) := (by simp only [*]); have e2 : r8 = (1 + Ed.dN * (x * x % Ed.P * (y * y % Ed.P) % Ed.P) % Ed.P) % Ed.P := (by simp only [*]); rw [← e1, ← e2]; exact lm_eq (Nat.lt_trans (by assumption) PN) (Nat.lt_trans (by first | assumption | (rw [e2]; exact Nat.mod_lt _ P_pos)) PN))
 ·exact ebelow_g Ts x (by first | assumption | exact ltP ‹_› | decide +kernel) hr1
 ·(show r1 = true; rw [hr1]; exact decide_eq_true h1)
 ·exact ebelow_g Ts y (by first | assumption | exact ltP ‹_› | decide +kernel) hr2
 ·(show r2 = true; rw [hr2]; exact decide_eq_true h2)
 ·exact emul_g Ts x x (by first | assumption | exact ltP ‹_› | decide +kernel) (by first | assumption | exact ltP ‹_› | decide +kernel) hr3
 ·exact emul_g Ts y y (by first | assumption | exact ltP ‹_› | decide +kernel) (by first | assumption | exact ltP ‹_› | decide +kernel) hr4
 ·exact esub_g Ts r4 r3 (by first | assumption | exact ltP ‹_› | decide +kernel) (by first | assumption | exact ltP ‹_› | decide +kernel) hr5
 ·exact emul_g Ts r3 r4 (by first | assumption | exact ltP ‹_› | decide +kernel) (by first | assumption | exact ltP ‹_› | decide +kernel) hr6
 ·(have hX := emul_g Ts dd r6 (by rw [hdd]; decide +kernel) (by first | assumption | exact ltP ‹_› | decide +kernel) hr7; rw [hdd] at hX; exact hX)
 ·exact eadd_g Ts 1 r7 (by decide) (by first | assumption | exact ltP ‹_› | decide +kernel) hr8
theorem eformed_g (Ts : TV) (x y : Nat) (b : Bool) (hx : x < N) (hy : y < N) {z : Bool} (hz : z = formedB x y b) : CallG Tryd.prog (LE Ts) 54 #[vP x y b] (.bool z) := by
 refine callG_of Tryd.func54 (by kernel_rfl) (by kernel_rfl) (fun w hK hG => ?_)
 cases b with
 | true =>
  rw [show z = false by rw [hz]; unfold formedB; rw [Bool.not_true, Bool.false_and]]
  exact eformed_none x y Ts hx hy _ rfl _ rfl w hK hG
 | false =>
  by_cases h1 : x < Ed.P
  ·by_cases h2 : y < Ed.P
   ·exact eformed_eq x y Ts hx hy _ rfl _ rfl h1 h2 z (by rw [hz]; unfold formedB; rw [decide_eq_true h1, decide_eq_true h2, Bool.not_false, Bool.true_and, Bool.true_and, Bool.true_and]) w hK hG
   ·rw [show z = false by rw [hz]; unfold formedB; rw [decide_eq_true h1, decide_eq_false h2, Bool.false_and, Bool.and_false, Bool.and_false]]
    exact eformed_y x y Ts hx hy _ rfl _ rfl h1 h2 w hK hG
  ·rw [show z = false by rw [hz]; unfold formedB; rw [decide_eq_false h1, Bool.false_and, Bool.and_false]]
   exact eformed_x x y Ts hx hy _ rfl _ rfl h1 w hK hG
theorem rformed_none (x y : Nat) (Ts : TV) (hx : x < N) (hy : y < N) (dd : Nat) (hdd : dd = Ed.dN) (one1 : Nat) (hone1 : one1 = 1) (w : World) (hK : (LE Ts).K ≤ w.heap.size) (hG : (LE Ts).G w) : Calls Tryd.prog 20 #[vP x y true] w fun e w' => e = .returned (.bool false) ∧ Below w.heap.size w w' := by
 have bdd : dd < N := by rw [hdd]; decide +kernel
 have bone : one1 < N := by rw [hone1]; decide
 have hrun := calls_of_runG (P := Tryd.prog) (v := ⟨envI [lm x 0, lm x 1, lm x 2, lm x 3, lm y 0, lm y 1, lm y 2, lm y 3], envB [], envL [], envP [], LE Ts, w⟩) (gs := []) (fuel := 3000) (nv := 8) (args := JH12) (ora := []) (sums := []) (res := JH7) (ev := []) (lev := []) Tryd.func20 (by kernel_rfl) (by kernel_rfl)
  (by simp) (by simp) (GsOk.nil _) hK hG
 ·exact hrun
theorem rformed_x (x y : Nat) (Ts : TV) (hx : x < N) (hy : y < N) (dd : Nat) (hdd : dd = Ed.dN) (one1 : Nat) (hone1 : one1 = 1) (h1 : ¬ x < Ed.P) (w : World) (hK : (LE Ts).K ≤ w.heap.size) (hG : (LE Ts).G w) : Calls Tryd.prog 20 #[vP x y false] w fun e w' => e = .returned (.bool false) ∧ Below w.heap.size w w' := by
 have bdd : dd < N := by rw [hdd]; decide +kernel
 have bone : one1 < N := by rw [hone1]; decide
 obtain ⟨r1, hr1⟩ : ∃ r : Bool, r = decide (x < Ed.P) := ⟨_, rfl⟩
 have hrun := calls_of_runG (P := Tryd.prog) (v := ⟨envI [lm x 0, lm x 1, lm x 2, lm x 3, lm y 0, lm y 1, lm y 2, lm y 3], envB [false, false, false, false, false, false, false, false, r1], envL [], envP [], LE Ts, w⟩) (gs := []) (fuel := 3000) (nv := 8) (args := JH0) (ora := [some false]) (sums := []) (res := JH7) (ev := [.call 19 [JH3, JH1] (.one JH11), .dec (.var 8) false]) (lev := []) Tryd.func20 (by kernel_rfl) (by kernel_rfl)
  (evs_of ⟨?_, ?_, trivial⟩) (by simp) (GsOk.nil _) hK hG
 ·exact hrun
 ·exact rrbelow_g Ts x (by first | assumption | exact ltP ‹_› | decide +kernel) hr1
 ·(show r1 = false; rw [hr1]; exact decide_eq_false h1)
theorem rformed_y (x y : Nat) (Ts : TV) (hx : x < N) (hy : y < N) (dd : Nat) (hdd : dd = Ed.dN) (one1 : Nat) (hone1 : one1 = 1) (h1 : x < Ed.P) (h2 : ¬ y < Ed.P) (w : World) (hK : (LE Ts).K ≤ w.heap.size) (hG : (LE Ts).G w) : Calls Tryd.prog 20 #[vP x y false] w fun e w' => e = .returned (.bool false) ∧ Below w.heap.size w w' := by
 have bdd : dd < N := by rw [hdd]; decide +kernel
 have bone : one1 < N := by rw [hone1]; decide
 obtain ⟨r1, hr1⟩ : ∃ r : Bool, r = decide (x < Ed.P) := ⟨_, rfl⟩
 obtain ⟨r2, hr2⟩ : ∃ r : Bool, r = decide (y < Ed.P) := ⟨_, rfl⟩
 have hrun := calls_of_runG (P := Tryd.prog) (v := ⟨envI [lm x 0, lm x 1, lm x 2, lm x 3, lm y 0, lm y 1, lm y 2, lm y 3], envB [false, false, false, false, false, false, false, false, r1, r2], envL [], envP [], LE Ts, w⟩) (gs := []) (fuel := 3000) (nv := 8) (args := JH0) (ora := [some true, some false]) (sums := []) (res := JH7) (ev := [.call 19 [JH3, JH1] (.one JH11), .dec (.var 8) true, .call 19 [JH3, JH4] (.one JH14), .dec (.var 9) false]) (lev := []) Tryd.func20 (by kernel_rfl) (by kernel_rfl)
  (evs_of ⟨?_, ?_, ?_, ?_, trivial⟩) (by simp) (GsOk.nil _) hK hG
 ·exact hrun
 ·exact rrbelow_g Ts x (by first | assumption | exact ltP ‹_› | decide +kernel) hr1
 ·(show r1 = true; rw [hr1]; exact decide_eq_true h1)
 ·exact rrbelow_g Ts y (by first | assumption | exact ltP ‹_› | decide +kernel) hr2
 ·(show r2 = false; rw [hr2]; exact decide_eq_false h2)
theorem rformed_eq (x y : Nat) (Ts : TV) (hx : x < N) (hy : y < N) (dd : Nat) (hdd : dd = Ed.dN) (one1 : Nat) (hone1 : one1 = 1) (h1 : x < Ed.P) (h2 : y < Ed.P) (z : Bool) (hz : z = decide (sb Ed.P (y * y % Ed.P) (x * x % Ed.P) = (1 + Ed.dN * (x * x % Ed.P * (y * y % Ed.P) % Ed.P) % Ed.P) % Ed.P)) (w : World) (hK : (LE Ts).K ≤ w.heap.size) (hG : (LE Ts).G w) : Calls Tryd.prog 20 #[vP x y false] w fun e w' => e = .returned (.bool z) ∧ Below w.heap.size w w' := by
 have bdd : dd < N := by rw [hdd]; decide +kernel
 have bone : one1 < N := by rw [hone1]; decide
 obtain ⟨r1, hr1⟩ : ∃ r : Bool, r = decide (x < Ed.P) := ⟨_, rfl⟩
 obtain ⟨r2, hr2⟩ : ∃ r : Bool, r = decide (y < Ed.P) := ⟨_, rfl⟩
 obtain ⟨r3, hr3⟩ : ∃ r : Nat, r = x * x % Ed.P := ⟨_, rfl⟩
 have br3 : r3 < Ed.P := (by rw [hr3]; exact Nat.mod_lt _ P_pos)
 obtain ⟨r4, hr4⟩ : ∃ r : Nat, r = y * y % Ed.P := ⟨_, rfl⟩
 have br4 : r4 < Ed.P := (by rw [hr4]; exact Nat.mod_lt _ P_pos)
 obtain ⟨r5, hr5⟩ : ∃ r : Nat, r = sb Ed.P r4 r3 := ⟨_, rfl⟩
 have br5 : r5 < Ed.P := (by rw [hr5]; exact sb_P _ _)
 obtain ⟨r6, hr6⟩ : ∃ r : Nat, r = r3 * r4 % Ed.P := ⟨_, rfl⟩
 have br6 : r6 < Ed.P := (by rw [hr6]; exact Nat.mod_lt _ P_pos)
 obtain ⟨r7, hr7⟩ : ∃ r : Nat, r = dd * r6 % Ed.P := ⟨_, rfl⟩
 have br7 : r7 < Ed.P := (by rw [hr7]; exact Nat.mod_lt _ P_pos)
 obtain ⟨r8, hr8⟩ : ∃ r : Nat, r = (one1 + r7) % Ed.P := ⟨_, rfl⟩
 have br8 : r8 < Ed.P := (by rw [hr8]; exact Nat.mod_lt _ P_pos)
 have hrun := calls_of_runG (P := Tryd.prog) (v := ⟨envI [(lm x 0 : Int), (lm x 1 : Int), (lm x 2 : Int), (lm x 3 : Int), (lm y 0 : Int), (lm y 1 : Int), (lm y 2 : Int), (lm y 3 : Int), 0, 0, (lm r3 0 : Int), (lm r3 1 : Int), (lm r3 2 : Int), (lm r3 3 : Int), (lm r4 0 : Int), (lm r4 1 : Int), (lm r4 2 : Int), (lm r4 3 : Int), (lm r5 0 : Int), (lm r5 1 : Int), (lm r5 2 : Int), (lm r5 3 : Int), (lm one1 0 : Int), (lm one1 1 : Int), (lm one1 2 : Int), (lm one1 3 : Int), (lm dd 0 : Int), (lm dd 1 : Int), (lm dd 2 : Int), (lm dd 3 : Int), (lm r6 0 : Int), (lm r6 1 : Int), (lm r6 2 : Int), (lm r6 3 : Int), (lm r7 0 : Int), (lm r7 1 : Int), (lm r7 2 : Int), (lm r7 3 : Int), (lm r8 0 : Int), (lm r8 1 : Int), (lm r8 2 : Int), (lm r8 3 : Int)], envB [false, false, false, false, false, false, false, false, r1, r2], envL [], envP [], LE Ts, w⟩) (gs := []) (fuel := 3000) (nv := 8) (args := JH0) (ora := [some true, some true]) (sums := []) (res := [(.sc (.bool (.and (.cmp .eql (.var 18) (.var 38)) (.and (.cmp .eql (.var 19) (.var 39)) (.and (.cmp .eql (.var 20) (.var 40)) (.cmp .eql (.var 21) (.var 41)))))))]) (ev := [.call 19 [JH3, JH1] (.one JH11), .dec (.var 8) true, .call 19 [JH3, JH4] (.one JH14), .dec (.var 9) true, .call 43 [JH1, JH1] (.one JH6), .call 43 [JH4, JH4] (.one JH5), .call 44 [JH5, JH6] (.one (.agg [.v 18, .v 19, .v 20, .v 21])), .call 45 [] (.one JH10), .call 48 [] (.one JH9), .call 43 [JH6, JH5] (.one JH13), .call 43 [JH9, JH13] (.one (.agg [.v 34, .v 35, .v 36, .v 37])), .call 47 [JH10, (.agg [.v 34, .v 35, .v 36, .v 37])] (.one (.agg [.v 38, .v 39, .v 40, .v 41]))]) (lev := []) Tryd.func20 (by kernel_rfl) (by kernel_rfl)
  (evs_of ⟨?_, ?_, ?_, ?_, ?_, ?_, ?_, ?_, ?_, ?_, ?_, ?_, trivial⟩) (by simp) (GsOk.nil _) hK hG
 ·(refine hrun.mono fun e w' h => ⟨h.1.trans (congrArg (fun z => Ending.returned (Value.bool z)) (show (((lm r5 0 : Int) == (lm r8 0 : Int)) && (((lm r5 1 : Int) == (lm r8 1 : Int)) && (((lm r5 2 : Int) == (lm r8 2 : Int)) && ((lm r5 3 : Int) == (lm r8 3 : Int))))) = z from ?_)), h.2⟩; rw [hz]; have e1 : r5 = sb Ed.P (y * y % Ed.P) (x * x % Ed.P) := (by simp only [*]); have e2 : r8 = (1 + Ed.dN * (x * x % Ed.P * (y * y % Ed.P) % Ed.P) % Ed.P) % Ed.P := (by simp only [*]); rw [← e1, ← e2]; exact lm_eq (Nat.lt_trans (by assumption) PN) (Nat.lt_trans (by first | assumption | (rw [e2]; exact Nat.mod_lt _ P_pos)) PN))
 ·exact rrbelow_g Ts x (by first | assumption | exact ltP ‹_› | decide +kernel) hr1
 ·(show r1 = true; rw [hr1]; exact decide_eq_true h1)
 ·exact rrbelow_g Ts y (by first | assumption | exact ltP ‹_› | decide +kernel) hr2
 ·(show r2 = true; rw [hr2]; exact decide_eq_true h2)
 ·exact rmul_g Ts x x (by first | assumption | exact ltP ‹_› | decide +kernel) (by first | assumption | exact ltP ‹_› | decide +kernel) hr3
 ·exact rmul_g Ts y y (by first | assumption | exact ltP ‹_› | decide +kernel) (by first | assumption | exact ltP ‹_› | decide +kernel) hr4
 ·exact rsub_g Ts r4 r3 (by first | assumption | exact ltP ‹_› | decide +kernel) (by first | assumption | exact ltP ‹_› | decide +kernel) hr5
 ·exact CallP.g (rone_c hone1)
 ·exact CallP.g (rd_c hdd)
 ·exact rmul_g Ts r3 r4 (by first | assumption | exact ltP ‹_› | decide +kernel) (by first | assumption | exact ltP ‹_› | decide +kernel) hr6
 ·exact rmul_g Ts dd r6 (by first | assumption | exact ltP ‹_› | decide +kernel) (by first | assumption | exact ltP ‹_› | decide +kernel) hr7
 ·exact radd_g Ts one1 r7 (by first | assumption | exact ltP ‹_› | decide +kernel) (by first | assumption | exact ltP ‹_› | decide +kernel) hr8
theorem rformed_g (Ts : TV) (x y : Nat) (b : Bool) (hx : x < N) (hy : y < N) {z : Bool} (hz : z = formedB x y b) : CallG Tryd.prog (LE Ts) 20 #[vP x y b] (.bool z) := by
 refine callG_of Tryd.func20 (by kernel_rfl) (by kernel_rfl) (fun w hK hG => ?_)
 cases b with
 | true =>
  rw [show z = false by rw [hz]; unfold formedB; rw [Bool.not_true, Bool.false_and]]
  exact rformed_none x y Ts hx hy _ rfl _ rfl w hK hG
 | false =>
  by_cases h1 : x < Ed.P
  ·by_cases h2 : y < Ed.P
   ·exact rformed_eq x y Ts hx hy _ rfl _ rfl h1 h2 z (by rw [hz]; unfold formedB; rw [decide_eq_true h1, decide_eq_true h2, Bool.not_false, Bool.true_and, Bool.true_and, Bool.true_and]) w hK hG
   ·rw [show z = false by rw [hz]; unfold formedB; rw [decide_eq_true h1, decide_eq_false h2, Bool.false_and, Bool.and_false, Bool.and_false]]
    exact rformed_y x y Ts hx hy _ rfl _ rfl h1 h2 w hK hG
  ·rw [show z = false by rw [hz]; unfold formedB; rw [decide_eq_false h1, Bool.false_and, Bool.and_false]]
   exact rformed_x x y Ts hx hy _ rfl _ rfl h1 w hK hG
end Go.Proofs.YtkckmpnkacdchaaDoor
