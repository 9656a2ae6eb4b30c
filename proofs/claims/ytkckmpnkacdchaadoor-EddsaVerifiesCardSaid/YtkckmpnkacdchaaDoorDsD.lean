/- Verify of both, run. -/
import Derived.Test.YtkckmpnkacdchaaDoorDsC
set_option linter.unusedVariables false
set_option linter.unusedSimpArgs false
set_option maxHeartbeats 4000000
namespace Go.Proofs.YtkckmpnkacdchaaDoor
open Go.RowKit Go.Num Go.Sx
abbrev JN0 : A := .agg [.v 13, .v 14, .v 15, .v 16, .v 17, .v 18, .v 19, .v 20, .bool (.var 21)]
abbrev JN1 : A := .agg [.v 3, .v 4, .v 5, .v 6, .v 7, .v 8, .v 9, .v 10, .bool (.var 11)]
abbrev JN2 : Bx := .cmp .leq (.lit 32) (.len (.lvar 2))
abbrev JN3 : A := .agg [.v 23, .v 24, .v 25, .v 26]
abbrev JN4 : Bx := .cmp .neq (.len (.lvar 2)) (.lit 64)
abbrev JN5 : I := .part (.lvar 2) (.lit 0) (.lit 32)
abbrev JN6 : I := .part (.lvar 2) (.lit 32) (.dif (.len (.lvar 2)) (.lit 32))
abbrev JN7 : A := .sc (.bool (.lit false))
abbrev JN8 : A := .sc (.bool (.var 27))
abbrev JN9 : A := .sc (.bool (.var 22))
abbrev JN10 : A := .sc (.bool (.var 12))
abbrev JN11 : Bx := .cmp .leq (.lit 64) (.len (.lvar 2))
abbrev JN12 : I := .part (.lvar 2) (.lit 32) (.lit 32)
abbrev JN13 : A := .agg [.v 29, .v 30, .v 31, .v 32]
abbrev JN14 : List A := [(.sc (.int .i64 (.lit 3))), JN3]
abbrev JN15 : A := .agg [.v 51, .v 52, .v 53, .v 54, .v 55, .v 56, .v 57, .v 58, .bool (.var 59)]
abbrev JN16 : A := .agg [.v 37, .v 38, .v 39, .v 40, .v 41, .v 42, .v 43, .v 44, .bool (.var 45)]
abbrev JN17 : A := .agg [.v 33, .v 34, .v 35, .v 36, .v 37, .v 38, .v 39, .v 40, .bool (.var 41)]
abbrev JN18 : List (Option Bool) := [some false, none, some true, none, some true, none, some false]
abbrev JN19 : List (Option Bool) := [some false, none, some true, none, some true, none, some true]
abbrev JN20 : A := .sc (.bool (.var 28))
abbrev JN21 : List (Option Bool) := [some false, none, some true, none, some false]
theorem Mz3 : Mz 3 = Mo 3 := by decide +kernel
theorem Mo2_P : Mo 2 = Ed.P := by decide +kernel
theorem mirror_pt (p : Ed.Pt) : sb Ed.P 0 p.x.val = (-p).x.val := by
 refine val_of (sb_P _ _) ?_
 rw [phi_sb, Ed.phi_zero, Ed.phi_of_val]
 show (0 : Ed.F) - p.x = -p.x
 grind
theorem mirror_of {x y : Nat} (h : formedB x y false = true) : ptOf (sb Ed.P 0 x) y false = -(ptOf x y false) := by
 obtain ⟨h1, h2, _⟩ := ptOf_val h
 have e := mirror_pt (ptOf x y false)
 rw [h1] at e
 have e2 : (-(ptOf x y false)).y.val = y := h2
 have e3 := ptOf_pt (-(ptOf x y false))
 rw [← e, e2] at e3
 exact e3
theorem eqn_iff {A R S : Ed.Pt} : S + -A = R ↔ S = R + A := by
 constructor
 ·intro h
  rw [← h, Ed.Pt.add_assoc, Ed.Pt.add_comm (-A), Ed.Pt.add_neg, Ed.Pt.add_zero]
 ·intro h
  rw [h, Ed.Pt.add_assoc, Ed.Pt.add_neg, Ed.Pt.add_zero]
theorem pt_val {p q : Ed.Pt} : (p.x.val = q.x.val ∧ p.y.val = q.y.val) ↔ p = q := by
 constructor
 ·rintro ⟨h1, h2⟩
  rw [← ptOf_pt p, ← ptOf_pt q, h1, h2]
 ·intro h
  rw [h]
  exact ⟨rfl, rfl⟩
noncomputable def ptB (p q : Ed.Pt) : Bool := @decide (p = q) (Classical.propDecidable _)
theorem ptB_iff {p q : Ed.Pt} : ptB p q = true ↔ p = q := by
 unfold ptB
 exact @decide_eq_true_iff _ (Classical.propDecidable _)
noncomputable def vK (p m g : List Int) : Nat := scal (g.take 32 ++ p ++ m)
noncomputable def vEq (p m g : List Int) : Bool := ptB (Ed.smul (leN (g.drop 32)) Ed.base) (ptOf (decL (g.take 32)).1 (decL (g.take 32)).2.1 false + Ed.smul (vK p m g) (ptOf (decL p).1 (decL p).2.1 false))
noncomputable def vL (p m g : List Int) : Bool := decide (g.length = 64) && (decL p).2.2 && (decL (g.take 32)).2.2 && decide (leN (g.drop 32) < Mo 3) && vEq p m g
theorem verdict_e {S A : Ed.Pt} {n k rx ry : Nat} (fr : formedB rx ry false = true) : (decide ((Ed.smul n S + Ed.smul k (-A)).x.val = rx) && (decide ((Ed.smul n S + Ed.smul k (-A)).y.val = ry) && (false == false))) = ptB (Ed.smul n S) (ptOf rx ry false + Ed.smul k A) := by
 obtain ⟨h1, h2, _⟩ := ptOf_val fr
 rw [Ed.smul_neg, Bool.eq_iff_iff, ptB_iff]
 simp only [Bool.and_eq_true, decide_eq_true_eq, beq_self_eq_true, and_true]
 rw [← eqn_iff, ← pt_val, h1, h2]
theorem verdict_r {P Q : Ed.Pt} : (decide (P.x.val = Q.x.val) && (decide (P.y.val = Q.y.val) && (false == false))) = ptB P Q := by
 rw [Bool.eq_iff_iff, ptB_iff]
 simp only [Bool.and_eq_true, decide_eq_true_eq, beq_self_eq_true, and_true]
 exact pt_val
theorem edecq_g (Z : TX) {l l' : List Int} (e : l' = l) (hb : IsBytes l') {X Y : Nat} {k : Bool} (hd : decL l' = (X, Y, k)) : CallS Tryd.prog (LX Z) 31 [.bytes l] [.val (vP X Y false), .val (.bool k)] := by
 subst e
 exact edecode_g Z.r l' hb hd
theorem rdecq_g (Z : TZ) {l l' : List Int} (e : l' = l) (hb : IsBytes l') {X Y : Nat} {k : Bool} (hd : decL l' = (X, Y, k)) : CallS Tryd.prog (LZ Z) 18 [.bytes l] [.val (vP X Y false), .val (.bool k)] := by
 subst e
 exact rdecode_g Z.v l' hb hd
theorem littleq_s {l l' : List Int} (e : l' = l) (hb : IsBytes l') (hl : l'.length = 32) {r : Nat} {k : Bool} (hr : r = leN l') (hk : k = true) : CallS Tryd.prog L0 32 [.bytes l] [.val (vN r), .val (.bool k)] := by
 subst e
 exact little_s l' hb (by rw [if_pos hl]; exact hr) (by rw [hk, decide_eq_true hl])
theorem rlittleq_s {l l' : List Int} (e : l' = l) (hb : IsBytes l') (hl : l'.length = 32) {r : Nat} {k : Bool} (hr : r = leN l') (hk : k = true) : CallS Tryd.prog L0 13 [.bytes l] [.val (vN r), .val (.bool k)] := by
 subst e
 exact rlittle_s l' hb (by rw [if_pos hl]; exact hr) (by rw [hk, decide_eq_true hl])
theorem below3_g (Z : TZ) (a : Nat) (ha : a < N) {z : Bool} (hz : z = decide (a < Mo 3)) : CallG Tryd.prog (LZ Z) 33 #[.int .i64 (3 : Int), vN a] (.bool z) := lf (Ts := Z.v) (below_g _ 3 a ha (hz.trans (by rw [Mz3])))
theorem rbelow3_g (Z : TZ) (a : Nat) (ha : a < N) {z : Bool} (hz : z = decide (a < Mo 3)) : CallG Tryd.prog (LZ Z) 19 #[.int .i64 (3 : Int), vN a] (.bool z) := lf (Ts := Z.v) (rbelow_g _ 3 a ha (hz.trans (by rw [Mz3])))
theorem sub2_g (Z : TZ) (b : Nat) (hb : b < N) {r : Nat} (hr : r = sb Ed.P 0 b) : CallG Tryd.prog (LZ Z) 34 #[.int .i64 (2 : Int), .agg #[.int .u64 (0 : Int), .int .u64 (0 : Int), .int .u64 (0 : Int), .int .u64 (0 : Int)], vN b] (vN r) := by
 have h := lf (Ts := Z.v) (ysub_g _ (n := 2) (m := Ed.P) (by decide) (by decide) Mo2_P.symm 0 b (by decide) hb hr)
 rw [lm_zz, lm_zz, lm_zz, lm_zz] at h
 exact h
theorem rscalarq_g (Z : TZ) {a a' b d : List Int} (e : a' = a) (ha : IsBytes a') (hb : IsBytes b) (hd : IsBytes d) (hl : a'.length + b.length + d.length ≤ 549755813888) {r : Nat} (hr : r = scal (a' ++ b ++ d)) : CallS Tryd.prog (LZ Z) 41 [.bytes a, .bytes b, .bytes d] [.val (vN r)] := by
 subst e
 exact rscalar_g Z a' b d ha hb hd hl hr
theorem v1_run (p : List Int) (m : List Int) (g : List Int) (Z : TX) (hp : IsBytes p) (hm : IsBytes m) (hg : IsBytes g) (lp : p.length ≤ 300) (lm' : m.length ≤ 300) (h64 : ¬ g.length = 64) : CallS Tryd.prog (LX Z) 11 [.bytes p, .bytes m, .bytes g] [.val (.bool false)] := by
 refine callS_of Tryd.func11 (by kernel_rfl) (by kernel_rfl) (fun w us hK hG ha => ?_)
 obtain ⟨u0, _, rfl, hu0, u1, _, rfl, hu1, u2, _, rfl, hu2, rfl⟩ := ha
 have hrun := calls_of_runS (P := Tryd.prog) (v := ⟨envI [], envB [], envL [p, m, g], envP [], LX Z, w⟩) (gs := []) (fuel := 3000) (nv := 3) (args := [(.imm (.lvar 0) none), (.imm (.lvar 1) none), (.imm (.lvar 2) none)]) (ora := [some true]) (sums := []) (r := ⟨[(.val JN7)], [.dec JN4 true], []⟩) Tryd.func11 (by kernel_rfl)
  (evs_of ⟨?_, trivial⟩) (by simp) (GsOk.nil _) hK hG _ (⟨u0, _, rfl, ⟨hu0, fun b hb => by cases hb⟩, u1, _, rfl, ⟨hu1, fun b hb => by cases hb⟩, u2, _, rfl, ⟨hu2, fun b hb => by cases hb⟩, rfl⟩)
 ·exact runS_eq hrun (by rfl)
 ·exact dec_ne_t (a := g.length) (b := 64) rfl rfl (by omega)
theorem v2_run (p : List Int) (m : List Int) (g : List Int) (Z : TX) (hp : IsBytes p) (hm : IsBytes m) (hg : IsBytes g) (lp : p.length ≤ 300) (lm' : m.length ≤ 300) (h64 : g.length = 64) (R0 S0 : List Int) (hR0 : R0 = g.take 32) (hS0 : S0 = g.drop 32) (bR : IsBytes R0) (bS : IsBytes S0) (lR : R0.length = 32) (lS : S0.length = 32) (ax ay rx ry : Nat) (k1 k2 : Bool) (hd1 : decL p = (ax, ay, k1)) (hd2 : decL R0 = (rx, ry, k2)) (bax : ax < N) (bay : ay < N) (brx : rx < N) (bry : ry < N) (sv : Nat) (hsv : sv = leN S0) (bsv : sv < N) (e1 : k1 = false) : CallS Tryd.prog (LX Z) 11 [.bytes p, .bytes m, .bytes g] [.val (.bool false)] := by
 refine callS_of Tryd.func11 (by kernel_rfl) (by kernel_rfl) (fun w us hK hG ha => ?_)
 obtain ⟨u0, _, rfl, hu0, u1, _, rfl, hu1, u2, _, rfl, hu2, rfl⟩ := ha
 have hrun := calls_of_runS (P := Tryd.prog) (v := ⟨envI [0, 0, 0, lm ax 0, lm ax 1, lm ax 2, lm ax 3, lm ay 0, lm ay 1, lm ay 2, lm ay 3, 0, 0, lm rx 0, lm rx 1, lm rx 2, lm rx 3, lm ry 0, lm ry 1, lm ry 2, lm ry 3, 0, 0, lm sv 0, lm sv 1, lm sv 2, lm sv 3], envB [false, false, false, false, false, false, false, false, false, false, false, false, k1, false, false, false, false, false, false, false, false, false, k2, false, false, false, false, true], envL [p, m, g], envP [], LX Z, w⟩) (gs := []) (fuel := 3000) (nv := 3) (args := [(.imm (.lvar 0) none), (.imm (.lvar 1) none), (.imm (.lvar 2) none)]) (ora := [some false, none, some false]) (sums := []) (r := ⟨[(.val JN7)], [.dec JN4 false, .callS 31 [(.bytes (.lvar 0))] [(.val JN1), (.val JN10)], .dec (.var 12) false, .dec JN2 true, .callS 31 [(.bytes JN5)] [(.val JN0), (.val JN9)], .dec JN2 true, .callS 32 [(.bytes JN6)] [(.val JN3), (.val JN8)]], []⟩) Tryd.func11 (by kernel_rfl)
  (evs_of ⟨?_, ?_, ?_, ?_, ?_, ?_, ?_, trivial⟩) (by simp) (GsOk.nil _) hK hG _ (⟨u0, _, rfl, ⟨hu0, fun b hb => by cases hb⟩, u1, _, rfl, ⟨hu1, fun b hb => by cases hb⟩, u2, _, rfl, ⟨hu2, fun b hb => by cases hb⟩, rfl⟩)
 ·exact runS_eq hrun (by rfl)
 ·exact dec_ne_f (a := g.length) (b := 64) rfl rfl (by omega)
 ·exact edecq_g Z rfl hp hd1
 ·(show k1 = false; exact e1)
 ·exact dec_le_t (a := 32) (b := g.length) rfl rfl (by omega)
 ·exact edecq_g Z (show R0 = ((g.drop ((0 : Int)).toNat).take ((32 : Int)).toNat) from by rw [hR0]; simp) bR hd2
 ·exact dec_le_t (a := 32) (b := g.length) rfl rfl (by omega)
 ·exact CallS.g (littleq_s (show S0 = ((g.drop ((32 : Int)).toNat).take ((((g.length : Nat) : Int) - (32 : Int))).toNat) from by rw [hS0]; symm; apply List.take_of_length_le; simp [h64]) bS lS hsv rfl)
theorem v3_run (p : List Int) (m : List Int) (g : List Int) (Z : TX) (hp : IsBytes p) (hm : IsBytes m) (hg : IsBytes g) (lp : p.length ≤ 300) (lm' : m.length ≤ 300) (h64 : g.length = 64) (R0 S0 : List Int) (hR0 : R0 = g.take 32) (hS0 : S0 = g.drop 32) (bR : IsBytes R0) (bS : IsBytes S0) (lR : R0.length = 32) (lS : S0.length = 32) (ax ay rx ry : Nat) (k1 k2 : Bool) (hd1 : decL p = (ax, ay, k1)) (hd2 : decL R0 = (rx, ry, k2)) (bax : ax < N) (bay : ay < N) (brx : rx < N) (bry : ry < N) (sv : Nat) (hsv : sv = leN S0) (bsv : sv < N) (e1 : k1 = true) (e2 : k2 = false) : CallS Tryd.prog (LX Z) 11 [.bytes p, .bytes m, .bytes g] [.val (.bool false)] := by
 refine callS_of Tryd.func11 (by kernel_rfl) (by kernel_rfl) (fun w us hK hG ha => ?_)
 obtain ⟨u0, _, rfl, hu0, u1, _, rfl, hu1, u2, _, rfl, hu2, rfl⟩ := ha
 have hrun := calls_of_runS (P := Tryd.prog) (v := ⟨envI [0, 0, 0, lm ax 0, lm ax 1, lm ax 2, lm ax 3, lm ay 0, lm ay 1, lm ay 2, lm ay 3, 0, 0, lm rx 0, lm rx 1, lm rx 2, lm rx 3, lm ry 0, lm ry 1, lm ry 2, lm ry 3, 0, 0, lm sv 0, lm sv 1, lm sv 2, lm sv 3], envB [false, false, false, false, false, false, false, false, false, false, false, false, k1, false, false, false, false, false, false, false, false, false, k2, false, false, false, false, true], envL [p, m, g], envP [], LX Z, w⟩) (gs := []) (fuel := 3000) (nv := 3) (args := [(.imm (.lvar 0) none), (.imm (.lvar 1) none), (.imm (.lvar 2) none)]) (ora := JN21) (sums := []) (r := ⟨[(.val JN7)], [.dec JN4 false, .callS 31 [(.bytes (.lvar 0))] [(.val JN1), (.val JN10)], .dec (.var 12) true, .dec JN2 true, .callS 31 [(.bytes JN5)] [(.val JN0), (.val JN9)], .dec (.var 22) false, .dec JN2 true, .callS 32 [(.bytes JN6)] [(.val JN3), (.val JN8)]], []⟩) Tryd.func11 (by kernel_rfl)
  (evs_of ⟨?_, ?_, ?_, ?_, ?_, ?_, ?_, ?_, trivial⟩) (by simp) (GsOk.nil _) hK hG _ (⟨u0, _, rfl, ⟨hu0, fun b hb => by cases hb⟩, u1, _, rfl, ⟨hu1, fun b hb => by cases hb⟩, u2, _, rfl, ⟨hu2, fun b hb => by cases hb⟩, rfl⟩)
 ·exact runS_eq hrun (by rfl)
 ·exact dec_ne_f (a := g.length) (b := 64) rfl rfl (by omega)
 ·exact edecq_g Z rfl hp hd1
 ·(show k1 = true; exact e1)
 ·exact dec_le_t (a := 32) (b := g.length) rfl rfl (by omega)
 ·exact edecq_g Z (show R0 = ((g.drop ((0 : Int)).toNat).take ((32 : Int)).toNat) from by rw [hR0]; simp) bR hd2
 ·(show k2 = false; exact e2)
 ·exact dec_le_t (a := 32) (b := g.length) rfl rfl (by omega)
 ·exact CallS.g (littleq_s (show S0 = ((g.drop ((32 : Int)).toNat).take ((((g.length : Nat) : Int) - (32 : Int))).toNat) from by rw [hS0]; symm; apply List.take_of_length_le; simp [h64]) bS lS hsv rfl)
theorem v4_run (p : List Int) (m : List Int) (g : List Int) (Z : TX) (hp : IsBytes p) (hm : IsBytes m) (hg : IsBytes g) (lp : p.length ≤ 300) (lm' : m.length ≤ 300) (h64 : g.length = 64) (R0 S0 : List Int) (hR0 : R0 = g.take 32) (hS0 : S0 = g.drop 32) (bR : IsBytes R0) (bS : IsBytes S0) (lR : R0.length = 32) (lS : S0.length = 32) (ax ay rx ry : Nat) (k1 k2 : Bool) (hd1 : decL p = (ax, ay, k1)) (hd2 : decL R0 = (rx, ry, k2)) (bax : ax < N) (bay : ay < N) (brx : rx < N) (bry : ry < N) (sv : Nat) (hsv : sv = leN S0) (bsv : sv < N) (e1 : k1 = true) (e2 : k2 = true) (z : Bool) (hz : z = decide (sv < Mo 3)) (ez : z = false) : CallS Tryd.prog (LX Z) 11 [.bytes p, .bytes m, .bytes g] [.val (.bool false)] := by
 refine callS_of Tryd.func11 (by kernel_rfl) (by kernel_rfl) (fun w us hK hG ha => ?_)
 obtain ⟨u0, _, rfl, hu0, u1, _, rfl, hu1, u2, _, rfl, hu2, rfl⟩ := ha
 have hrun := calls_of_runS (P := Tryd.prog) (v := ⟨envI [0, 0, 0, lm ax 0, lm ax 1, lm ax 2, lm ax 3, lm ay 0, lm ay 1, lm ay 2, lm ay 3, 0, 0, lm rx 0, lm rx 1, lm rx 2, lm rx 3, lm ry 0, lm ry 1, lm ry 2, lm ry 3, 0, 0, lm sv 0, lm sv 1, lm sv 2, lm sv 3], envB [false, false, false, false, false, false, false, false, false, false, false, false, k1, false, false, false, false, false, false, false, false, false, k2, false, false, false, false, true, z], envL [p, m, g], envP [], LX Z, w⟩) (gs := []) (fuel := 3000) (nv := 3) (args := [(.imm (.lvar 0) none), (.imm (.lvar 1) none), (.imm (.lvar 2) none)]) (ora := JN18) (sums := []) (r := ⟨[(.val JN7)], [.dec JN4 false, .callS 31 [(.bytes (.lvar 0))] [(.val JN1), (.val JN10)], .dec (.var 12) true, .dec JN2 true, .callS 31 [(.bytes JN5)] [(.val JN0), (.val JN9)], .dec (.var 22) true, .dec JN2 true, .callS 32 [(.bytes JN6)] [(.val JN3), (.val JN8)], .call 33 JN14 (.one JN20), .dec (.var 28) false], []⟩) Tryd.func11 (by kernel_rfl)
  (evs_of ⟨?_, ?_, ?_, ?_, ?_, ?_, ?_, ?_, ?_, ?_, trivial⟩) (by simp) (GsOk.nil _) hK hG _ (⟨u0, _, rfl, ⟨hu0, fun b hb => by cases hb⟩, u1, _, rfl, ⟨hu1, fun b hb => by cases hb⟩, u2, _, rfl, ⟨hu2, fun b hb => by cases hb⟩, rfl⟩)
 ·exact runS_eq hrun (by rfl)
 ·exact dec_ne_f (a := g.length) (b := 64) rfl rfl (by omega)
 ·exact edecq_g Z rfl hp hd1
 ·(show k1 = true; exact e1)
 ·exact dec_le_t (a := 32) (b := g.length) rfl rfl (by omega)
 ·exact edecq_g Z (show R0 = ((g.drop ((0 : Int)).toNat).take ((32 : Int)).toNat) from by rw [hR0]; simp) bR hd2
 ·(show k2 = true; exact e2)
 ·exact dec_le_t (a := 32) (b := g.length) rfl rfl (by omega)
 ·exact CallS.g (littleq_s (show S0 = ((g.drop ((32 : Int)).toNat).take ((((g.length : Nat) : Int) - (32 : Int))).toNat) from by rw [hS0]; symm; apply List.take_of_length_le; simp [h64]) bS lS hsv rfl)
 ·exact below3_g Z.toTZ sv bsv hz
 ·(show z = false; exact ez)
theorem v5_run (p : List Int) (m : List Int) (g : List Int) (Z : TX) (hp : IsBytes p) (hm : IsBytes m) (hg : IsBytes g) (lp : p.length ≤ 300) (lm' : m.length ≤ 300) (h64 : g.length = 64) (R0 S0 : List Int) (hR0 : R0 = g.take 32) (hS0 : S0 = g.drop 32) (bR : IsBytes R0) (bS : IsBytes S0) (lR : R0.length = 32) (lS : S0.length = 32) (ax ay rx ry : Nat) (k1 k2 : Bool) (hd1 : decL p = (ax, ay, k1)) (hd2 : decL R0 = (rx, ry, k2)) (bax : ax < N) (bay : ay < N) (brx : rx < N) (bry : ry < N) (sv : Nat) (hsv : sv = leN S0) (bsv : sv < N) (e1 : k1 = true) (e2 : k2 = true) (z : Bool) (hz : z = decide (sv < Mo 3)) (ez : z = true) (k : Nat) (hk : k = scal (R0 ++ p ++ m)) (bk : k < N) (fa : formedB ax ay false = true) (fr : formedB rx ry false = true) (nx : Nat) (hnx : nx = sb Ed.P 0 ax) (bnx : nx < N) {v : Bool} (hv : v = ptB (Ed.smul sv Ed.base) (ptOf rx ry false + Ed.smul k (ptOf ax ay false))) : CallS Tryd.prog (LX Z) 11 [.bytes p, .bytes m, .bytes g] [.val (.bool v)] := by
 refine callS_of Tryd.func11 (by kernel_rfl) (by kernel_rfl) (fun w us hK hG ha => ?_)
 obtain ⟨u0, _, rfl, hu0, u1, _, rfl, hu1, u2, _, rfl, hu2, rfl⟩ := ha
 obtain ⟨U1, V1, hU1, hV1⟩ : ∃ U V : Nat, U = (Ed.base).x.val ∧ V = (Ed.base).y.val := ⟨_, _, rfl, rfl⟩
 have P1 : ptOf U1 V1 false = Ed.base := by rw [hU1, hV1]; exact ptOf_pt _
 have bU1 : U1 < N := by rw [hU1]; exact Nat.lt_trans (Fin.isLt _) PN
 have bV1 : V1 < N := by rw [hV1]; exact Nat.lt_trans (Fin.isLt _) PN
 obtain ⟨U2, V2, hU2, hV2⟩ : ∃ U V : Nat, U = (Ed.smul sv ((Ed.base)) + Ed.smul k (ptOf nx ay false)).x.val ∧ V = (Ed.smul sv ((Ed.base)) + Ed.smul k (ptOf nx ay false)).y.val := ⟨_, _, rfl, rfl⟩
 have P2 : ptOf U2 V2 false = Ed.smul sv ((Ed.base)) + Ed.smul k (ptOf nx ay false) := by rw [hU2, hV2]; exact ptOf_pt _
 have bU2 : U2 < N := by rw [hU2]; exact Nat.lt_trans (Fin.isLt _) PN
 have bV2 : V2 < N := by rw [hV2]; exact Nat.lt_trans (Fin.isLt _) PN
 have hrun := calls_of_runS (P := Tryd.prog) (v := ⟨envI [0, 0, 0, (lm ax 0 : Int), (lm ax 1 : Int), (lm ax 2 : Int), (lm ax 3 : Int), (lm ay 0 : Int), (lm ay 1 : Int), (lm ay 2 : Int), (lm ay 3 : Int), 0, 0, (lm rx 0 : Int), (lm rx 1 : Int), (lm rx 2 : Int), (lm rx 3 : Int), (lm ry 0 : Int), (lm ry 1 : Int), (lm ry 2 : Int), (lm ry 3 : Int), 0, 0, (lm sv 0 : Int), (lm sv 1 : Int), (lm sv 2 : Int), (lm sv 3 : Int), 0, 0, (lm k 0 : Int), (lm k 1 : Int), (lm k 2 : Int), (lm k 3 : Int), (lm nx 0 : Int), (lm nx 1 : Int), (lm nx 2 : Int), (lm nx 3 : Int), (lm U1 0 : Int), (lm U1 1 : Int), (lm U1 2 : Int), (lm U1 3 : Int), (lm V1 0 : Int), (lm V1 1 : Int), (lm V1 2 : Int), (lm V1 3 : Int), 0, (lm U2 0 : Int), (lm U2 1 : Int), (lm U2 2 : Int), (lm U2 3 : Int), (lm V2 0 : Int), (lm V2 1 : Int), (lm V2 2 : Int), (lm V2 3 : Int)], envB [false, false, false, false, false, false, false, false, false, false, false, false, k1, false, false, false, false, false, false, false, false, false, k2, false, false, false, false, true, z, false, false, false, false, false, false, false, false, false, false, false, false, false, false, false, false, false, false, false, false, false, false, false, false, false, false], envL [p, m, g], envP [], LX Z, w⟩) (gs := []) (fuel := 3000) (nv := 3) (args := [(.imm (.lvar 0) none), (.imm (.lvar 1) none), (.imm (.lvar 2) none)]) (ora := JN19) (sums := []) (r := ⟨[(.val (.sc (.bool (.and (.and (.cmp .eql (.var 46) (.var 13)) (.and (.cmp .eql (.var 47) (.var 14)) (.and (.cmp .eql (.var 48) (.var 15)) (.cmp .eql (.var 49) (.var 16))))) (.and (.and (.cmp .eql (.var 50) (.var 17)) (.and (.cmp .eql (.var 51) (.var 18)) (.and (.cmp .eql (.var 52) (.var 19)) (.cmp .eql (.var 53) (.var 20))))) (.beq (.var 54) (.var 21)))))))], [.dec JN4 false, .callS 31 [(.bytes (.lvar 0))] [(.val JN1), (.val JN10)], .dec (.var 12) true, .dec JN2 true, .callS 31 [(.bytes JN5)] [(.val JN0), (.val JN9)], .dec (.var 22) true, .dec JN2 true, .callS 32 [(.bytes JN6)] [(.val JN3), (.val JN8)], .call 33 JN14 (.one JN20), .dec (.var 28) true, .dec JN2 true, .callS 26 [(.parts [JN5, (.lvar 0), (.lvar 1)])] [(.val JN13)], .call 34 [(.sc (.int .i64 (.lit 2))), (.agg [.n 0, .n 0, .n 0, .n 0]), (.agg [.v 3, .v 4, .v 5, .v 6])] (.one (.agg [.v 33, .v 34, .v 35, .v 36])), .call 25 [] (.one JN16), .call 35 [JN3, JN16, JN13, (.agg [.v 33, .v 34, .v 35, .v 36, .v 7, .v 8, .v 9, .v 10, .bool (.lit false)])] (.one (.agg [.v 46, .v 47, .v 48, .v 49, .v 50, .v 51, .v 52, .v 53, .bool (.var 54)]))], []⟩) Tryd.func11 (by kernel_rfl)
  (evs_of ⟨?_, ?_, ?_, ?_, ?_, ?_, ?_, ?_, ?_, ?_, ?_, ?_, ?_, ?_, ?_, trivial⟩) (by simp) (GsOk.nil _) hK hG _ (⟨u0, _, rfl, ⟨hu0, fun b hb => by cases hb⟩, u1, _, rfl, ⟨hu1, fun b hb => by cases hb⟩, u2, _, rfl, ⟨hu2, fun b hb => by cases hb⟩, rfl⟩)
 ·exact runS_eq hrun (by (show [SRes.val (Value.bool ((((lm U2 0 : Int) == (lm rx 0 : Int)) && (((lm U2 1 : Int) == (lm rx 1 : Int)) && (((lm U2 2 : Int) == (lm rx 2 : Int)) && ((lm U2 3 : Int) == (lm rx 3 : Int))))) && ((((lm V2 0 : Int) == (lm ry 0 : Int)) && (((lm V2 1 : Int) == (lm ry 1 : Int)) && (((lm V2 2 : Int) == (lm ry 2 : Int)) && ((lm V2 3 : Int) == (lm ry 3 : Int))))) && (false == false))))] = _; rw [lm_eq bU2 brx, lm_eq bV2 bry, hU2, hV2, hnx, mirror_of fa, hv]; exact congrArg (fun b => [SRes.val (Value.bool b)]) (verdict_e fr)))
 ·exact dec_ne_f (a := g.length) (b := 64) rfl rfl (by omega)
 ·exact edecq_g Z rfl hp hd1
 ·(show k1 = true; exact e1)
 ·exact dec_le_t (a := 32) (b := g.length) rfl rfl (by omega)
 ·exact edecq_g Z (show R0 = ((g.drop ((0 : Int)).toNat).take ((32 : Int)).toNat) from by rw [hR0]; simp) bR hd2
 ·(show k2 = true; exact e2)
 ·exact dec_le_t (a := 32) (b := g.length) rfl rfl (by omega)
 ·exact CallS.g (littleq_s (show S0 = ((g.drop ((32 : Int)).toNat).take ((((g.length : Nat) : Int) - (32 : Int))).toNat) from by rw [hS0]; symm; apply List.take_of_length_le; simp [h64]) bS lS hsv rfl)
 ·exact below3_g Z.toTZ sv bsv hz
 ·(show z = true; exact ez)
 ·exact dec_le_t (a := 32) (b := g.length) rfl rfl (by omega)
 ·exact scalarq_g Z.toTZ (p := [R0, p, m]) (congrArg (fun z => [z, p, m]) (show R0 = ((g.drop ((0 : Int)).toNat).take ((32 : Int)).toNat) from by rw [hR0]; simp)) (by simp only [List.flatten_cons, List.flatten_nil, List.append_nil]; exact bR.append (hp.append hm)) (by simp; omega) (by simp) (hk.trans (by simp))
 ·exact sub2_g Z.toTZ ax bax hnx
 ·exact CallP.g (ebase_c (by rw [hU1]; exact base_val.1) (by rw [hV1]; exact base_val.2))
 ·exact eBoth_g Z.q sv U1 V1 false k nx ay false (by first | assumption | decide) (by first | assumption | decide) (by first | assumption | decide) (by first | assumption | decide) (by first | assumption | decide) (by first | assumption | decide) (by rw [P1]; exact hU2) (by rw [P1]; exact hV2)
theorem verify_g (Z : TX) (p m g : List Int) (hp : IsBytes p) (hm : IsBytes m) (hg : IsBytes g) (lp : p.length ≤ 300) (lm' : m.length ≤ 300) {v : Bool} (hv : v = vL p m g) : CallS Tryd.prog (LX Z) 11 [.bytes p, .bytes m, .bytes g] [.val (.bool v)] := by
 by_cases h64 : g.length = 64
 ·obtain ⟨ax, ay, k1, hd1⟩ : ∃ x y k, decL p = (x, y, k) := ⟨_, _, _, rfl⟩
  obtain ⟨rx, ry, k2, hd2⟩ : ∃ x y k, decL (g.take 32) = (x, y, k) := ⟨_, _, _, rfl⟩
  have o1 := decL_ok hd1
  have o2 := decL_ok hd2
  have lR : (g.take 32).length = 32 := by rw [List.length_take]; omega
  have lS : (g.drop 32).length = 32 := by rw [List.length_drop]; omega
  have bR : IsBytes (g.take 32) := fun x hx => hg x (List.mem_of_mem_take hx)
  have bS : IsBytes (g.drop 32) := fun x hx => hg x (List.mem_of_mem_drop hx)
  have bsv : leN (g.drop 32) < N := leN32_lt lS bS
  have hv' := hv
  unfold vL vEq vK at hv'
  rw [hd1, hd2, h64] at hv'
  cases k1 with
  | false =>
   obtain rfl : v = false := by rw [hv']; simp
   exact v2_run p m g Z hp hm hg lp lm' h64 _ _ rfl rfl bR bS lR lS ax ay rx ry _ _ hd1 hd2 (Nat.lt_trans (x_lt o1.1) PN) (Nat.lt_trans (y_lt o1.1) PN) (Nat.lt_trans (x_lt o2.1) PN) (Nat.lt_trans (y_lt o2.1) PN) _ rfl bsv rfl
  | true =>
   cases k2 with
   | false =>
    obtain rfl : v = false := by rw [hv']; simp
    exact v3_run p m g Z hp hm hg lp lm' h64 _ _ rfl rfl bR bS lR lS ax ay rx ry _ _ hd1 hd2 (Nat.lt_trans (x_lt o1.1) PN) (Nat.lt_trans (y_lt o1.1) PN) (Nat.lt_trans (x_lt o2.1) PN) (Nat.lt_trans (y_lt o2.1) PN) _ rfl bsv rfl rfl
   | true =>
    by_cases hz : leN (g.drop 32) < Mo 3
    ·exact v5_run p m g Z hp hm hg lp lm' h64 _ _ rfl rfl bR bS lR lS ax ay rx ry _ _ hd1 hd2 (Nat.lt_trans (x_lt o1.1) PN) (Nat.lt_trans (y_lt o1.1) PN) (Nat.lt_trans (x_lt o2.1) PN) (Nat.lt_trans (y_lt o2.1) PN) _ rfl bsv rfl rfl _ rfl (decide_eq_true hz) _ rfl (scal_lt _) o1.1 o2.1 _ rfl (Nat.lt_trans (sb_P _ _) PN) (by rw [hv', decide_eq_true hz]; rfl)
    ·obtain rfl : v = false := by rw [hv', decide_eq_false hz]; simp
     exact v4_run p m g Z hp hm hg lp lm' h64 _ _ rfl rfl bR bS lR lS ax ay rx ry _ _ hd1 hd2 (Nat.lt_trans (x_lt o1.1) PN) (Nat.lt_trans (y_lt o1.1) PN) (Nat.lt_trans (x_lt o2.1) PN) (Nat.lt_trans (y_lt o2.1) PN) _ rfl bsv rfl rfl _ rfl (decide_eq_false hz)
 ·obtain rfl : v = false := by rw [hv]; unfold vL; rw [decide_eq_false h64]; rfl
  exact v1_run p m g Z hp hm hg lp lm' h64
theorem rv1_run (p : List Int) (m : List Int) (g : List Int) (Z : TZ) (hp : IsBytes p) (hm : IsBytes m) (hg : IsBytes g) (lp : p.length ≤ 300) (lm' : m.length ≤ 300) (h64 : ¬ g.length = 64) : CallS Tryd.prog (LZ Z) 21 [.bytes p, .bytes m, .bytes g] [.val (.bool false)] := by
 refine callS_of Tryd.func21 (by kernel_rfl) (by kernel_rfl) (fun w us hK hG ha => ?_)
 obtain ⟨u0, _, rfl, hu0, u1, _, rfl, hu1, u2, _, rfl, hu2, rfl⟩ := ha
 have hrun := calls_of_runS (P := Tryd.prog) (v := ⟨envI [], envB [], envL [p, m, g], envP [], LZ Z, w⟩) (gs := []) (fuel := 3000) (nv := 3) (args := [(.imm (.lvar 0) none), (.imm (.lvar 1) none), (.imm (.lvar 2) none)]) (ora := [some true]) (sums := []) (r := ⟨[(.val JN7)], [.dec JN4 true], []⟩) Tryd.func21 (by kernel_rfl)
  (evs_of ⟨?_, trivial⟩) (by simp) (GsOk.nil _) hK hG _ (⟨u0, _, rfl, ⟨hu0, fun b hb => by cases hb⟩, u1, _, rfl, ⟨hu1, fun b hb => by cases hb⟩, u2, _, rfl, ⟨hu2, fun b hb => by cases hb⟩, rfl⟩)
 ·exact runS_eq hrun (by rfl)
 ·exact dec_ne_t (a := g.length) (b := 64) rfl rfl (by omega)
theorem rv2_run (p : List Int) (m : List Int) (g : List Int) (Z : TZ) (hp : IsBytes p) (hm : IsBytes m) (hg : IsBytes g) (lp : p.length ≤ 300) (lm' : m.length ≤ 300) (h64 : g.length = 64) (R0 S0 : List Int) (hR0 : R0 = g.take 32) (hS0 : S0 = g.drop 32) (bR : IsBytes R0) (bS : IsBytes S0) (lR : R0.length = 32) (lS : S0.length = 32) (ax ay rx ry : Nat) (k1 k2 : Bool) (hd1 : decL p = (ax, ay, k1)) (hd2 : decL R0 = (rx, ry, k2)) (bax : ax < N) (bay : ay < N) (brx : rx < N) (bry : ry < N) (sv : Nat) (hsv : sv = leN S0) (bsv : sv < N) (e1 : k1 = false) : CallS Tryd.prog (LZ Z) 21 [.bytes p, .bytes m, .bytes g] [.val (.bool false)] := by
 refine callS_of Tryd.func21 (by kernel_rfl) (by kernel_rfl) (fun w us hK hG ha => ?_)
 obtain ⟨u0, _, rfl, hu0, u1, _, rfl, hu1, u2, _, rfl, hu2, rfl⟩ := ha
 have hrun := calls_of_runS (P := Tryd.prog) (v := ⟨envI [0, 0, 0, lm ax 0, lm ax 1, lm ax 2, lm ax 3, lm ay 0, lm ay 1, lm ay 2, lm ay 3, 0, 0, lm rx 0, lm rx 1, lm rx 2, lm rx 3, lm ry 0, lm ry 1, lm ry 2, lm ry 3, 0, 0, lm sv 0, lm sv 1, lm sv 2, lm sv 3], envB [false, false, false, false, false, false, false, false, false, false, false, false, k1, false, false, false, false, false, false, false, false, false, k2, false, false, false, false, true], envL [p, m, g], envP [], LZ Z, w⟩) (gs := []) (fuel := 3000) (nv := 3) (args := [(.imm (.lvar 0) none), (.imm (.lvar 1) none), (.imm (.lvar 2) none)]) (ora := [some false, none, some false]) (sums := []) (r := ⟨[(.val JN7)], [.dec JN4 false, .callS 18 [(.bytes (.lvar 0))] [(.val JN1), (.val JN10)], .dec (.var 12) false, .dec JN2 true, .callS 18 [(.bytes JN5)] [(.val JN0), (.val JN9)], .dec JN11 true, .callS 13 [(.bytes JN12)] [(.val JN3), (.val JN8)]], []⟩) Tryd.func21 (by kernel_rfl)
  (evs_of ⟨?_, ?_, ?_, ?_, ?_, ?_, ?_, trivial⟩) (by simp) (GsOk.nil _) hK hG _ (⟨u0, _, rfl, ⟨hu0, fun b hb => by cases hb⟩, u1, _, rfl, ⟨hu1, fun b hb => by cases hb⟩, u2, _, rfl, ⟨hu2, fun b hb => by cases hb⟩, rfl⟩)
 ·exact runS_eq hrun (by rfl)
 ·exact dec_ne_f (a := g.length) (b := 64) rfl rfl (by omega)
 ·exact rdecq_g Z rfl hp hd1
 ·(show k1 = false; exact e1)
 ·exact dec_le_t (a := 32) (b := g.length) rfl rfl (by omega)
 ·exact rdecq_g Z (show R0 = ((g.drop ((0 : Int)).toNat).take ((32 : Int)).toNat) from by rw [hR0]; simp) bR hd2
 ·exact dec_le_t (a := 64) (b := g.length) rfl rfl (by omega)
 ·exact CallS.g (rlittleq_s (show S0 = ((g.drop ((32 : Int)).toNat).take ((32 : Int)).toNat) from by rw [hS0]; symm; apply List.take_of_length_le; simp [h64]) bS lS hsv rfl)
theorem rv3_run (p : List Int) (m : List Int) (g : List Int) (Z : TZ) (hp : IsBytes p) (hm : IsBytes m) (hg : IsBytes g) (lp : p.length ≤ 300) (lm' : m.length ≤ 300) (h64 : g.length = 64) (R0 S0 : List Int) (hR0 : R0 = g.take 32) (hS0 : S0 = g.drop 32) (bR : IsBytes R0) (bS : IsBytes S0) (lR : R0.length = 32) (lS : S0.length = 32) (ax ay rx ry : Nat) (k1 k2 : Bool) (hd1 : decL p = (ax, ay, k1)) (hd2 : decL R0 = (rx, ry, k2)) (bax : ax < N) (bay : ay < N) (brx : rx < N) (bry : ry < N) (sv : Nat) (hsv : sv = leN S0) (bsv : sv < N) (e1 : k1 = true) (e2 : k2 = false) : CallS Tryd.prog (LZ Z) 21 [.bytes p, .bytes m, .bytes g] [.val (.bool false)] := by
 refine callS_of Tryd.func21 (by kernel_rfl) (by kernel_rfl) (fun w us hK hG ha => ?_)
 obtain ⟨u0, _, rfl, hu0, u1, _, rfl, hu1, u2, _, rfl, hu2, rfl⟩ := ha
 have hrun := calls_of_runS (P := Tryd.prog) (v := ⟨envI [0, 0, 0, lm ax 0, lm ax 1, lm ax 2, lm ax 3, lm ay 0, lm ay 1, lm ay 2, lm ay 3, 0, 0, lm rx 0, lm rx 1, lm rx 2, lm rx 3, lm ry 0, lm ry 1, lm ry 2, lm ry 3, 0, 0, lm sv 0, lm sv 1, lm sv 2, lm sv 3], envB [false, false, false, false, false, false, false, false, false, false, false, false, k1, false, false, false, false, false, false, false, false, false, k2, false, false, false, false, true], envL [p, m, g], envP [], LZ Z, w⟩) (gs := []) (fuel := 3000) (nv := 3) (args := [(.imm (.lvar 0) none), (.imm (.lvar 1) none), (.imm (.lvar 2) none)]) (ora := JN21) (sums := []) (r := ⟨[(.val JN7)], [.dec JN4 false, .callS 18 [(.bytes (.lvar 0))] [(.val JN1), (.val JN10)], .dec (.var 12) true, .dec JN2 true, .callS 18 [(.bytes JN5)] [(.val JN0), (.val JN9)], .dec (.var 22) false, .dec JN11 true, .callS 13 [(.bytes JN12)] [(.val JN3), (.val JN8)]], []⟩) Tryd.func21 (by kernel_rfl)
  (evs_of ⟨?_, ?_, ?_, ?_, ?_, ?_, ?_, ?_, trivial⟩) (by simp) (GsOk.nil _) hK hG _ (⟨u0, _, rfl, ⟨hu0, fun b hb => by cases hb⟩, u1, _, rfl, ⟨hu1, fun b hb => by cases hb⟩, u2, _, rfl, ⟨hu2, fun b hb => by cases hb⟩, rfl⟩)
 ·exact runS_eq hrun (by rfl)
 ·exact dec_ne_f (a := g.length) (b := 64) rfl rfl (by omega)
 ·exact rdecq_g Z rfl hp hd1
 ·(show k1 = true; exact e1)
 ·exact dec_le_t (a := 32) (b := g.length) rfl rfl (by omega)
 ·exact rdecq_g Z (show R0 = ((g.drop ((0 : Int)).toNat).take ((32 : Int)).toNat) from by rw [hR0]; simp) bR hd2
 ·(show k2 = false; exact e2)
 ·exact dec_le_t (a := 64) (b := g.length) rfl rfl (by omega)
 ·exact CallS.g (rlittleq_s (show S0 = ((g.drop ((32 : Int)).toNat).take ((32 : Int)).toNat) from by rw [hS0]; symm; apply List.take_of_length_le; simp [h64]) bS lS hsv rfl)
theorem rv4_run (p : List Int) (m : List Int) (g : List Int) (Z : TZ) (hp : IsBytes p) (hm : IsBytes m) (hg : IsBytes g) (lp : p.length ≤ 300) (lm' : m.length ≤ 300) (h64 : g.length = 64) (R0 S0 : List Int) (hR0 : R0 = g.take 32) (hS0 : S0 = g.drop 32) (bR : IsBytes R0) (bS : IsBytes S0) (lR : R0.length = 32) (lS : S0.length = 32) (ax ay rx ry : Nat) (k1 k2 : Bool) (hd1 : decL p = (ax, ay, k1)) (hd2 : decL R0 = (rx, ry, k2)) (bax : ax < N) (bay : ay < N) (brx : rx < N) (bry : ry < N) (sv : Nat) (hsv : sv = leN S0) (bsv : sv < N) (e1 : k1 = true) (e2 : k2 = true) (z : Bool) (hz : z = decide (sv < Mo 3)) (ez : z = false) : CallS Tryd.prog (LZ Z) 21 [.bytes p, .bytes m, .bytes g] [.val (.bool false)] := by
 refine callS_of Tryd.func21 (by kernel_rfl) (by kernel_rfl) (fun w us hK hG ha => ?_)
 obtain ⟨u0, _, rfl, hu0, u1, _, rfl, hu1, u2, _, rfl, hu2, rfl⟩ := ha
 have hrun := calls_of_runS (P := Tryd.prog) (v := ⟨envI [0, 0, 0, lm ax 0, lm ax 1, lm ax 2, lm ax 3, lm ay 0, lm ay 1, lm ay 2, lm ay 3, 0, 0, lm rx 0, lm rx 1, lm rx 2, lm rx 3, lm ry 0, lm ry 1, lm ry 2, lm ry 3, 0, 0, lm sv 0, lm sv 1, lm sv 2, lm sv 3], envB [false, false, false, false, false, false, false, false, false, false, false, false, k1, false, false, false, false, false, false, false, false, false, k2, false, false, false, false, true, z], envL [p, m, g], envP [], LZ Z, w⟩) (gs := []) (fuel := 3000) (nv := 3) (args := [(.imm (.lvar 0) none), (.imm (.lvar 1) none), (.imm (.lvar 2) none)]) (ora := JN18) (sums := []) (r := ⟨[(.val JN7)], [.dec JN4 false, .callS 18 [(.bytes (.lvar 0))] [(.val JN1), (.val JN10)], .dec (.var 12) true, .dec JN2 true, .callS 18 [(.bytes JN5)] [(.val JN0), (.val JN9)], .dec (.var 22) true, .dec JN11 true, .callS 13 [(.bytes JN12)] [(.val JN3), (.val JN8)], .call 19 JN14 (.one JN20), .dec (.var 28) false], []⟩) Tryd.func21 (by kernel_rfl)
  (evs_of ⟨?_, ?_, ?_, ?_, ?_, ?_, ?_, ?_, ?_, ?_, trivial⟩) (by simp) (GsOk.nil _) hK hG _ (⟨u0, _, rfl, ⟨hu0, fun b hb => by cases hb⟩, u1, _, rfl, ⟨hu1, fun b hb => by cases hb⟩, u2, _, rfl, ⟨hu2, fun b hb => by cases hb⟩, rfl⟩)
 ·exact runS_eq hrun (by rfl)
 ·exact dec_ne_f (a := g.length) (b := 64) rfl rfl (by omega)
 ·exact rdecq_g Z rfl hp hd1
 ·(show k1 = true; exact e1)
 ·exact dec_le_t (a := 32) (b := g.length) rfl rfl (by omega)
 ·exact rdecq_g Z (show R0 = ((g.drop ((0 : Int)).toNat).take ((32 : Int)).toNat) from by rw [hR0]; simp) bR hd2
 ·(show k2 = true; exact e2)
 ·exact dec_le_t (a := 64) (b := g.length) rfl rfl (by omega)
 ·exact CallS.g (rlittleq_s (show S0 = ((g.drop ((32 : Int)).toNat).take ((32 : Int)).toNat) from by rw [hS0]; symm; apply List.take_of_length_le; simp [h64]) bS lS hsv rfl)
 ·exact rbelow3_g Z sv bsv hz
 ·(show z = false; exact ez)
theorem rv5_run (p : List Int) (m : List Int) (g : List Int) (Z : TZ) (hp : IsBytes p) (hm : IsBytes m) (hg : IsBytes g) (lp : p.length ≤ 300) (lm' : m.length ≤ 300) (h64 : g.length = 64) (R0 S0 : List Int) (hR0 : R0 = g.take 32) (hS0 : S0 = g.drop 32) (bR : IsBytes R0) (bS : IsBytes S0) (lR : R0.length = 32) (lS : S0.length = 32) (ax ay rx ry : Nat) (k1 k2 : Bool) (hd1 : decL p = (ax, ay, k1)) (hd2 : decL R0 = (rx, ry, k2)) (bax : ax < N) (bay : ay < N) (brx : rx < N) (bry : ry < N) (sv : Nat) (hsv : sv = leN S0) (bsv : sv < N) (e1 : k1 = true) (e2 : k2 = true) (z : Bool) (hz : z = decide (sv < Mo 3)) (ez : z = true) (k : Nat) (hk : k = scal (R0 ++ p ++ m)) (bk : k < N) (fa : formedB ax ay false = true) (fr : formedB rx ry false = true) {v : Bool} (hv : v = ptB (Ed.smul sv Ed.base) (ptOf rx ry false + Ed.smul k (ptOf ax ay false))) : CallS Tryd.prog (LZ Z) 21 [.bytes p, .bytes m, .bytes g] [.val (.bool v)] := by
 refine callS_of Tryd.func21 (by kernel_rfl) (by kernel_rfl) (fun w us hK hG ha => ?_)
 obtain ⟨u0, _, rfl, hu0, u1, _, rfl, hu1, u2, _, rfl, hu2, rfl⟩ := ha
 obtain ⟨U1, V1, hU1, hV1⟩ : ∃ U V : Nat, U = (Ed.base).x.val ∧ V = (Ed.base).y.val := ⟨_, _, rfl, rfl⟩
 have P1 : ptOf U1 V1 false = Ed.base := by rw [hU1, hV1]; exact ptOf_pt _
 have bU1 : U1 < N := by rw [hU1]; exact Nat.lt_trans (Fin.isLt _) PN
 have bV1 : V1 < N := by rw [hV1]; exact Nat.lt_trans (Fin.isLt _) PN
 obtain ⟨U2, V2, hU2, hV2⟩ : ∃ U V : Nat, U = (Ed.smul sv ((Ed.base))).x.val ∧ V = (Ed.smul sv ((Ed.base))).y.val := ⟨_, _, rfl, rfl⟩
 have P2 : ptOf U2 V2 false = Ed.smul sv ((Ed.base)) := by rw [hU2, hV2]; exact ptOf_pt _
 have bU2 : U2 < N := by rw [hU2]; exact Nat.lt_trans (Fin.isLt _) PN
 have bV2 : V2 < N := by rw [hV2]; exact Nat.lt_trans (Fin.isLt _) PN
 obtain ⟨U3, V3, hU3, hV3⟩ : ∃ U V : Nat, U = (Ed.smul k (ptOf ax ay false)).x.val ∧ V = (Ed.smul k (ptOf ax ay false)).y.val := ⟨_, _, rfl, rfl⟩
 have P3 : ptOf U3 V3 false = Ed.smul k (ptOf ax ay false) := by rw [hU3, hV3]; exact ptOf_pt _
 have bU3 : U3 < N := by rw [hU3]; exact Nat.lt_trans (Fin.isLt _) PN
 have bV3 : V3 < N := by rw [hV3]; exact Nat.lt_trans (Fin.isLt _) PN
 obtain ⟨U4, V4, hU4, hV4⟩ : ∃ U V : Nat, U = (ptOf rx ry false + (Ed.smul k (ptOf ax ay false))).x.val ∧ V = (ptOf rx ry false + (Ed.smul k (ptOf ax ay false))).y.val := ⟨_, _, rfl, rfl⟩
 have P4 : ptOf U4 V4 false = ptOf rx ry false + (Ed.smul k (ptOf ax ay false)) := by rw [hU4, hV4]; exact ptOf_pt _
 have bU4 : U4 < N := by rw [hU4]; exact Nat.lt_trans (Fin.isLt _) PN
 have bV4 : V4 < N := by rw [hV4]; exact Nat.lt_trans (Fin.isLt _) PN
 have hrun := calls_of_runS (P := Tryd.prog) (v := ⟨envI [0, 0, 0, (lm ax 0 : Int), (lm ax 1 : Int), (lm ax 2 : Int), (lm ax 3 : Int), (lm ay 0 : Int), (lm ay 1 : Int), (lm ay 2 : Int), (lm ay 3 : Int), 0, 0, (lm rx 0 : Int), (lm rx 1 : Int), (lm rx 2 : Int), (lm rx 3 : Int), (lm ry 0 : Int), (lm ry 1 : Int), (lm ry 2 : Int), (lm ry 3 : Int), 0, 0, (lm sv 0 : Int), (lm sv 1 : Int), (lm sv 2 : Int), (lm sv 3 : Int), 0, 0, (lm k 0 : Int), (lm k 1 : Int), (lm k 2 : Int), (lm k 3 : Int), (lm U1 0 : Int), (lm U1 1 : Int), (lm U1 2 : Int), (lm U1 3 : Int), (lm V1 0 : Int), (lm V1 1 : Int), (lm V1 2 : Int), (lm V1 3 : Int), 0, (lm U2 0 : Int), (lm U2 1 : Int), (lm U2 2 : Int), (lm U2 3 : Int), (lm V2 0 : Int), (lm V2 1 : Int), (lm V2 2 : Int), (lm V2 3 : Int), 0, (lm U3 0 : Int), (lm U3 1 : Int), (lm U3 2 : Int), (lm U3 3 : Int), (lm V3 0 : Int), (lm V3 1 : Int), (lm V3 2 : Int), (lm V3 3 : Int), 0, (lm U4 0 : Int), (lm U4 1 : Int), (lm U4 2 : Int), (lm U4 3 : Int), (lm V4 0 : Int), (lm V4 1 : Int), (lm V4 2 : Int), (lm V4 3 : Int)], envB [false, false, false, false, false, false, false, false, false, false, false, false, k1, false, false, false, false, false, false, false, false, false, k2, false, false, false, false, true, z, false, false, false, false, false, false, false, false, false, false, false, false, false, false, false, false, false, false, false, false, false, false, false, false, false, false, false, false, false, false, false, false, false, false, false, false, false, false, false, false], envL [p, m, g], envP [], LZ Z, w⟩) (gs := []) (fuel := 3000) (nv := 3) (args := [(.imm (.lvar 0) none), (.imm (.lvar 1) none), (.imm (.lvar 2) none)]) (ora := JN19) (sums := []) (r := ⟨[(.val (.sc (.bool (.and (.and (.cmp .eql (.var 42) (.var 60)) (.and (.cmp .eql (.var 43) (.var 61)) (.and (.cmp .eql (.var 44) (.var 62)) (.cmp .eql (.var 45) (.var 63))))) (.and (.and (.cmp .eql (.var 46) (.var 64)) (.and (.cmp .eql (.var 47) (.var 65)) (.and (.cmp .eql (.var 48) (.var 66)) (.cmp .eql (.var 49) (.var 67))))) (.beq (.var 50) (.var 68)))))))], [.dec JN4 false, .callS 18 [(.bytes (.lvar 0))] [(.val JN1), (.val JN10)], .dec (.var 12) true, .dec JN2 true, .callS 18 [(.bytes JN5)] [(.val JN0), (.val JN9)], .dec (.var 22) true, .dec JN11 true, .callS 13 [(.bytes JN12)] [(.val JN3), (.val JN8)], .call 19 JN14 (.one JN20), .dec (.var 28) true, .dec JN2 true, .callS 41 [(.bytes JN5), (.bytes (.lvar 0)), (.bytes (.lvar 1))] [(.val JN13)], .call 40 [] (.one JN17), .call 39 [JN3, JN17] (.one (.agg [.v 42, .v 43, .v 44, .v 45, .v 46, .v 47, .v 48, .v 49, .bool (.var 50)])), .call 39 [JN13, JN1] (.one JN15), .call 52 [JN0, JN15] (.one (.agg [.v 60, .v 61, .v 62, .v 63, .v 64, .v 65, .v 66, .v 67, .bool (.var 68)]))], []⟩) Tryd.func21 (by kernel_rfl)
  (evs_of ⟨?_, ?_, ?_, ?_, ?_, ?_, ?_, ?_, ?_, ?_, ?_, ?_, ?_, ?_, ?_, ?_, trivial⟩) (by simp) (GsOk.nil _) hK hG _ (⟨u0, _, rfl, ⟨hu0, fun b hb => by cases hb⟩, u1, _, rfl, ⟨hu1, fun b hb => by cases hb⟩, u2, _, rfl, ⟨hu2, fun b hb => by cases hb⟩, rfl⟩)
 ·exact runS_eq hrun (by (show [SRes.val (Value.bool ((((lm U2 0 : Int) == (lm U4 0 : Int)) && (((lm U2 1 : Int) == (lm U4 1 : Int)) && (((lm U2 2 : Int) == (lm U4 2 : Int)) && ((lm U2 3 : Int) == (lm U4 3 : Int))))) && ((((lm V2 0 : Int) == (lm V4 0 : Int)) && (((lm V2 1 : Int) == (lm V4 1 : Int)) && (((lm V2 2 : Int) == (lm V4 2 : Int)) && ((lm V2 3 : Int) == (lm V4 3 : Int))))) && (false == false))))] = _; rw [lm_eq bU2 bU4, lm_eq bV2 bV4, hU2, hV2, hU4, hV4, hv]; exact congrArg (fun b => [SRes.val (Value.bool b)]) verdict_r))
 ·exact dec_ne_f (a := g.length) (b := 64) rfl rfl (by omega)
 ·exact rdecq_g Z rfl hp hd1
 ·(show k1 = true; exact e1)
 ·exact dec_le_t (a := 32) (b := g.length) rfl rfl (by omega)
 ·exact rdecq_g Z (show R0 = ((g.drop ((0 : Int)).toNat).take ((32 : Int)).toNat) from by rw [hR0]; simp) bR hd2
 ·(show k2 = true; exact e2)
 ·exact dec_le_t (a := 64) (b := g.length) rfl rfl (by omega)
 ·exact CallS.g (rlittleq_s (show S0 = ((g.drop ((32 : Int)).toNat).take ((32 : Int)).toNat) from by rw [hS0]; symm; apply List.take_of_length_le; simp [h64]) bS lS hsv rfl)
 ·exact rbelow3_g Z sv bsv hz
 ·(show z = true; exact ez)
 ·exact dec_le_t (a := 32) (b := g.length) rfl rfl (by omega)
 ·exact rscalarq_g Z (show R0 = ((g.drop ((0 : Int)).toNat).take ((32 : Int)).toNat) from by rw [hR0]; simp) bR hp hm (by omega) hk
 ·exact CallP.g (rbase_c (by rw [hU1]; exact base_val.1) (by rw [hV1]; exact base_val.2))
 ·exact rMul_g Z.q sv U1 V1 false (by first | assumption | decide) (by first | assumption | decide) (by first | assumption | decide) (by rw [P1]; exact hU2) (by rw [P1]; exact hV2)
 ·exact rMul_g Z.q k ax ay false (by first | assumption | decide) (by first | assumption | decide) (by first | assumption | decide) hU3 hV3
 ·exact rAdd_g Z.q rx ry false U3 V3 false (by first | assumption | decide) (by first | assumption | decide) (by first | assumption | decide) (by first | assumption | decide) (by rw [P3]; exact hU4) (by rw [P3]; exact hV4)
theorem rverify_g (Z : TZ) (p m g : List Int) (hp : IsBytes p) (hm : IsBytes m) (hg : IsBytes g) (lp : p.length ≤ 300) (lm' : m.length ≤ 300) {v : Bool} (hv : v = vL p m g) : CallS Tryd.prog (LZ Z) 21 [.bytes p, .bytes m, .bytes g] [.val (.bool v)] := by
 by_cases h64 : g.length = 64
 ·obtain ⟨ax, ay, k1, hd1⟩ : ∃ x y k, decL p = (x, y, k) := ⟨_, _, _, rfl⟩
  obtain ⟨rx, ry, k2, hd2⟩ : ∃ x y k, decL (g.take 32) = (x, y, k) := ⟨_, _, _, rfl⟩
  have o1 := decL_ok hd1
  have o2 := decL_ok hd2
  have lR : (g.take 32).length = 32 := by rw [List.length_take]; omega
  have lS : (g.drop 32).length = 32 := by rw [List.length_drop]; omega
  have bR : IsBytes (g.take 32) := fun x hx => hg x (List.mem_of_mem_take hx)
  have bS : IsBytes (g.drop 32) := fun x hx => hg x (List.mem_of_mem_drop hx)
  have bsv : leN (g.drop 32) < N := leN32_lt lS bS
  have hv' := hv
  unfold vL vEq vK at hv'
  rw [hd1, hd2, h64] at hv'
  cases k1 with
  | false =>
   obtain rfl : v = false := by rw [hv']; simp
   exact rv2_run p m g Z hp hm hg lp lm' h64 _ _ rfl rfl bR bS lR lS ax ay rx ry _ _ hd1 hd2 (Nat.lt_trans (x_lt o1.1) PN) (Nat.lt_trans (y_lt o1.1) PN) (Nat.lt_trans (x_lt o2.1) PN) (Nat.lt_trans (y_lt o2.1) PN) _ rfl bsv rfl
  | true =>
   cases k2 with
   | false =>
    obtain rfl : v = false := by rw [hv']; simp
    exact rv3_run p m g Z hp hm hg lp lm' h64 _ _ rfl rfl bR bS lR lS ax ay rx ry _ _ hd1 hd2 (Nat.lt_trans (x_lt o1.1) PN) (Nat.lt_trans (y_lt o1.1) PN) (Nat.lt_trans (x_lt o2.1) PN) (Nat.lt_trans (y_lt o2.1) PN) _ rfl bsv rfl rfl
   | true =>
    by_cases hz : leN (g.drop 32) < Mo 3
    ·exact rv5_run p m g Z hp hm hg lp lm' h64 _ _ rfl rfl bR bS lR lS ax ay rx ry _ _ hd1 hd2 (Nat.lt_trans (x_lt o1.1) PN) (Nat.lt_trans (y_lt o1.1) PN) (Nat.lt_trans (x_lt o2.1) PN) (Nat.lt_trans (y_lt o2.1) PN) _ rfl bsv rfl rfl _ rfl (decide_eq_true hz) _ rfl (scal_lt _) o1.1 o2.1 (by rw [hv', decide_eq_true hz]; rfl)
    ·obtain rfl : v = false := by rw [hv', decide_eq_false hz]; simp
     exact rv4_run p m g Z hp hm hg lp lm' h64 _ _ rfl rfl bR bS lR lS ax ay rx ry _ _ hd1 hd2 (Nat.lt_trans (x_lt o1.1) PN) (Nat.lt_trans (y_lt o1.1) PN) (Nat.lt_trans (x_lt o2.1) PN) (Nat.lt_trans (y_lt o2.1) PN) _ rfl bsv rfl rfl _ rfl (decide_eq_false hz)
 ·obtain rfl : v = false := by rw [hv]; unfold vL; rw [decide_eq_false h64]; rfl
  exact rv1_run p m g Z hp hm hg lp lm' h64
end Go.Proofs.YtkckmpnkacdchaaDoor
