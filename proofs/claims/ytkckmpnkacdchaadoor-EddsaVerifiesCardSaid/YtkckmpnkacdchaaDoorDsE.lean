/- EddsaVerifies, run. -/
import Derived.Test.YtkckmpnkacdchaaDoorDsD
set_option linter.unusedVariables false
set_option linter.unusedSimpArgs false
set_option maxHeartbeats 4000000
namespace Go.Proofs.YtkckmpnkacdchaaDoor
open Go.RowKit Go.Num Go.Sx
abbrev JO0 : A := .sc (.bool (.var 4))
abbrev JO1 : Bx := .cmp .gtr (.len (.lvar 0)) (.lit 300)
abbrev JO2 : Bx := .cmp .gtr (.len (.lvar 1)) (.lit 300)
abbrev JO3 : List Bool := [false, false, false, true, true]
abbrev JO4 : A := .sc (.bool (.var 3))
theorem verifies_1 (p : List Int) (m : List Int) (g : List Int) (Z : TX) (hp : IsBytes p) (hm : IsBytes m) (hg : IsBytes g) (h1 : ¬ p.length ≤ 300) : CallS Tryd.prog (LX Z) 7 [.bytes p, .bytes m, .bytes g] [.val (.bool true)] := by
 refine callS_of Tryd.func7 (by kernel_rfl) (by kernel_rfl) (fun w us hK hG ha => ?_)
 obtain ⟨u0, _, rfl, hu0, u1, _, rfl, hu1, u2, _, rfl, hu2, rfl⟩ := ha
 have hrun := calls_of_runS (P := Tryd.prog) (v := ⟨envI [], envB JO3, envL [p, m, g], envP [], LX Z, w⟩) (gs := []) (fuel := 3000) (nv := 3) (args := [(.imm (.lvar 0) none), (.imm (.lvar 1) none), (.imm (.lvar 2) none)]) (ora := [some true, some true, none]) (sums := []) (r := ⟨[(.val JO0)], [.call 8 [] (.one JO4), .dec (.var 3) true, .dec JO1 true, .call 8 [] (.one JO0)], []⟩) Tryd.func7 (by kernel_rfl)
  (evs_of ⟨?_, ?_, ?_, ?_, trivial⟩) (by simp) (GsOk.nil _) hK hG _ (⟨u0, _, rfl, ⟨hu0, fun b hb => by cases hb⟩, u1, _, rfl, ⟨hu1, fun b hb => by cases hb⟩, u2, _, rfl, ⟨hu2, fun b hb => by cases hb⟩, rfl⟩)
 ·exact runS_eq hrun (by rfl)
 ·exact awake12_g Z.toTZ
 ·simp [Ev.holds, Bx.den, cmpD, I.den, I.ldn, envI, envB, envL, envP] <;> omega
 ·exact dec_gt_t (a := p.length) (b := 300) rfl rfl (by omega)
 ·exact awake12_g Z.toTZ
theorem verifies_2 (p : List Int) (m : List Int) (g : List Int) (Z : TX) (hp : IsBytes p) (hm : IsBytes m) (hg : IsBytes g) (h1 : p.length ≤ 300) (h2 : ¬ m.length ≤ 300) : CallS Tryd.prog (LX Z) 7 [.bytes p, .bytes m, .bytes g] [.val (.bool true)] := by
 refine callS_of Tryd.func7 (by kernel_rfl) (by kernel_rfl) (fun w us hK hG ha => ?_)
 obtain ⟨u0, _, rfl, hu0, u1, _, rfl, hu1, u2, _, rfl, hu2, rfl⟩ := ha
 have hrun := calls_of_runS (P := Tryd.prog) (v := ⟨envI [], envB JO3, envL [p, m, g], envP [], LX Z, w⟩) (gs := []) (fuel := 3000) (nv := 3) (args := [(.imm (.lvar 0) none), (.imm (.lvar 1) none), (.imm (.lvar 2) none)]) (ora := [some true, some false, some true, none]) (sums := []) (r := ⟨[(.val JO0)], [.call 8 [] (.one JO4), .dec (.var 3) true, .dec JO1 false, .dec JO2 true, .call 8 [] (.one JO0)], []⟩) Tryd.func7 (by kernel_rfl)
  (evs_of ⟨?_, ?_, ?_, ?_, ?_, trivial⟩) (by simp) (GsOk.nil _) hK hG _ (⟨u0, _, rfl, ⟨hu0, fun b hb => by cases hb⟩, u1, _, rfl, ⟨hu1, fun b hb => by cases hb⟩, u2, _, rfl, ⟨hu2, fun b hb => by cases hb⟩, rfl⟩)
 ·exact runS_eq hrun (by rfl)
 ·exact awake12_g Z.toTZ
 ·simp [Ev.holds, Bx.den, cmpD, I.den, I.ldn, envI, envB, envL, envP] <;> omega
 ·exact dec_gt_f (a := p.length) (b := 300) rfl rfl (by omega)
 ·exact dec_gt_t (a := m.length) (b := 300) rfl rfl (by omega)
 ·exact awake12_g Z.toTZ
theorem verifies_3 (p : List Int) (m : List Int) (g : List Int) (Z : TX) (hp : IsBytes p) (hm : IsBytes m) (hg : IsBytes g) (h1 : p.length ≤ 300) (h2 : m.length ≤ 300) (h3 : ¬ g.length ≤ 300) : CallS Tryd.prog (LX Z) 7 [.bytes p, .bytes m, .bytes g] [.val (.bool true)] := by
 refine callS_of Tryd.func7 (by kernel_rfl) (by kernel_rfl) (fun w us hK hG ha => ?_)
 obtain ⟨u0, _, rfl, hu0, u1, _, rfl, hu1, u2, _, rfl, hu2, rfl⟩ := ha
 have hrun := calls_of_runS (P := Tryd.prog) (v := ⟨envI [], envB JO3, envL [p, m, g], envP [], LX Z, w⟩) (gs := []) (fuel := 3000) (nv := 3) (args := [(.imm (.lvar 0) none), (.imm (.lvar 1) none), (.imm (.lvar 2) none)]) (ora := [some true, some false, some false, some true, none]) (sums := []) (r := ⟨[(.val JO0)], [.call 8 [] (.one JO4), .dec (.var 3) true, .dec JO1 false, .dec JO2 false, .dec (.cmp .gtr (.len (.lvar 2)) (.lit 300)) true, .call 8 [] (.one JO0)], []⟩) Tryd.func7 (by kernel_rfl)
  (evs_of ⟨?_, ?_, ?_, ?_, ?_, ?_, trivial⟩) (by simp) (GsOk.nil _) hK hG _ (⟨u0, _, rfl, ⟨hu0, fun b hb => by cases hb⟩, u1, _, rfl, ⟨hu1, fun b hb => by cases hb⟩, u2, _, rfl, ⟨hu2, fun b hb => by cases hb⟩, rfl⟩)
 ·exact runS_eq hrun (by rfl)
 ·exact awake12_g Z.toTZ
 ·simp [Ev.holds, Bx.den, cmpD, I.den, I.ldn, envI, envB, envL, envP] <;> omega
 ·exact dec_gt_f (a := p.length) (b := 300) rfl rfl (by omega)
 ·exact dec_gt_f (a := m.length) (b := 300) rfl rfl (by omega)
 ·exact dec_gt_t (a := g.length) (b := 300) rfl rfl (by omega)
 ·exact awake12_g Z.toTZ
theorem verifies_4 (p : List Int) (m : List Int) (g : List Int) (Z : TX) (hp : IsBytes p) (hm : IsBytes m) (hg : IsBytes g) (lp : p.length ≤ 300) (lm' : m.length ≤ 300) (h3 : g.length ≤ 300) (v : Bool) (hv : v = vL p m g) : CallS Tryd.prog (LX Z) 7 [.bytes p, .bytes m, .bytes g] [.val (.bool true)] := by
 refine callS_of Tryd.func7 (by kernel_rfl) (by kernel_rfl) (fun w us hK hG ha => ?_)
 obtain ⟨u0, _, rfl, hu0, u1, _, rfl, hu1, u2, _, rfl, hu2, rfl⟩ := ha
 have hrun := calls_of_runS (P := Tryd.prog) (v := ⟨envI [], envB [false, false, false, true, v, v], envL [p, m, g], envP [], LX Z, w⟩) (gs := []) (fuel := 3000) (nv := 3) (args := [(.imm (.lvar 0) none), (.imm (.lvar 1) none), (.imm (.lvar 2) none)]) (ora := [some true, some false, some false, some false, none]) (sums := []) (r := ⟨[(.val (.sc (.bool (.beq (.var 4) (.var 5)))))], [.call 8 [] (.one JO4), .dec (.var 3) true, .dec JO1 false, .dec JO2 false, .dec (.cmp .gtr (.len (.lvar 2)) (.lit 300)) false, .callS 11 [(.bytes (.lvar 0)), (.bytes (.lvar 1)), (.bytes (.lvar 2))] [(.val JO0)], .callS 21 [(.bytes (.lvar 0)), (.bytes (.lvar 1)), (.bytes (.lvar 2))] [(.val (.sc (.bool (.var 5))))]], []⟩) Tryd.func7 (by kernel_rfl)
  (evs_of ⟨?_, ?_, ?_, ?_, ?_, ?_, ?_, trivial⟩) (by simp) (GsOk.nil _) hK hG _ (⟨u0, _, rfl, ⟨hu0, fun b hb => by cases hb⟩, u1, _, rfl, ⟨hu1, fun b hb => by cases hb⟩, u2, _, rfl, ⟨hu2, fun b hb => by cases hb⟩, rfl⟩)
 ·exact runS_eq hrun (by (show [SRes.val (Value.bool (v == v))] = _; rw [beq_self_eq_true]))
 ·exact awake12_g Z.toTZ
 ·simp [Ev.holds, Bx.den, cmpD, I.den, I.ldn, envI, envB, envL, envP] <;> omega
 ·exact dec_gt_f (a := p.length) (b := 300) rfl rfl (by omega)
 ·exact dec_gt_f (a := m.length) (b := 300) rfl rfl (by omega)
 ·exact dec_gt_f (a := g.length) (b := 300) rfl rfl (by omega)
 ·exact verify_g Z p m g hp hm hg lp lm' hv
 ·exact rverify_g Z.toTZ p m g hp hm hg lp lm' hv
theorem wEddsaVerifies (p m g : List Int) (Z : TX) (hp : IsBytes p) (hm : IsBytes m) (hg : IsBytes g) : CallS Tryd.prog (LX Z) 7 [.bytes p, .bytes m, .bytes g] [.val (.bool true)] := by
 by_cases h1 : p.length ≤ 300
 ·by_cases h2 : m.length ≤ 300
  ·by_cases h3 : g.length ≤ 300
   ·exact verifies_4 p m g Z hp hm hg h1 h2 h3 _ rfl
   ·exact verifies_3 p m g Z hp hm hg h1 h2 h3
  ·exact verifies_2 p m g Z hp hm hg h1 h2
 ·exact verifies_1 p m g Z hp hm hg h1
end Go.Proofs.YtkckmpnkacdchaaDoor
