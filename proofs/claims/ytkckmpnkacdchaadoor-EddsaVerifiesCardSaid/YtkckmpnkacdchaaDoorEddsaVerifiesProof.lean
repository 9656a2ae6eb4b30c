/- Of all bytes as key, message and signature it is told whether the signature is right (300 bytes each). -/
import Derived.Test.YtkckmpnkacdchaaDoorRows
import Derived.Test.YtkckmpnkacdchaaDoorCards
import Derived.Test.YtkckmpnkacdchaaDoorTie
import Derived.Test.YtkckmpnkacdchaaDoorOpen
import Derived.Test.YtkckmpnkacdchaaDoorOpenB
import Derived.Test.YtkckmpnkacdchaaDoorDsL
import Derived.Test.YtkckmpnkacdchaaDoorDsE
import Derived.ChangeOld
import Derived.SevenTiedAt
set_option linter.unusedVariables false
set_option linter.unusedSimpArgs false
namespace Go.Proofs.YtkckmpnkacdchaaDoor.eddsaVerifies
open Go.ChangeShapes Go.WideShapes Go.ChangeAt Go.RowKit Go.Num Go.Sx
theorem own : ownKnob Tryd.prog.godebug = none := by kernel_rfl
theorem laidOut : laidOutB Tryd.prog = true := by kernel_rfl
set_option maxRecDepth 100000 in
theorem lifted (os : Os) (started : os.Started) (H : Type) (enc : TypeId × Value → H) :
  ReturnsInHanded {} Tryd.checked os 7 .any (fun w args => (Rows.eddsaVerifiesSpec.pre enc Tryd.prog Tryd.f7 [] false w args ∧ LaidMet w) ∧ sizedMet enc Tryd.prog Tryd.f7 (OpenSpec.ofChange Rows.eddsaVerifiesSpec) false w args) (Rows.eddsaVerifiesSpec.post enc Tryd.prog Tryd.f7 false true false false) := by
 refine returnsInHanded_of_change_and (C := Tryd.checked) (X := fun w _ => LaidMet w) (fun _ _ _ hh h => h.of_heap hh) own started (by kernel_rfl) Tryd.func7
  (ChangeSpec.witness_at (enc := enc) (C := Tryd.checked) (os := os) (X := fun w _ => LaidMet w) false (laidWorld os) #[.slice none 0 0, .slice none 0 0, .slice none 0 0] 8 rfl (by kernel_rfl) (by kernel_rfl) (by kernel_rfl) (by kernel_rfl) (by kernel_rfl) (laidWorld_met os _)) ?_
 intro W base args ds gs before hval0 hW hcnd hsz hX _
 have hval : ∀ (j : Nat) t v, Tryd.f7.params[j]? = some t → args[j]? = some v → Value.okWide Tryd.prog W .any base t v := hval0
 have hW' := hW
 obtain ⟨p, q, hA0, hV, rfl, hfz, hnd⟩ := hW
 have hA : DataW.TrodAll enc Tryd.prog W 0 (fun _ => true) true Tryd.f7.params.toList args.toList ds p := hA0
 rw [Tryd.params7] at hA hval
 obtain ⟨v0, vs0, d0, ds0, p0, q0, hargs, rfl, rfl, h0, r0⟩ := trodAll_cons hA
 obtain ⟨v1, vs1, d1, ds1, p1, q1, rfl, rfl, rfl, h1, r1⟩ := trodAll_cons r0
 obtain ⟨v2, vs2, d2, ds2, p2, q2, rfl, rfl, rfl, h2, r2⟩ := trodAll_cons r1
 obtain ⟨rfl, rfl, rfl⟩ := trodAll_nil r2
 obtain rfl : args = #[v0, v1, v2] := by cases args; simp_all
 obtain ⟨rfl, rfl⟩ := trodVars_none hV
 have k0 := h0
 have lt0 : ∀ x ∈ p0, x.block < W.heap.size := by obtain ⟨m, hm⟩ := k0; exact DataW.trod_lt m _ _ _ hm
 obtain ⟨x0, rd0, lx0⟩ := open_bytes Tryd.underlying24 Tryd.underlying5 (by kernel_rfl) (hval 0 24 v0 rfl rfl) h0
 have k1 := h1
 have lt1 : ∀ x ∈ p1, x.block < W.heap.size := by obtain ⟨m, hm⟩ := k1; exact DataW.trod_lt m _ _ _ hm
 obtain ⟨x1, rd1, lx1⟩ := open_bytes Tryd.underlying24 Tryd.underlying5 (by kernel_rfl) (hval 1 24 v1 rfl rfl) h1
 have k2 := h2
 have lt2 : ∀ x ∈ p2, x.block < W.heap.size := by obtain ⟨m, hm⟩ := k2; exact DataW.trod_lt m _ _ _ hm
 obtain ⟨x2, rd2, lx2⟩ := open_bytes Tryd.underlying24 Tryd.underlying5 (by kernel_rfl) (hval 2 24 v2 rfl rfl) h2
 obtain ⟨hK, hG⟩ := le_of_laid hX
 clear hA0 hval0
 refine ((wEddsaVerifies x0 x1 x2 (tvOf W) lx0 lx1 lx2) W [v0, v1, v2] hK hG ⟨_, _, rfl, rd0, _, _, rfl, rd1, _, _, rfl, rd2, rfl⟩).2.mono fun e W' ⟨vs, he, hres, bel⟩ => ?_
 obtain ⟨_, _, rfl, rfl, rfl⟩ := hres
 subst he
 exact ⟨_, rfl, _, _, _, [], _, [], hW', trodAll_mk1 (shut_bool Tryd.underlying4 _), (trodAll_cons_mk (Below.trod laidOut (by kernel_rfl) (of_decide_eq_true (by kernel_rfl)) k0 bel lt0) (trodAll_cons_mk (Below.trod laidOut (by kernel_rfl) (of_decide_eq_true (by kernel_rfl)) k1 bel lt1) (trodAll_cons_mk (Below.trod laidOut (by kernel_rfl) (of_decide_eq_true (by kernel_rfl)) k2 bel lt2) trodAll_mk0))), rfl, bel.frame _, fun h => by cases h⟩
theorem row : Rows.EddsaVerifiesSaid :=
 OpenClaim.holds_of_wide 7 Tryd.f7 rfl rfl rfl rfl rfl rfl rfl ⟨rfl, rfl, rfl, rfl, rfl⟩ rfl rfl rfl rfl rfl (by kernel_rfl) Tryd.func7 (by kernel_rfl)
  (of_decide_eq_true (by kernel_rfl)) (by unfold Func.isWrapper; first | (rw [if_pos (by decide +kernel)]; kernel_rfl) | (rw [if_neg (by decide +kernel)]; exact ⟨rfl, rfl⟩))
  (fun os started H enc _ => lifted os started H enc)
theorem holds : Rows.EddsaVerifiesCardSaid :=
 Claim7.holds_tied_plain_at .later [] [.data, .data, .data, .data, .data, .data, .data, .data] true (true, "a450fd80f72fce861973d2998f6a70346d8bc6d8f50c82a483f353232726367d") false
  row (fun _ h => by cases h) (by kernel_rfl) (fun _ h => by cases h) eddsaVerifies_row_tie rfl ⟨rfl, rfl⟩ (by kernel_rfl) rfl
  (fun f fn hf hfn => by
   obtain rfl : f = 7 := Option.some.inj ((show Tryd.prog.funcNamed "chronicle/chroniclelaw12.EddsaVerifies" = some 7 by kernel_rfl).symm.trans hf) |>.symm
   obtain rfl : fn = Tryd.f7 := (Option.some.inj (Tryd.func7.symm.trans hfn)).symm
   exact ⟨by kernel_rfl, fun j t ht => by
    rw [Tryd.params7] at ht
    have hm : t ∈ [24, 24, 24] := by simpa using Array.mem_of_getElem? ht
    have hall : ([24, 24, 24].all fun u => !Tryd.prog.wantsStandIn u) = true := by kernel_rfl
    exact (show Tryd.prog.wantsStandIn t = false by simpa using List.all_eq_true.1 hall t hm)⟩)
  (by kernel_rfl)
#print axioms holds
end Go.Proofs.YtkckmpnkacdchaaDoor.eddsaVerifies
