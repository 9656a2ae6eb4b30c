/- EddsaSigns, run. -/
import Derived.Test.YtkckmpnkacdchaaDoorDsB
set_option linter.unusedVariables false
set_option linter.unusedSimpArgs false
set_option maxHeartbeats 4000000
namespace Go.Proofs.YtkckmpnkacdchaaDoor
open Go.RowKit Go.Num Go.Sx
abbrev JM0 : A := .agg [.int .u8 (.var 0), .int .u8 (.var 1), .int .u8 (.var 2), .int .u8 (.var 3), .int .u8 (.var 4), .int .u8 (.var 5), .int .u8 (.var 6), .int .u8 (.var 7), .int .u8 (.var 8), .int .u8 (.var 9), .int .u8 (.var 10), .int .u8 (.var 11), .int .u8 (.var 12), .int .u8 (.var 13), .int .u8 (.var 14), .int .u8 (.var 15), .int .u8 (.var 16), .int .u8 (.var 17), .int .u8 (.var 18), .int .u8 (.var 19), .int .u8 (.var 20), .int .u8 (.var 21), .int .u8 (.var 22), .int .u8 (.var 23), .int .u8 (.var 24), .int .u8 (.var 25), .int .u8 (.var 26), .int .u8 (.var 27), .int .u8 (.var 28), .int .u8 (.var 29), .int .u8 (.var 30), .int .u8 (.var 31)]
theorem zeros_bytes : IsBytes (List.replicate 32 (0 : Int)) := fun x hx => by rw [(List.mem_replicate.1 hx).2]; exact ⟨by decide, by decide⟩
theorem sign0_g (Z : TZ) {g : List Int} (hg : g = sigL (List.replicate 32 0) []) : CallS Tryd.prog (LZ Z) 9 [.val (.agg #[.int .u8 (0 : Int), .int .u8 (0 : Int), .int .u8 (0 : Int), .int .u8 (0 : Int), .int .u8 (0 : Int), .int .u8 (0 : Int), .int .u8 (0 : Int), .int .u8 (0 : Int), .int .u8 (0 : Int), .int .u8 (0 : Int), .int .u8 (0 : Int), .int .u8 (0 : Int), .int .u8 (0 : Int), .int .u8 (0 : Int), .int .u8 (0 : Int), .int .u8 (0 : Int), .int .u8 (0 : Int), .int .u8 (0 : Int), .int .u8 (0 : Int), .int .u8 (0 : Int), .int .u8 (0 : Int), .int .u8 (0 : Int), .int .u8 (0 : Int), .int .u8 (0 : Int), .int .u8 (0 : Int), .int .u8 (0 : Int), .int .u8 (0 : Int), .int .u8 (0 : Int), .int .u8 (0 : Int), .int .u8 (0 : Int), .int .u8 (0 : Int), .int .u8 (0 : Int)]), .val (.slice none 0 0)] [.fresh 5 g 0 g.length true] := by
  refine CallS.weak (sign_g Z (List.replicate 32 0) [] (by rfl) zeros_bytes IsBytes.nil (by decide) hg) ?_
  rintro w us ⟨u1, t1, e1, h1, u2, t2, e2, h2, e3⟩
  exact ⟨u1, t1, e1, h1, u2, t2, e2, (show Reads w u2 [] by rw [show u2 = _ from h2]; exact reads_nil w), e3⟩
theorem awake12_run  (Z : TZ) (g : List Int) (hg : g = sigL (List.replicate 32 0) []) (w : World) (hK : (LZ Z).K ≤ w.heap.size) (hG : (LZ Z).G w) : Calls Tryd.prog 8 #[] w fun e w' => e = .returned (.bool true) ∧ Below w.heap.size w w' := by
  have hgl : g.length = 64 := by rw [hg]; exact sig_length _ _
  have hrun := calls_of_runG (P := Tryd.prog) (v := ⟨envI [], envB [], envL [g], envP [], LZ Z, w⟩) (gs := []) (fuel := 3000) (nv := 0) (args := []) (ora := []) (sums := []) (res := [(.sc (.bool (.cmp .eql (.len (.lvar 0)) (.lit 64))))]) (ev := [.callS 9 [(.val (.agg [.int .u8 (.lit 0), .int .u8 (.lit 0), .int .u8 (.lit 0), .int .u8 (.lit 0), .int .u8 (.lit 0), .int .u8 (.lit 0), .int .u8 (.lit 0), .int .u8 (.lit 0), .int .u8 (.lit 0), .int .u8 (.lit 0), .int .u8 (.lit 0), .int .u8 (.lit 0), .int .u8 (.lit 0), .int .u8 (.lit 0), .int .u8 (.lit 0), .int .u8 (.lit 0), .int .u8 (.lit 0), .int .u8 (.lit 0), .int .u8 (.lit 0), .int .u8 (.lit 0), .int .u8 (.lit 0), .int .u8 (.lit 0), .int .u8 (.lit 0), .int .u8 (.lit 0), .int .u8 (.lit 0), .int .u8 (.lit 0), .int .u8 (.lit 0), .int .u8 (.lit 0), .int .u8 (.lit 0), .int .u8 (.lit 0), .int .u8 (.lit 0), .int .u8 (.lit 0)])), (.val .nils)] [(.fresh 5 (.lvar 0) (.lit 0) (.len (.lvar 0)) true)]]) (lev := []) Tryd.func8 (by kernel_rfl) (by kernel_rfl)
    (evs_of ⟨?_, trivial⟩) (by simp) (GsOk.nil _) hK hG
  · (refine hrun.mono fun e w' h => ⟨h.1.trans (congrArg (fun z => Ending.returned (Value.bool z)) (show (((g.length : Nat) : Int) == (64 : Int)) = true from ?_)), h.2⟩; rw [hgl]; rfl)
  · exact sign0_g Z hg
theorem awake12_g (Z : TZ) : CallG Tryd.prog (LZ Z) 8 #[] (.bool true) :=
  callG_of Tryd.func8 (by kernel_rfl) (by kernel_rfl) (fun w hK hG => awake12_run Z _ rfl w hK hG)
theorem sameq_s {l l' m m' : List Int} (e : l' = l) (e2 : m' = m) (h : l' = m') (hl : l'.length ≤ 1099511627776) : CallS Tryd.prog L0 12 [.bytes l, .bytes m] [.val (.bool true)] := by
  subst e e2
  exact same_s _ _ hl (by simp [h])
theorem signs_long (s : List Int) (m : List Int) (Z : TZ) (hl : ¬ m.length ≤ 300) : CallS Tryd.prog (LZ Z) 5 [.val (.agg ((List.range 32).map fun i => Value.int .u8 (s.getD i 0)).toArray), .bytes m] [.val (.bool true)] := by
  refine callS_of Tryd.func5 (by kernel_rfl) (by kernel_rfl) (fun w us hK hG ha => ?_)
  obtain ⟨_, _, rfl, rfl, u1, _, rfl, hu1, rfl⟩ := ha
  have hrun := calls_of_runS (P := Tryd.prog) (v := ⟨envS [(32, s)], fun n => ([true, true] : List Bool).getD (n - 33) false, fun n => ([m] : List (List Int)).getD (n - 32) [], fun n => ([] : List (List (List Int))).getD n [], LZ Z, w⟩) (gs := []) (fuel := 3000) (nv := 33) (args := [JM0, (.imm (.lvar 32) none)]) (ora := [some true, some true, none]) (sums := []) (r := ⟨[(.val (.sc (.bool (.var 34))))], [.call 8 [] (.one (.sc (.bool (.var 33)))), .dec (.var 33) true, .dec (.cmp .gtr (.len (.lvar 32)) (.lit 300)) true, .call 8 [] (.one (.sc (.bool (.var 34))))], []⟩) Tryd.func5 (by kernel_rfl)
    (evs_of ⟨?_, ?_, ?_, ?_, trivial⟩) (by simp) (GsOk.nil _) hK hG _ (⟨_, _, rfl, rfl, u1, _, rfl, ⟨hu1, fun b hb => by cases hb⟩, rfl⟩)
  · exact runS_eq hrun (by rfl)
  · exact awake12_g Z
  · simp [Ev.holds, Bx.den, cmpD, I.den, I.ldn, envI, envB, envL, envP] <;> omega
  · exact dec_gt_t (a := m.length) (b := 300) rfl rfl (by omega)
  · exact awake12_g Z
theorem signs_run (s : List Int) (m : List Int) (Z : TZ) (hs : s.length = 32) (hb : IsBytes s) (hm : IsBytes m) (hml : m.length ≤ 300) (P Q : List Int) (hP : P = pubL s) (hQ : Q = pubL s) (hP3 : P.length = 32) (g1 g2 : List Int) (h1 : g1 = sigL s m) (h2 : g2 = sigL s m) : CallS Tryd.prog (LZ Z) 5 [.val (.agg ((List.range 32).map fun i => Value.int .u8 (s.getD i 0)).toArray), .bytes m] [.val (.bool true)] := by
  refine callS_of Tryd.func5 (by kernel_rfl) (by kernel_rfl) (fun w us hK hG ha => ?_)
  obtain ⟨_, _, rfl, rfl, u1, _, rfl, hu1, rfl⟩ := ha
  have hrun := calls_of_runS (P := Tryd.prog) (v := ⟨envS [(32, s), (2, [0, 0]), (32, P)], fun n => ([true, false, false, false, false, false, false, false, false, false, false, false, false, false, false, false, false, false, false, false, false, false, false, false, false, false, false, false, false, false, false, false, false, false, true, false, false, true] : List Bool).getD (n - 33) false, fun n => ([m, [], [], [], [], [], [], [], [], [], [], [], [], [], [], [], [], [], [], [], [], [], [], [], [], [], [], [], [], [], [], [], [], [], Q, [], g1, g2] : List (List Int)).getD (n - 32) [], fun n => ([] : List (List (List Int))).getD n [], LZ Z, w⟩) (gs := []) (fuel := 3000) (nv := 33) (args := [JM0, (.imm (.lvar 32) none)]) (ora := [some true, some false, some true]) (sums := []) (r := ⟨[(.val (.sc (.bool (.var 70))))], [.call 8 [] (.one (.sc (.bool (.var 33)))), .dec (.var 33) true, .dec (.cmp .gtr (.len (.lvar 32)) (.lit 300)) false, .call 10 [JM0] (.one (.agg [.int .u8 (.var 34), .int .u8 (.var 35), .int .u8 (.var 36), .int .u8 (.var 37), .int .u8 (.var 38), .int .u8 (.var 39), .int .u8 (.var 40), .int .u8 (.var 41), .int .u8 (.var 42), .int .u8 (.var 43), .int .u8 (.var 44), .int .u8 (.var 45), .int .u8 (.var 46), .int .u8 (.var 47), .int .u8 (.var 48), .int .u8 (.var 49), .int .u8 (.var 50), .int .u8 (.var 51), .int .u8 (.var 52), .int .u8 (.var 53), .int .u8 (.var 54), .int .u8 (.var 55), .int .u8 (.var 56), .int .u8 (.var 57), .int .u8 (.var 58), .int .u8 (.var 59), .int .u8 (.var 60), .int .u8 (.var 61), .int .u8 (.var 62), .int .u8 (.var 63), .int .u8 (.var 64), .int .u8 (.var 65)])), .callS 16 [(.val JM0)] [(.fresh 5 (.lvar 66) (.lit 0) (.len (.lvar 66)) true)], .callS 12 [(.bytes (.cons (.var 34) (.cons (.var 35) (.cons (.var 36) (.cons (.var 37) (.cons (.var 38) (.cons (.var 39) (.cons (.var 40) (.cons (.var 41) (.cons (.var 42) (.cons (.var 43) (.cons (.var 44) (.cons (.var 45) (.cons (.var 46) (.cons (.var 47) (.cons (.var 48) (.cons (.var 49) (.cons (.var 50) (.cons (.var 51) (.cons (.var 52) (.cons (.var 53) (.cons (.var 54) (.cons (.var 55) (.cons (.var 56) (.cons (.var 57) (.cons (.var 58) (.cons (.var 59) (.cons (.var 60) (.cons (.var 61) (.cons (.var 62) (.cons (.var 63) (.cons (.var 64) (.cons (.var 65) .nil))))))))))))))))))))))))))))))))), (.bytes (.lvar 66))] [(.val (.sc (.bool (.var 67))))], .dec (.var 67) true, .callS 9 [(.val JM0), (.bytes (.lvar 32))] [(.fresh 5 (.lvar 68) (.lit 0) (.len (.lvar 68)) true)], .callS 17 [(.val JM0), (.bytes (.lvar 32))] [(.fresh 5 (.lvar 69) (.lit 0) (.len (.lvar 69)) true)], .callS 12 [(.bytes (.lvar 68)), (.bytes (.lvar 69))] [(.val (.sc (.bool (.var 70))))]], []⟩) Tryd.func5 (by kernel_rfl)
    (evs_of ⟨?_, ?_, ?_, ?_, ?_, ?_, ?_, ?_, ?_, ?_, trivial⟩) (by simp) (GsOk.nil _) hK hG _ (⟨_, _, rfl, rfl, u1, _, rfl, ⟨hu1, fun b hb => by cases hb⟩, rfl⟩)
  · exact runS_eq hrun (by rfl)
  · exact awake12_g Z
  · simp [Ev.holds, Bx.den, cmpD, I.den, I.ldn, envI, envB, envL, envP] <;> omega
  · exact dec_gt_f (a := m.length) (b := 300) rfl rfl (by omega)
  · exact public_g Z s hs hb hP
  · exact rpublic_g Z s hs hb hQ
  · exact CallS.g (sameq_s (l' := P) (m' := Q) (list32' hP3).symm rfl (hP.trans hQ.symm) (by omega))
  · simp [Ev.holds, Bx.den, cmpD, I.den, I.ldn, envI, envB, envL, envP] <;> omega
  · exact sign_g Z s m hs hb hm hml h1
  · exact rsign_g Z s m hs hb hm hml h2
  · exact CallS.g (sameq_s (l' := g1) (m' := g2) rfl rfl (h1.trans h2.symm) (by rw [h1, sig_length]; decide))
theorem wEddsaSigns (s m : List Int) (Z : TZ) (hs : s.length = 32 ∧ IsBytes s) (hm : IsBytes m) : CallS Tryd.prog (LZ Z) 5 [.val (.agg ((List.range 32).map fun i => Value.int .u8 (s.getD i 0)).toArray), .bytes m] [.val (.bool true)] := by
  by_cases hl : m.length ≤ 300
  · exact signs_run s m Z hs.1 hs.2 hm hl _ _ rfl rfl (pub_length s) _ _ rfl rfl
  · exact signs_long s m Z hl
end Go.Proofs.YtkckmpnkacdchaaDoor
