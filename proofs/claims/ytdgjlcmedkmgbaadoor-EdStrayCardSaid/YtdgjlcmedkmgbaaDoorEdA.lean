/- Is the program awake? -/
import Derived.Test.YtdgjlcmedkmgbaaDoorEdF
set_option linter.unusedVariables false
set_option linter.unusedSimpArgs false
namespace Go.Proofs.YtdgjlcmedkmgbaaDoor
open Go.RowKit Go.Num Go.Sx
theorem base_val : Ed.base.x.val = Ed.bx ∧ Ed.base.y.val = Ed.bY := by
  constructor
  · show (Ed.phi Ed.bx).val = Ed.bx
    rw [Ed.phi_val]
    exact Nat.mod_eq_of_lt (by decide +kernel)
  · show (Ed.phi Ed.bY).val = Ed.bY
    rw [Ed.phi_val]
    exact Nat.mod_eq_of_lt (by decide +kernel)
set_option maxHeartbeats 4000000 in
theorem awake09_run  (Ts : TV) (w : World) (hK : (LE Ts).K ≤ w.heap.size) (hG : (LE Ts).G w) : Calls Tryd.prog 11 #[] w fun e w' => e = .returned (.bool true) ∧ Below w.heap.size w w' := by
  obtain ⟨U1, V1, hU1, hV1⟩ : ∃ U V : Nat, U = (Ed.base).x.val ∧ V = (Ed.base).y.val := ⟨_, _, rfl, rfl⟩
  have P1 : ptOf U1 V1 false = Ed.base := by rw [hU1, hV1]; exact ptOf_pt _
  have bU1 : U1 < N := by rw [hU1]; exact Nat.lt_trans (Fin.isLt _) PN
  have bV1 : V1 < N := by rw [hV1]; exact Nat.lt_trans (Fin.isLt _) PN
  obtain ⟨r1, hr1⟩ : ∃ r : Bool, r = formedB U1 V1 false := ⟨_, rfl⟩
  obtain ⟨U2, V2, hU2, hV2⟩ : ∃ U V : Nat, U = (Ed.base).x.val ∧ V = (Ed.base).y.val := ⟨_, _, rfl, rfl⟩
  have P2 : ptOf U2 V2 false = Ed.base := by rw [hU2, hV2]; exact ptOf_pt _
  have bU2 : U2 < N := by rw [hU2]; exact Nat.lt_trans (Fin.isLt _) PN
  have bV2 : V2 < N := by rw [hV2]; exact Nat.lt_trans (Fin.isLt _) PN
  obtain ⟨U3, V3, hU3, hV3⟩ : ∃ U V : Nat, U = (Ed.base).x.val ∧ V = (Ed.base).y.val := ⟨_, _, rfl, rfl⟩
  have P3 : ptOf U3 V3 false = Ed.base := by rw [hU3, hV3]; exact ptOf_pt _
  have bU3 : U3 < N := by rw [hU3]; exact Nat.lt_trans (Fin.isLt _) PN
  have bV3 : V3 < N := by rw [hV3]; exact Nat.lt_trans (Fin.isLt _) PN
  have e1 : r1 = true := by rw [hr1, hU1, hV1]; exact pt_formed _
  have eX : U2 = U3 := by rw [hU2, hU3]
  have eY : V2 = V3 := by rw [hV2, hV3]
  have hrun := calls_of_runG (P := Tryd.prog) (v := ⟨envI [((lm U1 0 : Nat) : Int), ((lm U1 1 : Nat) : Int), ((lm U1 2 : Nat) : Int), ((lm U1 3 : Nat) : Int), ((lm V1 0 : Nat) : Int), ((lm V1 1 : Nat) : Int), ((lm V1 2 : Nat) : Int), ((lm V1 3 : Nat) : Int), 0, 0, ((lm U2 0 : Nat) : Int), ((lm U2 1 : Nat) : Int), ((lm U2 2 : Nat) : Int), ((lm U2 3 : Nat) : Int), ((lm V2 0 : Nat) : Int), ((lm V2 1 : Nat) : Int), ((lm V2 2 : Nat) : Int), ((lm V2 3 : Nat) : Int), 0, ((lm U3 0 : Nat) : Int), ((lm U3 1 : Nat) : Int), ((lm U3 2 : Nat) : Int), ((lm U3 3 : Nat) : Int), ((lm V3 0 : Nat) : Int), ((lm V3 1 : Nat) : Int), ((lm V3 2 : Nat) : Int), ((lm V3 3 : Nat) : Int)], envB [false, false, false, false, false, false, false, false, false, r1, false, false, false, false, false, false, false, false, false, false, false, false, false, false, false, false, false, false], envL [], envP [], LE Ts, w⟩) (gs := []) (fuel := 3000) (nv := 0) (args := []) (ora := [none, some true, none, none]) (sums := []) (res := [(.sc (.bool (.and (.and (.cmp .eql (.var 10) (.var 19)) (.and (.cmp .eql (.var 11) (.var 20)) (.and (.cmp .eql (.var 12) (.var 21)) (.cmp .eql (.var 13) (.var 22))))) (.and (.and (.cmp .eql (.var 14) (.var 23)) (.and (.cmp .eql (.var 15) (.var 24)) (.and (.cmp .eql (.var 16) (.var 25)) (.cmp .eql (.var 17) (.var 26))))) (.beq (.var 18) (.var 27))))))]) (ev := [.call 18 [] (.one (.agg [.v 0, .v 1, .v 2, .v 3, .v 4, .v 5, .v 6, .v 7, .bool (.var 8)])), .call 12 [(.agg [.v 0, .v 1, .v 2, .v 3, .v 4, .v 5, .v 6, .v 7, .bool (.var 8)])] (.one (.sc (.bool (.var 9)))), .dec (.var 9) true, .call 18 [] (.one (.agg [.v 10, .v 11, .v 12, .v 13, .v 14, .v 15, .v 16, .v 17, .bool (.var 18)])), .call 30 [] (.one (.agg [.v 19, .v 20, .v 21, .v 22, .v 23, .v 24, .v 25, .v 26, .bool (.var 27)]))]) (lev := []) Tryd.func11 (by kernel_rfl) (by kernel_rfl)
    (evs_of ⟨?_, ?_, ?_, ?_, ?_, trivial⟩) (by simp) (GsOk.nil _) hK hG
  · (refine hrun.mono fun e w' h => ⟨h.1.trans (congrArg (fun z => Ending.returned (Value.bool z)) (show (((((lm U2 0 : Nat) : Int) == ((lm U3 0 : Nat) : Int)) && ((((lm U2 1 : Nat) : Int) == ((lm U3 1 : Nat) : Int)) && ((((lm U2 2 : Nat) : Int) == ((lm U3 2 : Nat) : Int)) && (((lm U2 3 : Nat) : Int) == ((lm U3 3 : Nat) : Int))))) && (((((lm V2 0 : Nat) : Int) == ((lm V3 0 : Nat) : Int)) && ((((lm V2 1 : Nat) : Int) == ((lm V3 1 : Nat) : Int)) && ((((lm V2 2 : Nat) : Int) == ((lm V3 2 : Nat) : Int)) && (((lm V2 3 : Nat) : Int) == ((lm V3 3 : Nat) : Int))))) && (false == false))) = true from ?_)), h.2⟩; simp [eX, eY])
  · exact CallP.g (ebase_c (by rw [hU1]; exact base_val.1) (by rw [hV1]; exact base_val.2))
  · exact eformed_g Ts U1 V1 false (by first | assumption | decide) (by first | assumption | decide) hr1
  · (show r1 = true; exact e1)
  · exact CallP.g (ebase_c (by rw [hU2]; exact base_val.1) (by rw [hV2]; exact base_val.2))
  · exact CallP.g (rbase_c (by rw [hU3]; exact base_val.1) (by rw [hV3]; exact base_val.2))
theorem awake09_g (Ts : TV) : CallG Tryd.prog (LE Ts) 11 #[] (.bool true) := callG_of Tryd.func11 (by kernel_rfl) (by kernel_rfl) (fun w hK hG => awake09_run Ts w hK hG)
end Go.Proofs.YtdgjlcmedkmgbaaDoor
