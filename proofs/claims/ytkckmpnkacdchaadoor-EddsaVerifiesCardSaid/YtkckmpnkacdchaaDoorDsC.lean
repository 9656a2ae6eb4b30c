/- EddsaSigns, run. -/
import Derived.Test.YtkckmpnkacdchaaDoorDsB
set_option linter.unusedVariables false
set_option linter.unusedSimpArgs false
set_option maxHeartbeats 4000000
namespace Go.Proofs.YtkckmpnkacdchaaDoor
open Go.RowKit Go.Num Go.Sx
theorem zeros_bytes : IsBytes (List.replicate 32 (0 : Int)) := fun x hx => by rw [(List.mem_replicate.1 hx).2]; exact ⟨by decide, by decide⟩
theorem sign0_g (Z : TZ) {g : List Int} (hg : g = sigL (List.replicate 32 0) []) : CallS Tryd.prog (LZ Z) 9 [.val (.agg #[.int .u8 (0 : Int), .int .u8 (0 : Int), .int .u8 (0 : Int), .int .u8 (0 : Int), .int .u8 (0 : Int), .int .u8 (0 : Int), .int .u8 (0 : Int), .int .u8 (0 : Int), .int .u8 (0 : Int), .int .u8 (0 : Int), .int .u8 (0 : Int), .int .u8 (0 : Int), .int .u8 (0 : Int), .int .u8 (0 : Int), .int .u8 (0 : Int), .int .u8 (0 : Int), .int .u8 (0 : Int), .int .u8 (0 : Int), .int .u8 (0 : Int), .int .u8 (0 : Int), .int .u8 (0 : Int), .int .u8 (0 : Int), .int .u8 (0 : Int), .int .u8 (0 : Int), .int .u8 (0 : Int), .int .u8 (0 : Int), .int .u8 (0 : Int), .int .u8 (0 : Int), .int .u8 (0 : Int), .int .u8 (0 : Int), .int .u8 (0 : Int), .int .u8 (0 : Int)]), .val (.slice none 0 0)] [.fresh 5 g 0 g.length true] := by
 refine CallS.weak (sign_g Z (List.replicate 32 0) [] (by rfl) zeros_bytes IsBytes.nil (by decide) hg) ?_
 rintro w us ⟨u1, t1, e1, h1, u2, t2, e2, h2, e3⟩
 exact ⟨u1, t1, e1, h1, u2, t2, e2, (show Reads w u2 [] by rw [show u2 = _ from h2]; exact reads_nil w), e3⟩
theorem awake12_run  (Z : TZ) (g : List Int) (hg : g = sigL (List.replicate 32 0) []) (w : World) (hK : (LZ Z).K ≤ w.heap.size) (hG : (LZ Z).G w) : Calls Tryd.prog 8 #[] w fun e w' => e = .returned (.bool true) ∧ Below w.heap.size w w' := by
 have hgl : g.length = 64 := by rw [hg]; exact sig_length _ _
 have hrun := calls_of_runG (P := Tryd.prog) (v := ⟨envI [], envB [], envL [g], envP [], LZ Z, w⟩) (gs := []) (fuel := 3000) (nv := 0) (args := []) (ora := []) (sums := []) (res := [(.sc (.bool (.cmp .eql (.len (.lvar 0)) (.lit 64))))]) (ev := [.callS 9 [(.val (.agg [.int .u8 (.lit 0), .int .u8 (.lit 0), .int .u8 (.lit 0), .int .u8 (.lit 0), .int .u8 (.lit 0), .int .u8 (.lit 0), .int .u8 (.lit 0), .int .u8 (.lit 0), .int .u8 (.lit 0), .int .u8 (.lit 0), .int .u8 (.lit 0), .int .u8 (.lit 0), .int .u8 (.lit 0), .int .u8 (.lit 0), .int .u8 (.lit 0), .int .u8 (.lit 0), .int .u8 (.lit 0), .int .u8 (.lit 0), .int .u8 (.lit 0), .int .u8 (.lit 0), .int .u8 (.lit 0), .int .u8 (.lit 0), .int .u8 (.lit 0), .int .u8 (.lit 0), .int .u8 (.lit 0), .int .u8 (.lit 0), .int .u8 (.lit 0), .int .u8 (.lit 0), .int .u8 (.lit 0), .int .u8 (.lit 0), .int .u8 (.lit 0), .int .u8 (.lit 0)])), (.val .nils)] [(.fresh 5 (.lvar 0) (.lit 0) (.len (.lvar 0)) true)]]) (lev := []) Tryd.func8 (by kernel_rfl) (by kernel_rfl)
  (evs_of ⟨?_, trivial⟩) (by simp) (GsOk.nil _) hK hG
 ·(refine hrun.mono fun e w' h => ⟨h.1.trans (congrArg (fun z => Ending.returned (Value.bool z)) (show (((g.length : Nat) : Int) == (64 : Int)) = true from ?_)), h.2⟩; rw [hgl]; rfl)
 ·exact sign0_g Z hg
theorem awake12_g (Z : TZ) : CallG Tryd.prog (LZ Z) 8 #[] (.bool true) :=
 callG_of Tryd.func8 (by kernel_rfl) (by kernel_rfl) (fun w hK hG => awake12_run Z _ rfl w hK hG)
end Go.Proofs.YtkckmpnkacdchaaDoor
