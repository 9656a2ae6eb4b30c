/- Is the program awake? -/
import Derived.Test.YtdbfhipnhnhkjaaDoorShaS
set_option linter.unusedVariables false
set_option linter.unusedSimpArgs false
namespace Go.Proofs.YtdbfhipnhnhkjaaDoor
open Go.RowKit Go.Num Go.Sx

theorem flat_bytes {ps : List (List Int)} (h : ∀ p ∈ ps, IsBytes p) : IsBytes ps.flatten := fun x hx => by
  obtain ⟨p, hp, hx⟩ := List.mem_flatten.1 hx
  exact h p hp x hx
theorem arr64_eq {H : List Int} (h : H.length = 64) : (.agg (H.map (Value.int .u8)).toArray : Value) = .agg ((List.range 64).map fun i => Value.int .u8 (H.getD i 0)).toArray := by
  conv => lhs; rw [Sha.list64 h]
  rw [List.map_map]
  rfl

theorem ssum64_g (Ts : TS) (ps : List (List Int)) (hb : IsBytes ps.flatten) (hl : ps.flatten.length ≤ 549755813888) (hp : ps.length ≤ 1099511627776) {H : List Int} (hH : H = Sha.sum ps.flatten) : CallS Tryd.prog (LS Ts) 8 [.parts ps] [.val (.agg ((List.range 64).map fun i => Value.int .u8 (H.getD i 0)).toArray)] := by
  have h := ssum_g Ts ps hb hl hp hH
  rw [show arrC H = _ from arr64_eq (H := H) (by rw [hH]; exact Sha.sum_length _)] at h
  exact h

theorem ssumq_g (Ts : TS) {ps p : List (List Int)} (e : p = ps) (hb : IsBytes p.flatten) (hl : p.flatten.length ≤ 549755813888) (hp : p.length ≤ 1099511627776) {H : List Int} (hH : H = Sha.sum p.flatten) : CallS Tryd.prog (LS Ts) 8 [.parts ps] [.val (.agg ((List.range 64).map fun i => Value.int .u8 (H.getD i 0)).toArray)] := by
  subst e
  exact ssum64_g Ts p hb hl hp hH

set_option maxHeartbeats 4000000 in
theorem awake06_run  (Ts : TS) (H : List Int) (hH : H = Sha.sum [97, 98, 99]) (g0 : H.getD 0 0 = 221) (g1 : H.getD 1 0 = 175) (g2 : H.getD 2 0 = 53) (g3 : H.getD 3 0 = 161) (w : World) (hK : (LS Ts).K ≤ w.heap.size) (hG : (LS Ts).G w) : Calls Tryd.prog 7 #[] w fun e w' => e = .returned (.bool true) ∧ Below w.heap.size w w' := by
  have hrun := calls_of_runG (P := Tryd.prog) (v := ⟨envS [(64, H)], fun n => ([] : List Bool).getD n false, fun n => ([] : List (List Int)).getD n [], fun n => ([] : List (List (List Int))).getD n [], LS Ts, w⟩) (gs := []) (fuel := 3000) (nv := 0) (args := []) (ora := []) (sums := []) (res := [(.sc (.bool (.ite (.ite (.ite (.cmp .eql (.var 0) (.lit 221)) (.cmp .eql (.var 1) (.lit 175)) (.lit false)) (.cmp .eql (.var 2) (.lit 53)) (.lit false)) (.cmp .eql (.var 3) (.lit 161)) (.lit false))))]) (ev := [.callS 8 [(.parts [(.cons (.lit 97) (.cons (.lit 98) (.cons (.lit 99) .nil)))])] [(.val (.agg [.int .u8 (.var 0), .int .u8 (.var 1), .int .u8 (.var 2), .int .u8 (.var 3), .int .u8 (.var 4), .int .u8 (.var 5), .int .u8 (.var 6), .int .u8 (.var 7), .int .u8 (.var 8), .int .u8 (.var 9), .int .u8 (.var 10), .int .u8 (.var 11), .int .u8 (.var 12), .int .u8 (.var 13), .int .u8 (.var 14), .int .u8 (.var 15), .int .u8 (.var 16), .int .u8 (.var 17), .int .u8 (.var 18), .int .u8 (.var 19), .int .u8 (.var 20), .int .u8 (.var 21), .int .u8 (.var 22), .int .u8 (.var 23), .int .u8 (.var 24), .int .u8 (.var 25), .int .u8 (.var 26), .int .u8 (.var 27), .int .u8 (.var 28), .int .u8 (.var 29), .int .u8 (.var 30), .int .u8 (.var 31), .int .u8 (.var 32), .int .u8 (.var 33), .int .u8 (.var 34), .int .u8 (.var 35), .int .u8 (.var 36), .int .u8 (.var 37), .int .u8 (.var 38), .int .u8 (.var 39), .int .u8 (.var 40), .int .u8 (.var 41), .int .u8 (.var 42), .int .u8 (.var 43), .int .u8 (.var 44), .int .u8 (.var 45), .int .u8 (.var 46), .int .u8 (.var 47), .int .u8 (.var 48), .int .u8 (.var 49), .int .u8 (.var 50), .int .u8 (.var 51), .int .u8 (.var 52), .int .u8 (.var 53), .int .u8 (.var 54), .int .u8 (.var 55), .int .u8 (.var 56), .int .u8 (.var 57), .int .u8 (.var 58), .int .u8 (.var 59), .int .u8 (.var 60), .int .u8 (.var 61), .int .u8 (.var 62), .int .u8 (.var 63)]))]]) (lev := []) Tryd.func7 (by kernel_rfl) (by kernel_rfl)
    (evs_of ⟨?_, trivial⟩) (by simp) (GsOk.nil _) hK hG
  · (refine hrun.mono fun e w' h => ⟨h.1.trans (congrArg (fun z => Ending.returned (Value.bool z)) (show (if (if (if ((H.getD 0 0) == (221 : Int)) = true then ((H.getD 1 0) == (175 : Int)) else false) = true then ((H.getD 2 0) == (53 : Int)) else false) = true then ((H.getD 3 0) == (161 : Int)) else false) = true from ?_)), h.2⟩; rw [g0, g1, g2, g3]; rfl)
  · exact ssum64_g Ts [[97, 98, 99]] (show IsBytes [97, 98, 99] from IsBytes.cons ⟨by decide, by decide⟩ (IsBytes.cons ⟨by decide, by decide⟩ (IsBytes.cons ⟨by decide, by decide⟩ IsBytes.nil))) (by decide) (by decide) hH

theorem awake06_g (Ts : TS) : CallG Tryd.prog (LS Ts) 7 #[] (.bool true) :=
  callG_of Tryd.func7 (by kernel_rfl) (by kernel_rfl) (fun w hK hG => awake06_run Ts _ rfl Sha.sum_abc.1 Sha.sum_abc.2.1 Sha.sum_abc.2.2.1 Sha.sum_abc.2.2.2 w hK hG)

end Go.Proofs.YtdbfhipnhnhkjaaDoor
