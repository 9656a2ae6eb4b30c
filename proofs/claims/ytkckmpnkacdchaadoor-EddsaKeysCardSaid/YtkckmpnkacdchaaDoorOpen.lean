/- Arguments that are arrays of limbs, opened: the value is that of a number. -/
import Derived.Test.YtkckmpnkacdchaaDoorCalls
import Derived.ProofKit
import Derived.OpenShut
set_option linter.unusedVariables false
set_option linter.unusedSimpArgs false
namespace Go.Num
open Go.RowKit
section
variable {H : Type} {enc : TypeId × Value → H} {P : Program} {w : World} {base : Nat} {spare : Nat → Bool} {held : Bool}
/-- cell i of an array of one-cell integers -/
theorem trod_cell {t e : TypeId} {n fuel : Nat} {k : IntKind} {cs : List Value} {x : DataW H × List MemPlace} (hu : P.underlying t = some (.array n e)) (he : P.underlying e = some (.int k)) (hc : P.cellsOf e = 1)
    (h : DataW.trod enc P w base spare held fuel t cs = some x) (i : Nat) (hi : i < n) : ∃ m, cs[i]? = some (.int k m) ∧ (Lit.int k m).wf = true := by
  obtain ⟨xs, m, rfl, _, hl, hn, hf⟩ := DataW.trod_array hu h
  have hfi := hf i hi
  rw [hc, Nat.mul_one, List.getElem?_eq_getElem (by omega)] at hfi
  obtain ⟨v, hv, _, wf⟩ := DataW.trod_int he hfi
  refine ⟨v, ?_, wf⟩
  have hd : ((cs.drop i).take 1)[0]? = some (.int k v) := by rw [hv]; rfl
  simpa using hd
theorem agg_of_cells {v : Value} {n : Nat} (h : v.cells.toList.length = n) (hn : 2 ≤ n) : v = .agg v.cells := by
  cases v <;> simp [Value.cells] at h ⊢ <;> omega
end
end Go.Num
