/- Small words about symbolic runs. -/
import Derived.Test.YtijnfclocanhkaaDoorSx9
set_option linter.unusedVariables false
set_option linter.unusedSimpArgs false
namespace Go.Sx
open Go Go.RowKit

def allHold (P : Program) (v : Env) : List Ev → Prop
  | [] => True
  | e :: l => e.holds P v ∧ allHold P v l

theorem evs_of {P : Program} {v : Env} : ∀ {l : List Ev}, allHold P v l → ∀ e ∈ l, e.holds P v
  | [], _ => by simp
  | e :: l, h => by
    intro e' he
    rcases List.mem_cons.1 he with rfl | he
    · exact h.1
    · exact evs_of h.2 e' he

/-- a contract out of another by equal values -/
theorem calls_eq {P : Program} {f : FuncId} {args : Array Value} {w : World} {u u' : Value} (h : Calls P f args w fun e w' => e = .returned u ∧ Below w.heap.size w w') (hu : u = u') :
    Calls P f args w fun e w' => e = .returned u' ∧ Below w.heap.size w w' := by rw [← hu]; exact h

end Go.Sx
