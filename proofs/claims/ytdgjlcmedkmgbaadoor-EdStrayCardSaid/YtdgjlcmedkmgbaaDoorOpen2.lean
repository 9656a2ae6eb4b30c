/- More arguments, opened: three numbers in a row, two small numbers, a wide number in two halves. -/
import Derived.Test.YtdgjlcmedkmgbaaDoorOpen
import Derived.Test.YtdgjlcmedkmgbaaDoorProg
set_option linter.unusedVariables false
set_option linter.unusedSimpArgs false
namespace Go.Proofs.YtdgjlcmedkmgbaaDoor
open Go.RowKit Go.Num
section
variable {H : Type} {enc : TypeId × Value → H} {w : World} {base : Nat} {spare : Nat → Bool} {held : Bool}
theorem list_nat {fuel : Nat} {cs : List Value} {x : DataW H × List MemPlace} (h : DataW.trod enc Tryd.prog w base spare held fuel 24 cs = some x) :
    ∃ x, x < N ∧ cs = [.int .u64 (lm x 0 : Nat), .int .u64 (lm x 1 : Nat), .int .u64 (lm x 2 : Nat), .int .u64 (lm x 3 : Nat)] := by
  obtain ⟨y, hy, e⟩ := open_nat (v := .agg cs.toArray) Tryd.underlying24 Tryd.underlying22 (by kernel_rfl) (by kernel_rfl) (⟨fuel, h⟩ : DataW.Trod enc Tryd.prog w base spare held 24 (.agg cs.toArray) x.1 x.2)
  refine ⟨y, hy, ?_⟩
  simp only [Value.agg.injEq] at e
  exact congrArg Array.toList e
end
end Go.Proofs.YtdgjlcmedkmgbaaDoor
