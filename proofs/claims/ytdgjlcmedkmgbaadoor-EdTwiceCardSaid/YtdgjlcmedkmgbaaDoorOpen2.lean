/- More arguments, opened: three numbers in a row, two small numbers, a wide number in two halves. -/
import Derived.Test.YtdgjlcmedkmgbaaDoorOpen
import Derived.Test.YtdgjlcmedkmgbaaDoorProg
set_option linter.unusedVariables false
set_option linter.unusedSimpArgs false
namespace Go.Proofs.YtdgjlcmedkmgbaaDoor
open Go.RowKit Go.Num

section
variable {H : Type} {enc : TypeId × Value → H} {w : World} {base : Nat} {spare : Nat → Bool} {held : Bool}
theorem list_nat {fuel : Nat} {cs : List Value} {x : DataW H × List MemPlace} (h : DataW.trod enc Tryd.prog w base spare held fuel 24 cs = some x) :
    ∃ x, x < N ∧ cs = [.int .u64 (lm x 0 : Nat), .int .u64 (lm x 1 : Nat), .int .u64 (lm x 2 : Nat), .int .u64 (lm x 3 : Nat)] := by
  obtain ⟨y, hy, e⟩ := open_nat (v := .agg cs.toArray) Tryd.underlying24 Tryd.underlying22 (by kernel_rfl) (by kernel_rfl) (⟨fuel, h⟩ : DataW.Trod enc Tryd.prog w base spare held 24 (.agg cs.toArray) x.1 x.2)
  refine ⟨y, hy, ?_⟩
  simp only [Value.agg.injEq] at e
  exact congrArg Array.toList e

theorem three_of (l : List Value) (hl : l.length = 12) {a0 a1 a2 a3 b0 b1 b2 b3 c0 c1 c2 c3 : Value} (h0 : (l.drop (0 * 4)).take 4 = [a0, a1, a2, a3]) (h1 : (l.drop (1 * 4)).take 4 = [b0, b1, b2, b3]) (h2 : (l.drop (2 * 4)).take 4 = [c0, c1, c2, c3]) :
    l = [a0, a1, a2, a3, b0, b1, b2, b3, c0, c1, c2, c3] := by
  match l, hl with
  | [x0, x1, x2, x3, x4, x5, x6, x7, x8, x9, x10, x11], _ =>
    simp at h0 h1 h2
    simp [h0, h1, h2]
theorem two_of (l : List Value) (hl : l.length = 2) {a b : Value} (h0 : l[0]? = some a) (h1 : l[1]? = some b) : l = [a, b] := by
  match l, hl with
  | [x0, x1], _ =>
    simp at h0 h1
    rw [h0, h1]


theorem wf_u32 {n : Int} (h : (Lit.int .u32 n).wf = true) : ∃ m : Nat, m < 4294967296 ∧ n = (m : Int) := by
  have hb : 0 ≤ n ∧ n < 4294967296 := by
    have h' := h
    simp [Lit.wf, IntKind.min, IntKind.max, IntKind.bits, IntKind.signed] at h'
    omega
  exact ⟨n.toNat, by omega, by omega⟩


end
end Go.Proofs.YtdgjlcmedkmgbaaDoor
