/- A point as an argument, opened. -/
import Derived.Test.YtdgjlcmedkmgbaaDoorOpen2
import Derived.Deep.Strs
set_option linter.unusedVariables false
set_option linter.unusedSimpArgs false
namespace Go.Proofs.YtdgjlcmedkmgbaaDoor
open Go.RowKit Go.Num Go.Deep
section
variable {H : Type} {enc : TypeId × Value → H} {w : World} {base : Nat} {spare : Nat → Bool} {held : Bool}
theorem point_of (l : List Value) (hl : l.length = 9) {a0 a1 a2 a3 b0 b1 b2 b3 c0 : Value} (h0 : (l.drop 0).take 4 = [a0, a1, a2, a3]) (h1 : (l.drop 4).take 4 = [b0, b1, b2, b3]) (h2 : (l.drop 8).take 1 = [c0]) : l = [a0, a1, a2, a3, b0, b1, b2, b3, c0] := by
  match l, hl with
  | [x0, x1, x2, x3, x4, x5, x6, x7, x8], _ =>
    simp at h0 h1 h2
    simp [h0, h1, h2]
theorem open_point {v : Value} {d : DataW H} {p : List MemPlace} (h : DataW.Trod enc Tryd.prog w base spare held 26 v d p) : ∃ x y b, x < N ∧ y < N ∧ v = .agg #[.int .u64 (lm x 0), .int .u64 (lm x 1), .int .u64 (lm x 2), .int .u64 (lm x 3), .int .u64 (lm y 0), .int .u64 (lm y 1), .int .u64 (lm y 2), .int .u64 (lm y 3), .bool b] := by
  obtain ⟨fuel, hf0⟩ := h
  obtain ⟨y0, y1, y2, n, _, hl, h3, h4, h5⟩ := trod_struct3 Tryd.underlying26 hf0
  have ht : Tryd.prog.cellsOf 24 = 4 := by kernel_rfl
  have hb : Tryd.prog.cellsOf 4 = 1 := by kernel_rfl
  rw [show Tryd.prog.cellsOf 26 = 9 by kernel_rfl] at hl
  obtain ⟨x, lx, ex⟩ := list_nat (show DataW.trod enc Tryd.prog w base spare held n 24 ((v.cells.toList.drop 0).take (Tryd.prog.cellsOf 24)) = _ from h3)
  obtain ⟨y, ly, ey⟩ := list_nat (show DataW.trod enc Tryd.prog w base spare held n 24 ((v.cells.toList.drop 4).take (Tryd.prog.cellsOf 24)) = _ from h4)
  obtain ⟨b, eb, _⟩ := DataW.trod_bool Tryd.underlying4 (show DataW.trod enc Tryd.prog w base spare held n 4 ((v.cells.toList.drop 8).take (Tryd.prog.cellsOf 4)) = _ from h5)
  rw [ht] at ex ey
  rw [hb] at eb
  exact ⟨x, y, b, lx, ly, (agg_of_cells hl (by omega)).trans (congrArg Value.agg (Array.ext' (point_of _ hl ex ey eb)))⟩
end
end Go.Proofs.YtdgjlcmedkmgbaaDoor
