/- More arguments, opened: three numbers in a row, two small numbers, a wide number in two halves. -/
import Derived.Test.YtijnfclocanhkaaDoorOpen
import Derived.Test.YtijnfclocanhkaaDoorProg
set_option linter.unusedVariables false
set_option linter.unusedSimpArgs false
namespace Go.Proofs.YtijnfclocanhkaaDoor
open Go.RowKit Go.Num

section
variable {H : Type} {enc : TypeId × Value → H} {w : World} {base : Nat} {spare : Nat → Bool} {held : Bool}
theorem list_nat {fuel : Nat} {cs : List Value} {x : DataW H × List MemPlace} (h : DataW.trod enc Tryd.prog w base spare held fuel 24 cs = some x) :
    ∃ x, x < N ∧ cs = [.int .u64 (lm x 0 : Nat), .int .u64 (lm x 1 : Nat), .int .u64 (lm x 2 : Nat), .int .u64 (lm x 3 : Nat)] := by
  obtain ⟨y, hy, e⟩ := open_nat (v := .agg cs.toArray) Tryd.underlying24 Tryd.underlying22 (by kernel_rfl) (by kernel_rfl) (⟨fuel, h⟩ : DataW.Trod enc Tryd.prog w base spare held 24 (.agg cs.toArray) x.1 x.2)
  refine ⟨y, hy, ?_⟩
  simp only [Value.agg.injEq] at e
  exact congrArg Array.toList e

theorem three_of (l : List Value) (hl : l.length = 12) {a0 a1 a2 a3 b0 b1 b2 b3 c0 c1 c2 c3 : Value} (h0 : (l.drop (0 * 4)).take 4 = [a0, a1, a2, a3]) (h1 : (l.drop (1 * 4)).take 4 = [b0, b1, b2, b3]) (h2 : (l.drop (2 * 4)).take 4 = [c0, c1, c2, c3]) :
    l = [a0, a1, a2, a3, b0, b1, b2, b3, c0, c1, c2, c3] := by
  match l, hl with
  | [x0, x1, x2, x3, x4, x5, x6, x7, x8, x9, x10, x11], _ =>
    simp at h0 h1 h2
    simp [h0, h1, h2]
theorem two_of (l : List Value) (hl : l.length = 2) {a b : Value} (h0 : l[0]? = some a) (h1 : l[1]? = some b) : l = [a, b] := by
  match l, hl with
  | [x0, x1], _ =>
    simp at h0 h1
    rw [h0, h1]

theorem open_three {v : Value} {d : DataW H} {p : List MemPlace} (h : DataW.Trod enc Tryd.prog w base spare held 41 v d p) : ∃ a b c, a < N ∧ b < N ∧ c < N ∧
    v = .agg #[.int .u64 (lm a 0), .int .u64 (lm a 1), .int .u64 (lm a 2), .int .u64 (lm a 3), .int .u64 (lm b 0), .int .u64 (lm b 1), .int .u64 (lm b 2), .int .u64 (lm b 3), .int .u64 (lm c 0), .int .u64 (lm c 1), .int .u64 (lm c 2), .int .u64 (lm c 3)] := by
  obtain ⟨fuel, hf0⟩ := h
  obtain ⟨xs, m, _, _, hl, hn, hf⟩ := DataW.trod_array Tryd.underlying41 hf0
  rw [show Tryd.prog.cellsOf 41 = 12 by kernel_rfl] at hl
  rw [show Tryd.prog.cellsOf 24 = 4 by kernel_rfl] at hf
  obtain ⟨a, la, ea⟩ := list_nat (show DataW.trod enc Tryd.prog w base spare held m 24 _ = some _ from (hf 0 (by omega)).trans (List.getElem?_eq_getElem (by omega)))
  obtain ⟨b, lb, eb⟩ := list_nat (show DataW.trod enc Tryd.prog w base spare held m 24 _ = some _ from (hf 1 (by omega)).trans (List.getElem?_eq_getElem (by omega)))
  obtain ⟨c, lc, ec⟩ := list_nat (show DataW.trod enc Tryd.prog w base spare held m 24 _ = some _ from (hf 2 (by omega)).trans (List.getElem?_eq_getElem (by omega)))
  exact ⟨a, b, c, la, lb, lc, (agg_of_cells hl (by omega)).trans (congrArg Value.agg (Array.ext' (three_of _ hl ea eb ec)))⟩

theorem wf_u32 {n : Int} (h : (Lit.int .u32 n).wf = true) : ∃ m : Nat, m < 4294967296 ∧ n = (m : Int) := by
  have hb : 0 ≤ n ∧ n < 4294967296 := by
    have h' := h
    simp [Lit.wf, IntKind.min, IntKind.max, IntKind.bits, IntKind.signed] at h'
    omega
  exact ⟨n.toNat, by omega, by omega⟩

theorem open_two {v : Value} {d : DataW H} {p : List MemPlace} (h : DataW.Trod enc Tryd.prog w base spare held 35 v d p) : ∃ a b : Nat, a < 4294967296 ∧ b < 4294967296 ∧ v = .agg #[.int .u32 (a : Nat), .int .u32 (b : Nat)] := by
  obtain ⟨fuel, hf0⟩ := h
  obtain ⟨xs, m, _, _, hl, hn, hf⟩ := DataW.trod_array Tryd.underlying35 hf0
  rw [show Tryd.prog.cellsOf 35 = 2 by kernel_rfl] at hl
  obtain ⟨a, ha, wa⟩ := trod_cell Tryd.underlying35 Tryd.underlying34 (by kernel_rfl) hf0 0 (by omega)
  obtain ⟨b, hb, wb⟩ := trod_cell Tryd.underlying35 Tryd.underlying34 (by kernel_rfl) hf0 1 (by omega)
  obtain ⟨a, la, rfl⟩ := wf_u32 wa
  obtain ⟨b, lb, rfl⟩ := wf_u32 wb
  exact ⟨a, b, la, lb, (agg_of_cells hl (by omega)).trans (congrArg Value.agg (Array.ext' (two_of _ hl ha hb)))⟩

theorem open_wide {v : Value} {d : DataW H} {p : List MemPlace} (h : DataW.Trod enc Tryd.prog w base spare held 31 v d p) : ∃ c : Nat → Nat, (∀ i, i < 8 → c i < B) ∧
    v = .agg #[.int .u64 (c 0 : Nat), .int .u64 (c 1 : Nat), .int .u64 (c 2 : Nat), .int .u64 (c 3 : Nat), .int .u64 (c 4 : Nat), .int .u64 (c 5 : Nat), .int .u64 (c 6 : Nat), .int .u64 (c 7 : Nat)] := by
  obtain ⟨fuel, hf0⟩ := h
  obtain ⟨xs, m, _, _, hl, hn, hf⟩ := DataW.trod_array Tryd.underlying31 hf0
  rw [show Tryd.prog.cellsOf 31 = 8 by kernel_rfl] at hl
  have key : ∀ i, ∃ m : Nat, i < 8 → m < B ∧ v.cells.toList[i]? = some (.int .u64 (m : Nat)) := by
    intro i
    by_cases hi : i < 8
    · obtain ⟨a, ha, wa⟩ := trod_cell Tryd.underlying31 Tryd.underlying22 (by kernel_rfl) hf0 i hi
      obtain ⟨a, la, rfl⟩ := wf_u64 wa
      exact ⟨a, fun _ => ⟨la, ha⟩⟩
    · exact ⟨0, fun h => absurd h hi⟩
  obtain ⟨c, hc⟩ := Classical.skolem.1 key
  refine ⟨c, fun i hi => (hc i hi).1, ?_⟩
  have e : ∀ i, i < 8 → v.cells.toList[i]? = some (.int .u64 ((c i : Nat) : Int)) := fun i hi => (hc i hi).2
  refine (agg_of_cells hl (by omega)).trans ?_
  congr 1
  apply Array.ext'
  apply List.ext_getElem?
  intro i
  obtain rfl | rfl | rfl | rfl | rfl | rfl | rfl | rfl | hi : i = 0 ∨ i = 1 ∨ i = 2 ∨ i = 3 ∨ i = 4 ∨ i = 5 ∨ i = 6 ∨ i = 7 ∨ 8 ≤ i := by omega
  · exact e 0 (by omega)
  · exact e 1 (by omega)
  · exact e 2 (by omega)
  · exact e 3 (by omega)
  · exact e 4 (by omega)
  · exact e 5 (by omega)
  · exact e 6 (by omega)
  · exact e 7 (by omega)
  · rw [List.getElem?_eq_none (by omega), List.getElem?_eq_none (by simpa using hi)]
end
end Go.Proofs.YtijnfclocanhkaaDoor
