/- Arguments that are slices of slices of bytes, opened. -/
import Derived.Test.YtkckmpnkacdchaaDoorOpenB
import Derived.Test.YtkckmpnkacdchaaDoorOpen
import Derived.Deep.MidRow
set_option linter.unusedVariables false
set_option linter.unusedSimpArgs false
namespace Go.Num
open Go.RowKit Go.ChangeShapes Go.Sx
section
variable {H : Type} {enc : TypeId × Value → H} {P : Program} {w : World} {base : Nat} {held : Bool}
theorem choose_list {α : Type} {R : Nat → α → Prop} : ∀ n, (∀ i, i < n → ∃ b, R i b) → ∃ l : List α, l.length = n ∧ ∀ i b, l[i]? = some b → R i b
  | 0, _ => ⟨[], rfl, fun i b h => by simp at h⟩
  | n + 1, h => by
    obtain ⟨l, h1, h2⟩ := choose_list n fun i hi => h i (by omega)
    obtain ⟨b, hb⟩ := h n (by omega)
    refine ⟨l ++ [b], by simp [h1], fun i c hc => ?_⟩
    by_cases hi : i < n
    · rw [List.getElem?_append_left (by omega)] at hc
      exact h2 i c hc
    · have hlt := (List.getElem?_eq_some_iff.1 hc).1
      simp only [List.length_append, List.length_singleton] at hlt
      obtain rfl : i = n := by omega
      rw [List.getElem?_append_right (by omega), h1, Nat.sub_self] at hc
      simp only [List.getElem?_cons_zero, Option.some.injEq] at hc
      rw [← hc]
      exact hb
theorem open_hash {spare : Nat → Bool} {t e : TypeId} {v : Value} {d : DataW H} {p : List MemPlace} (hu : P.underlying t = some (.array 32 e)) (he : P.underlying e = some (.int .u8)) (hc : P.cellsOf e = 1) (ht : P.cellsOf t = 32)
    (h : DataW.Trod enc P w base spare held t v d p) : ∃ x : List Int, (x.length = 32 ∧ IsBytes x) ∧ v = .agg ((List.range 32).map fun i => Value.int .u8 (x.getD i 0)).toArray := by
  obtain ⟨fuel, hf⟩ := h
  obtain ⟨xs, m, hm, _, hl, _, _⟩ := DataW.trod_array hu hf
  rw [ht] at hl
  obtain ⟨x, hx1, hx2⟩ := choose_list (R := fun i b => v.cells.toList[i]? = some (.int .u8 b) ∧ (Lit.int .u8 b).wf = true) 32 fun i hi => trod_cell hu he hc hf i hi
  refine ⟨x, ⟨hx1, fun b hb => ?_⟩, ?_⟩
  · obtain ⟨i, hi⟩ := List.mem_iff_getElem?.1 hb
    exact wf_byte (hx2 i b hi).2
  · rw [agg_of_cells hl (by omega)]
    congr 1
    apply Array.ext'
    apply List.ext_getElem?
    intro i
    rw [List.getElem?_map]
    by_cases hi : i < 32
    · rw [List.getElem?_range hi, Option.map_some, List.getD_eq_getElem?_getD, List.getElem?_eq_getElem (show i < x.length by omega), Option.getD_some]
      exact (hx2 i _ (List.getElem?_eq_getElem (by omega))).1
    · rw [List.getElem?_eq_none (by omega), List.getElem?_eq_none (by simp; omega)]
      rfl
end
end Go.Num
