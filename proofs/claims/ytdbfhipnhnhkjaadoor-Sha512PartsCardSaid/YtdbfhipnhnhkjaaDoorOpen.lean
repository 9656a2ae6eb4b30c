/- Arguments that are arrays of limbs, opened: the value is that of a number. -/
import Derived.Test.YtdbfhipnhnhkjaaDoorCalls
import Derived.ProofKit
import Derived.OpenShut
set_option linter.unusedVariables false
set_option linter.unusedSimpArgs false
namespace Go.Num
open Go.RowKit

section
variable {H : Type} {enc : TypeId × Value → H} {P : Program} {w : World} {base : Nat} {spare : Nat → Bool} {held : Bool}

theorem wf_u64 {n : Int} (h : (Lit.int .u64 n).wf = true) : ∃ m : Nat, m < B ∧ n = (m : Int) := by
  have hb : 0 ≤ n ∧ n < 18446744073709551616 := by
    have h' := h
    simp [Lit.wf, IntKind.min, IntKind.max, IntKind.bits, IntKind.signed] at h'
    omega
  exact ⟨n.toNat, by unfold B; omega, by omega⟩

theorem wf_u8 {n : Int} (h : (Lit.int .u8 n).wf = true) : ∃ m : Nat, m < 256 ∧ n = (m : Int) := by
  have hb : 0 ≤ n ∧ n < 256 := by
    have h' := h
    simp [Lit.wf, IntKind.min, IntKind.max, IntKind.bits, IntKind.signed] at h'
    omega
  exact ⟨n.toNat, by omega, by omega⟩

theorem wf_u16 {n : Int} (h : (Lit.int .u16 n).wf = true) : ∃ m : Nat, m < 65536 ∧ n = (m : Int) := by
  have hb : 0 ≤ n ∧ n < 65536 := by
    have h' := h
    simp [Lit.wf, IntKind.min, IntKind.max, IntKind.bits, IntKind.signed] at h'
    omega
  exact ⟨n.toNat, by omega, by omega⟩

theorem wf_int {n : Int} (h : (Lit.int .i64 n).wf = true) : -9223372036854775808 ≤ n ∧ n ≤ 9223372036854775807 := by
  have h' := h
  simp [Lit.wf, IntKind.min, IntKind.max, IntKind.bits, IntKind.signed] at h'
  omega

/-- cell i of an array of one-cell integers -/
theorem trod_cell {t e : TypeId} {n fuel : Nat} {k : IntKind} {cs : List Value} {x : DataW H × List MemPlace} (hu : P.underlying t = some (.array n e)) (he : P.underlying e = some (.int k)) (hc : P.cellsOf e = 1)
    (h : DataW.trod enc P w base spare held fuel t cs = some x) (i : Nat) (hi : i < n) : ∃ m, cs[i]? = some (.int k m) ∧ (Lit.int k m).wf = true := by
  obtain ⟨xs, m, rfl, _, hl, hn, hf⟩ := DataW.trod_array hu h
  have hfi := hf i hi
  rw [hc, Nat.mul_one, List.getElem?_eq_getElem (by omega)] at hfi
  obtain ⟨v, hv, _, wf⟩ := DataW.trod_int he hfi
  refine ⟨v, ?_, wf⟩
  have hd : ((cs.drop i).take 1)[0]? = some (.int k v) := by rw [hv]; rfl
  simpa using hd

theorem agg_of_cells {v : Value} {n : Nat} (h : v.cells.toList.length = n) (hn : 2 ≤ n) : v = .agg v.cells := by
  cases v <;> simp [Value.cells] at h ⊢ <;> omega

theorem open_nat {t e : TypeId} {v : Value} {d : DataW H} {p : List MemPlace} (hu : P.underlying t = some (.array 4 e)) (he : P.underlying e = some (.int .u64)) (hc : P.cellsOf e = 1) (ht : P.cellsOf t = 4)
    (h : DataW.Trod enc P w base spare held t v d p) : ∃ x, x < N ∧ v = .agg #[.int .u64 (lm x 0), .int .u64 (lm x 1), .int .u64 (lm x 2), .int .u64 (lm x 3)] := by
  obtain ⟨fuel, hf⟩ := h
  obtain ⟨xs, m, hm, _, hl, _, _⟩ := DataW.trod_array hu hf
  rw [ht] at hl
  obtain ⟨a, ha, wa⟩ := trod_cell hu he hc hf 0 (by omega)
  obtain ⟨b, hb, wb⟩ := trod_cell hu he hc hf 1 (by omega)
  obtain ⟨c, hc', wc⟩ := trod_cell hu he hc hf 2 (by omega)
  obtain ⟨f, hf', wf⟩ := trod_cell hu he hc hf 3 (by omega)
  obtain ⟨a, la, rfl⟩ := wf_u64 wa
  obtain ⟨b, lb, rfl⟩ := wf_u64 wb
  obtain ⟨c, lc, rfl⟩ := wf_u64 wc
  obtain ⟨f, lf, rfl⟩ := wf_u64 wf
  refine ⟨num a b c f, num_lt la lb lc lf, ?_⟩
  rw [lm0 la, lm1 la lb, lm2 la lb lc, lm3 la lb lc lf]
  rw [agg_of_cells hl (by omega)]
  congr 1
  apply Array.ext'
  apply List.ext_getElem?
  intro i
  obtain rfl | rfl | rfl | rfl | hi : i = 0 ∨ i = 1 ∨ i = 2 ∨ i = 3 ∨ 4 ≤ i := by omega
  · exact ha
  · exact hb
  · exact hc'
  · exact hf'
  · rw [List.getElem?_eq_none (by omega), List.getElem?_eq_none (by simpa using hi)]

end
end Go.Num
