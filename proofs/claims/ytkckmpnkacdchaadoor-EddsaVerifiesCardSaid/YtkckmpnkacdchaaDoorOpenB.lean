/- Arguments that are slices of bytes, opened. -/
import Derived.Test.YtkckmpnkacdchaaDoorSyM1
import Derived.Test.YtkckmpnkacdchaaDoorBytes
import Derived.ProofKit
import Derived.OpenShut
import Derived.ChangeSlices
set_option linter.unusedVariables false
set_option linter.unusedSimpArgs false
namespace Go.Num
open Go.RowKit Go.ChangeShapes Go.Sx
section
variable {H : Type} {enc : TypeId × Value → H} {P : Program} {w : World} {base : Nat} {held : Bool}
theorem okWide_slice {w : World} {r : Reach} {b0 : Nat} {t e : TypeId} {v : Value} (ht : P.underlying t = some (.slice e)) (h : Value.okWide P w r b0 t v) (cs : Array Value) : v ≠ .agg cs := by
 intro hv
 subst hv
 simp [Value.okWide, ht, Cell.okWide, Cell.ok] at h
theorem wf_byte {n : Int} (h : (Lit.int .u8 n).wf = true) : 0 ≤ n ∧ n < 256 := by
 have h' := h
 simp [Lit.wf, IntKind.min, IntKind.max, IntKind.bits, IntKind.signed] at h'
 omega
theorem cells_slice {v : Value} {b : Option Addr} {l c : Nat} (h0 : ∀ cs, v ≠ .agg cs) (h : v.cells.toList = [.slice b l c]) : v = .slice b l c := by
 cases v <;> simp [Value.cells] at h ⊢ <;> first | exact h | exact absurd rfl (h0 _)
theorem open_bytes {w0 : World} {r : Reach} {b0 : Nat} {t e : TypeId} {v : Value} {d : DataW H} {p : List MemPlace} (ht : P.underlying t = some (.slice e)) (he : P.underlying e = some (.int .u8)) (hc : P.cellsOf e = 1) (hval : Value.okWide P w0 r b0 t v)
  (h : DataW.Trod enc P w base (fun _ => true) held t v d p) : ∃ bs, Reads w v bs ∧ IsBytes bs := by
 obtain ⟨fuel, hf⟩ := h
 have hv := okWide_slice ht hval
 rcases open_ints ht he hc hf with ⟨h1, _⟩ | ⟨a, len, cap, zs, h1, hb, hl, hm, hz, _, hcell, hw⟩
 ·have h2 := cells_slice hv h1
  exact ⟨[], ⟨none, 0, h2, Nat.le_refl _, by decide, .inl rfl⟩, fun x hx => by cases hx⟩
 ·have h2 := cells_slice hv h1
  have hz' : zs.length = cap := by simpa using hz
  have hlen : (zs.take len).length = len := by rw [List.length_take]; omega
  refine ⟨zs.take len, ⟨some a, cap, by rw [hlen]; exact h2, by omega, hm, ?_⟩, fun x hx => wf_byte (hw x (List.mem_of_mem_take hx))⟩
  by_cases h0 : cap = 0
  ·exact .inl h0
  ·obtain ⟨bk, off, rfl, hj⟩ := ints_at hcell (by omega)
   refine .inr ⟨bk, off, rfl, fun j x hx => ?_⟩
   have hjl := (List.getElem?_eq_some_iff.1 hx).1
   rw [hlen] at hjl
   rw [hj j (by omega)]
   rw [List.getElem?_take_of_lt hjl] at hx
   rw [List.getD_eq_getElem?_getD, hx]
   rfl
end
end Go.Num
