/- Arguments that are slices of slices of bytes, opened. -/
import Derived.Test.YtdbfhipnhnhkjaaDoorOpenB
import Derived.Deep.MidRow
set_option linter.unusedVariables false
set_option linter.unusedSimpArgs false
namespace Go.Num
open Go.RowKit Go.ChangeShapes Go.Sx

section
variable {H : Type} {enc : TypeId × Value → H} {P : Program} {w : World} {base : Nat} {held : Bool}

theorem choose_list {R : Nat → List Int → Prop} : ∀ n, (∀ i, i < n → ∃ b, R i b) → ∃ l : List (List Int), l.length = n ∧ ∀ i b, l[i]? = some b → R i b
  | 0, _ => ⟨[], rfl, fun i b h => by simp at h⟩
  | n + 1, h => by
    obtain ⟨l, h1, h2⟩ := choose_list n fun i hi => h i (by omega)
    obtain ⟨b, hb⟩ := h n (by omega)
    refine ⟨l ++ [b], by simp [h1], fun i c hc => ?_⟩
    by_cases hi : i < n
    · rw [List.getElem?_append_left (by omega)] at hc
      exact h2 i c hc
    · have hlt := (List.getElem?_eq_some_iff.1 hc).1
      simp only [List.length_append, List.length_singleton] at hlt
      obtain rfl : i = n := by omega
      rw [List.getElem?_append_right (by omega), h1, Nat.sub_self] at hc
      simp only [List.getElem?_cons_zero, Option.some.injEq] at hc
      rw [← hc]
      exact hb

theorem reads_of {t e : TypeId} {fuel : Nat} {v : Value} {x : DataW H × List MemPlace} (ht : P.underlying t = some (.slice e)) (he : P.underlying e = some (.int .u8)) (hc : P.cellsOf e = 1)
    (h : DataW.trod enc P w base (fun _ => true) held fuel t [v] = some x) : ∃ bs, Reads w v bs ∧ IsBytes bs := by
  rcases open_ints ht he hc h with ⟨h1, _⟩ | ⟨a, len, cap, zs, h1, hb, hl, hm, hz, _, hcell, hw⟩
  · rw [List.singleton_inj] at h1
    exact ⟨[], ⟨none, 0, h1, Nat.le_refl _, by decide, .inl rfl⟩, fun x hx => by cases hx⟩
  · rw [List.singleton_inj] at h1
    have hz' : zs.length = cap := by simpa using hz
    have hlen : (zs.take len).length = len := by rw [List.length_take]; omega
    refine ⟨zs.take len, ⟨some a, cap, by rw [hlen]; exact h1, by omega, hm, ?_⟩, fun x hx => wf_byte (hw x (List.mem_of_mem_take hx))⟩
    by_cases h0 : cap = 0
    · exact .inl h0
    · obtain ⟨bk, off, rfl, hj⟩ := ints_at hcell (by omega)
      refine .inr ⟨bk, off, rfl, fun j x hx => ?_⟩
      have hjl := (List.getElem?_eq_some_iff.1 hx).1
      rw [hlen] at hjl
      rw [hj j (by omega)]
      rw [List.getElem?_take_of_lt hjl] at hx
      rw [List.getD_eq_getElem?_getD, hx]
      rfl

theorem open_parts {w0 : World} {r : Reach} {b0 : Nat} {tt t e : TypeId} {v : Value} {d : DataW H} {p : List MemPlace} (htt : P.underlying tt = some (.slice t)) (ht : P.underlying t = some (.slice e)) (he : P.underlying e = some (.int .u8)) (hc : P.cellsOf e = 1) (hct : P.cellsOf t = 1) (hval : Value.okWide P w0 r b0 tt v)
    (h : DataW.Trod enc P w base (fun _ => true) held tt v d p) : ∃ ps, ReadsP w v ps ∧ ∀ q ∈ ps, IsBytes q := by
  obtain ⟨fuel, hf⟩ := h
  have hv := okWide_slice htt hval
  rcases DataW.trod_slice htt hf with ⟨h1, _⟩ | ⟨a, len, cap, elems, rest, n, _, h1, _, hb, hl, hm, hlen, hel, hsp, _⟩
  · have h2 := cells_slice hv h1
    exact ⟨[], ⟨none, 0, h2, Nat.le_refl _, by decide, .inl rfl⟩, fun q hq => by cases hq⟩
  · have h2 := cells_slice hv h1
    obtain ⟨hrl, hr⟩ := hsp rfl
    have each : ∀ i, i < cap → ∃ y, w.cell? (a.add i) = some y ∧ ∃ bs, Reads w y bs ∧ IsBytes bs := by
      intro i hi
      have hb' : ∃ z, (w.cells? base (a.add (i * P.cellsOf t)) (P.cellsOf t)).bind (DataW.trod enc P w base (fun _ => true) held n t) = some z := by
        by_cases hil : i < len
        · exact ⟨elems[i]'(by omega), by rw [hel i hil]; exact List.getElem?_eq_getElem (by omega)⟩
        · have := hr (i - len) (by omega)
          rw [show len + (i - len) = i by omega] at this
          exact ⟨rest[i - len]'(by omega), by rw [this]; exact List.getElem?_eq_getElem (by omega)⟩
      obtain ⟨z, hz⟩ := hb'
      rw [hct, Nat.mul_one] at hz
      obtain ⟨l, hl1, hl2⟩ := Option.bind_eq_some_iff.1 hz
      unfold World.cells? at hl1
      split at hl1
      · rename_i hbl
        simp only [List.range_one, List.mapM_cons, List.mapM_nil] at hl1
        cases hcell : w.cell? ((a.add i).add 0) with
        | none => rw [hcell] at hl1; simp at hl1
        | some y =>
          rw [hcell] at hl1
          have hly : [y] = l := by simpa using hl1
          subst hly
          exact ⟨y, hcell, reads_of ht he hc hl2⟩
      · cases hl1
    obtain ⟨ps, hp1, hp2⟩ := choose_list (R := fun i b => ∃ y, w.cell? (a.add i) = some y ∧ Reads w y b ∧ IsBytes b) len fun i hi => by
      obtain ⟨y, hy, bs, hb1, hb2⟩ := each i (by omega)
      exact ⟨bs, y, hy, hb1, hb2⟩
    refine ⟨ps, ⟨some a, cap, by rw [hp1]; exact h2, by omega, hm, ?_⟩, fun q hq => ?_⟩
    · by_cases h0 : cap = 0
      · exact .inl h0
      · right
        obtain ⟨y, hy, _⟩ := each 0 (by omega)
        obtain ⟨bk, off, spot⟩ := a
        have hspot : spot = none := by simpa [Addr.add] using World.cell?_spot hy
        subst hspot
        refine ⟨bk, off, rfl, fun j bs hj => ?_⟩
        obtain ⟨y, hy, hb1, _⟩ := hp2 j bs hj
        rw [Addr.add_mid] at hy
        exact ⟨y, hy, hb1⟩
    · obtain ⟨i, hi⟩ := List.mem_iff_getElem?.1 hq
      obtain ⟨y, hy, _, hb2⟩ := hp2 i q hi
      exact hb2
end
end Go.Num
