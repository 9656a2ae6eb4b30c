/- The moduli's variable, opened: what the row's condition says of memory. -/
import Derived.Test.YtijnfclocanhkaaDoorFel4
import Derived.Test.YtijnfclocanhkaaDoorRows
import Derived.ProofKit
import Derived.OpenShut
import Derived.LaidLaws
import Derived.Deep.Strs
set_option linter.unusedVariables false
set_option linter.unusedSimpArgs false
namespace Go.Proofs.YtijnfclocanhkaaDoor
open Go.RowKit Go.Num Go.Sx Go.ChangeShapes Go.WideShapes Go.Deep

section
variable {H : Type} {enc : TypeId × Value → H} {w : World} {base fuel : Nat} {spare : Nat → Bool} {held : Bool}
theorem u64_cell {c : Value} {v : Int} {x : DataW H × List MemPlace} (h : DataW.trod enc Tryd.prog w base spare held fuel 22 [c] = some x) (hx : x.1 = .lit (.int .u64 v)) : c = .int .u64 v := by
  obtain ⟨n, h1, h2, _⟩ := DataW.trod_int Tryd.underlying22 h
  rw [h2] at hx
  simp only [DataW.lit.injEq, Lit.int.injEq, true_and] at hx
  rw [List.singleton_inj] at h1
  rw [h1, hx]

theorem nat_cells {a b c d : Int} {cs : List Value} {x : DataW H × List MemPlace} (h : DataW.trod enc Tryd.prog w base spare held fuel 24 cs = some x)
    (hx : x.1 = .agg [.lit (.int .u64 a), .lit (.int .u64 b), .lit (.int .u64 c), .lit (.int .u64 d)]) : cs = [.int .u64 a, .int .u64 b, .int .u64 c, .int .u64 d] := by
  obtain ⟨xs, m, _, h2, hl, hn, hf⟩ := DataW.trod_array Tryd.underlying24 h
  have hc : Tryd.prog.cellsOf 22 = 1 := by kernel_rfl
  have ht : Tryd.prog.cellsOf 24 = 4 := by kernel_rfl
  rw [ht] at hl
  rw [hc] at hf
  match cs, hl, xs, hn with
  | [c0, c1, c2, c3], _, [x0, x1, x2, x3], _ =>
    rw [h2] at hx
    simp only [List.map_cons, List.map_nil, DataW.agg.injEq, List.cons.injEq, and_true] at hx
    obtain ⟨e0, e1, e2, e3⟩ := hx
    have h0 := u64_cell (hf 0 (by omega)) e0
    have h1 := u64_cell (hf 1 (by omega)) e1
    have h3 := u64_cell (hf 2 (by omega)) e2
    have h4 := u64_cell (hf 3 (by omega)) e3
    rw [h0, h1, h3, h4]

theorem mod_cells {a b c d e f g i j : Int} {cs : List Value} {x : DataW H × List MemPlace} (h : DataW.trod enc Tryd.prog w base spare held fuel 51 cs = some x)
    (hx : x.1 = .agg [.agg [.lit (.int .u64 a), .lit (.int .u64 b), .lit (.int .u64 c), .lit (.int .u64 d)], .agg [.lit (.int .u64 e), .lit (.int .u64 f), .lit (.int .u64 g), .lit (.int .u64 i)], .lit (.int .u64 j)]) :
    cs = [.int .u64 a, .int .u64 b, .int .u64 c, .int .u64 d, .int .u64 e, .int .u64 f, .int .u64 g, .int .u64 i, .int .u64 j] := by
  obtain ⟨y0, y1, y2, n, h2, hl, h3, h4, h5⟩ := trod_struct3 Tryd.underlying51 h
  have hc : Tryd.prog.cellsOf 22 = 1 := by kernel_rfl
  have ht : Tryd.prog.cellsOf 24 = 4 := by kernel_rfl
  have hm : Tryd.prog.cellsOf 51 = 9 := by kernel_rfl
  rw [hm] at hl
  rw [h2] at hx
  simp only [DataW.agg.injEq, List.cons.injEq, and_true] at hx
  obtain ⟨e0, e1, e2⟩ := hx
  match cs, hl with
  | [c0, c1, c2, c3, c4, c5, c6, c7, c8], _ =>
    have k0 := nat_cells (show DataW.trod enc Tryd.prog w base spare held n 24 ([c0, c1, c2, c3, c4, c5, c6, c7, c8].take (Tryd.prog.cellsOf 24)) = _ from h3) e0
    have k1 := nat_cells (show DataW.trod enc Tryd.prog w base spare held n 24 ([c4, c5, c6, c7, c8].take (Tryd.prog.cellsOf 24)) = _ from h4) e1
    rw [ht] at k0 k1
    have h5' : DataW.trod enc Tryd.prog w base spare held n 22 ([c8].take (Tryd.prog.cellsOf 22)) = _ := h5
    rw [hc] at h5'
    have k2 := u64_cell h5' e2
    simp only [List.take_succ_cons, List.take_zero, List.cons.injEq, and_true] at k0 k1
    obtain ⟨rfl, rfl, rfl, rfl⟩ := k0
    obtain ⟨rfl, rfl, rfl, rfl⟩ := k1
    rw [k2]
end

theorem nines {α : Type} (l : List α) (h : l.length = 36) : l = (l.drop (0 * 9)).take 9 ++ ((l.drop (1 * 9)).take 9 ++ ((l.drop (2 * 9)).take 9 ++ (l.drop (3 * 9)).take 9)) := by
  have e3 : (l.drop (3 * 9)).take 9 = l.drop 27 := List.take_of_length_le (by simp [h])
  have e2 : (l.drop (2 * 9)).take 9 ++ l.drop 27 = l.drop 18 := by
    have := List.take_append_drop 9 (l.drop 18)
    rw [List.drop_drop] at this
    exact this
  have e1 : (l.drop (1 * 9)).take 9 ++ l.drop 18 = l.drop 9 := by
    have := List.take_append_drop 9 (l.drop 9)
    rw [List.drop_drop] at this
    exact this
  rw [e3, e2, e1]
  exact (List.take_append_drop 9 l).symm

theorem laid_cells {cs : List Value} {fuel : Nat} {W : World} {p : List MemPlace} (h : DataW.trod (fun _ => ()) Tryd.prog W 0 (fun _ => true) false fuel 64 cs = some (Rows.laid_chronicle_field_moduli, p)) : cs = modCells.toList := by
  obtain ⟨xs, m, _, h2, hl, hn, hf⟩ := DataW.trod_array Tryd.underlying64 h
  have hm : Tryd.prog.cellsOf 51 = 9 := by kernel_rfl
  have hM : Tryd.prog.cellsOf 64 = 36 := by kernel_rfl
  rw [hM] at hl
  rw [hm] at hf
  match xs, hn with
  | [x0, x1, x2, x3], _ =>
    simp only [Rows.laid_chronicle_field_moduli, List.map_cons, List.map_nil, Prod.mk.injEq, DataW.agg.injEq, List.cons.injEq, and_true] at h2
    obtain ⟨⟨e0, e1, e2, e3⟩, _⟩ := h2
    have k0 := mod_cells (hf 0 (by omega)) e0.symm
    have k1 := mod_cells (hf 1 (by omega)) e1.symm
    have k2 := mod_cells (hf 2 (by omega)) e2.symm
    have k3 := mod_cells (hf 3 (by omega)) e3.symm
    refine (nines cs hl).trans ?_
    rw [k0, k1, k2, k3]
    rfl

theorem modNamed : Tryd.prog.globalNamed "chronicle/field.moduli" = some 0 := by kernel_rfl
theorem modType : (Tryd.prog.globals[0]?).map (·.type) = some 64 := by kernel_rfl

abbrev LaidMet (W : World) : Prop := laidMet Tryd.prog [("chronicle/field.moduli", Rows.laid_chronicle_field_moduli)] W
theorem lf_of_laid {W : World} (h : LaidMet W) : ∃ T, (LF T).K ≤ W.heap.size ∧ (LF T).G W := by
  obtain ⟨ps, ⟨g, t, cs, fuel, p, q, hg, ht, hvar, hd, _, _⟩, _⟩ := h
  obtain rfl := Option.some.inj (modNamed.symm.trans hg)
  obtain rfl := Option.some.inj (modType.symm.trans ht)
  have hcs : cs = modCells := by
    obtain ⟨l⟩ := cs
    have := laid_cells hd
    exact congrArg List.toArray this
  subst hcs
  unfold World.var? at hvar
  rw [modNamed] at hvar
  simp only [Option.bind_some] at hvar
  split at hvar
  · rename_i c T fz hh
    simp only [Option.some.injEq] at hvar
    subst hvar
    exact ⟨T, (Array.getElem?_eq_some_iff.1 hh).1, fz, hh⟩
  · cases hvar

/-- a world that holds the variable -/
noncomputable def laidWorld (os : Os) : World :=
  { World.holding Tryd.prog os ⟨#[], #[], []⟩ with heap := (World.holding Tryd.prog os ⟨#[], #[], []⟩).heap.modify 0 fun
      | .cells _ t frozen => .cells modCells t frozen
      | o => o }
theorem laidWorld_row (os : Os) (args : Array Value) : ((laidWorld os).forCall (fun _ _ => 0) ⟨#[], args, []⟩).memory.heap[0]? = some (.cells modCells 64 (0, 0)) := by kernel_rfl
theorem mod_no_iface (i : Nat) (u : TypeId) (v : Value) : modCells[i]? ≠ some (.iface u v) := by
  unfold modCells
  rw [List.getElem?_toArray, List.getElem?_map]
  cases modL[i]? <;> simp
theorem laidWorld_met (os : Os) (args : Array Value) : LaidMet ((laidWorld os).forCall (fun _ _ => 0) ⟨#[], args, []⟩).memory := by
  refine ⟨_, ⟨0, 64, modCells, 8, [], [], modNamed, modType, by kernel_rfl, by kernel_rfl, rfl, rfl⟩, of_decide_eq_true (by kernel_rfl), fun b off h => ?_⟩
  have hb : b = 0 := by
    simp only [List.append_nil, MemPlace.row, List.mem_map] at h
    obtain ⟨i, _, e⟩ := h
    simp at e
    exact e.1.symm
  subst hb
  refine ⟨⟨_, _, laidWorld_row os args⟩, fun u v hc => ?_⟩
  simp only [World.cell?, laidWorld_row os args] at hc
  exact absurd hc (by simpa using mod_no_iface _ u v)
end Go.Proofs.YtijnfclocanhkaaDoor
