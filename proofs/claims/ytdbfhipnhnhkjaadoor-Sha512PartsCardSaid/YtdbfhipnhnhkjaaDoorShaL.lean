/- The hash's variables, opened: what the row's condition says of memory. -/
import Derived.Test.YtdbfhipnhnhkjaaDoorShaV
import Derived.Test.YtdbfhipnhnhkjaaDoorProg
import Derived.Test.YtdbfhipnhnhkjaaDoorRows
import Derived.ProofKit
import Derived.OpenShut
import Derived.LaidLaws
import Derived.Deep.Strs
import Derived.Lib.SmallJoins
set_option linter.unusedVariables false
set_option linter.unusedSimpArgs false
namespace Go.Proofs.YtdbfhipnhnhkjaaDoor
open Go.RowKit Go.Num Go.Sx Go.ChangeShapes Go.WideShapes Go.Deep

section
variable {H : Type} {enc : TypeId × Value → H} {w : World} {base fuel : Nat} {spare : Nat → Bool} {held : Bool}
theorem u64_cellA {c : Value} {v : Int} {x : DataW H × List MemPlace} (h : DataW.trod enc Tryd.prog w base spare held fuel 35 [c] = some x) (hx : x.1 = .lit (.int .u64 v)) : c = .int .u64 v := by
  obtain ⟨n, h1, h2, _⟩ := DataW.trod_int Tryd.underlying35 h
  rw [h2] at hx
  simp only [DataW.lit.injEq, Lit.int.injEq, true_and] at hx
  rw [List.singleton_inj] at h1
  rw [h1, hx]
theorem arr_cells {t n : Nat} {l : List Int} {cs : List Value} {x : DataW H × List MemPlace} (ht : Tryd.prog.underlying t = some (.array n 35)) (hcs : Tryd.prog.cellsOf t = n) (h : DataW.trod enc Tryd.prog w base spare held fuel t cs = some x)
    (hx : x.1 = .agg (l.map fun v => .lit (.int .u64 v))) : cs = l.map (Value.int .u64) := by
  obtain ⟨xs, m, _, h2, hl, hn, hf⟩ := DataW.trod_array ht h
  have hc : Tryd.prog.cellsOf 35 = 1 := by kernel_rfl
  rw [hc] at hf
  rw [hcs] at hl
  rw [h2] at hx
  simp only [DataW.agg.injEq] at hx
  have hll : l.length = n := by
    have := congrArg List.length hx
    simp only [List.length_map] at this
    omega
  apply List.ext_getElem?
  intro i
  by_cases hi : i < n
  · have e := hf i hi
    rw [Nat.mul_one, List.drop_eq_getElem_cons (show i < cs.length by omega), List.take_succ_cons, List.take_zero] at e
    have hxi : xs[i]? = some (xs[i]'(by omega)) := List.getElem?_eq_getElem (by omega)
    rw [hxi] at e
    have hv := congrArg (fun (z : List (DataW H)) => z[i]?) hx
    simp only [List.getElem?_map, hxi, Option.map_some, List.getElem?_eq_getElem (show i < l.length by omega), Option.some.injEq] at hv
    have := u64_cellA e hv
    rw [List.getElem?_map, List.getElem?_eq_getElem (show i < cs.length by omega), List.getElem?_eq_getElem (show i < l.length by omega), this]
    rfl
  · rw [List.getElem?_eq_none (by omega), List.getElem?_eq_none (by rw [List.length_map]; omega)]
end

def tyOf (W : World) (g : Nat) : TypeId := match W.heap[g]? with | some (.cells _ T _) => T | _ => 0
theorem var_step {n : String} {d : DataW Unit} {rest : List (String × DataW Unit)} {ps : List MemPlace} {W : World} {g t : Nat} (l : List Int) (hN : Tryd.prog.globalNamed n = some g) (hT : (Tryd.prog.globals[g]?).map (·.type) = some t)
    (hc : ∀ cs fuel p, DataW.trod (fun _ => ()) Tryd.prog W 0 (fun _ => true) false fuel t cs = some (d, p) → cs = l.map (Value.int .u64)) (h : DataW.LaidVars Tryd.prog W ((n, d) :: rest) ps) :
    (∃ fz, W.heap[g]? = some (.cells (litCells l) (tyOf W g) fz)) ∧ ∃ q, DataW.LaidVars Tryd.prog W rest q := by
  obtain ⟨g', t', cs, fuel, p, q, hg, ht, hvar, hd, hr, _⟩ := h
  obtain rfl := Option.some.inj (hN.symm.trans hg)
  obtain rfl := Option.some.inj (hT.symm.trans ht)
  refine ⟨?_, q, hr⟩
  have hcs : cs = litCells l := by
    obtain ⟨k⟩ := cs
    have := hc _ _ _ hd
    exact congrArg List.toArray this
  subst hcs
  unfold World.var? at hvar
  rw [hN] at hvar
  simp only [Option.bind_some] at hvar
  split at hvar
  · rename_i c T fz hh
    simp only [Option.some.injEq] at hvar
    subst hvar
    refine ⟨fz, ?_⟩
    rw [hh, show tyOf W g = T by unfold tyOf; rw [hh]]
  · cases hvar

theorem cells_first {W : World} (cs : List Value) (fuel : Nat) (p : List MemPlace) (h : DataW.trod (fun _ => ()) Tryd.prog W 0 (fun _ => true) false fuel 37 cs = some (Rows.laid_chronicle_sha512_first, p)) : cs = v_first.2.map (Value.int .u64) := arr_cells (n := 8) (l := v_first.2) Tryd.underlying37 (by kernel_rfl) h rfl
theorem named_first : Tryd.prog.globalNamed "chronicle/sha512.first" = some 0 := by kernel_rfl
theorem type_first : (Tryd.prog.globals[0]?).map (·.type) = some 37 := by kernel_rfl
theorem cells_constants {W : World} (cs : List Value) (fuel : Nat) (p : List MemPlace) (h : DataW.trod (fun _ => ()) Tryd.prog W 0 (fun _ => true) false fuel 43 cs = some (Rows.laid_chronicle_sha512_constants, p)) : cs = v_constants.2.map (Value.int .u64) := arr_cells (n := 80) (l := v_constants.2) Tryd.underlying43 (by kernel_rfl) h rfl
theorem named_constants : Tryd.prog.globalNamed "chronicle/sha512.constants" = some 1 := by kernel_rfl
theorem type_constants : (Tryd.prog.globals[1]?).map (·.type) = some 43 := by kernel_rfl
abbrev LaidMet (W : World) : Prop := laidMet Tryd.prog [("chronicle/sha512.first", Rows.laid_chronicle_sha512_first), ("chronicle/sha512.constants", Rows.laid_chronicle_sha512_constants)] W
def tvOf (W : World) : TS := { ty := tyOf W, vs := [v_first, v_constants], first := by simp, constants := by simp }
theorem le_of_laid {W : World} (h : LaidMet W) : (LS (tvOf W)).K ≤ W.heap.size ∧ (LS (tvOf W)).G W := by
  obtain ⟨ps, h0, _⟩ := h
  obtain ⟨e_first, q1, h1⟩ := var_step v_first.2 named_first type_first cells_first h0
  obtain ⟨e_constants, q2, h2⟩ := var_step v_constants.2 named_constants type_constants cells_constants h1
  refine ⟨KV_le fun x hx => ?_, fun x hx => ?_⟩
  · have hx' : x ∈ [v_first, v_constants] := hx
    simp only [List.mem_cons, List.not_mem_nil, or_false] at hx'
    rcases hx' with rfl | rfl
    · obtain ⟨fz, e⟩ := e_first
      exact (Array.getElem?_eq_some_iff.1 e).1
    · obtain ⟨fz, e⟩ := e_constants
      exact (Array.getElem?_eq_some_iff.1 e).1
  · have hx' : x ∈ [v_first, v_constants] := hx
    simp only [List.mem_cons, List.not_mem_nil, or_false] at hx'
    rcases hx' with rfl | rfl
    · exact e_first
    · exact e_constants
/-- a world that holds the variables -/
def layAt (h : Array Obj) (g : Nat) (l : List Int) : Array Obj := h.modify g fun
  | .cells _ t frozen => .cells (litCells l) t frozen
  | o => o
noncomputable def laidWorld (os : Os) : World :=
  { World.holding Tryd.prog os ⟨#[], #[], []⟩ with heap := layAt (layAt ((World.holding Tryd.prog os ⟨#[], #[], []⟩).heap) 0 v_first.2) 1 v_constants.2 }
theorem lit_no_iface (l : List Int) (i : Nat) (u : TypeId) (v : Value) : (litCells l)[i]? ≠ some (.iface u v) := by
  unfold litCells
  rw [List.getElem?_toArray, List.getElem?_map]
  cases l[i]? <;> simp
theorem row_place {g n b off : Nat} {q : List MemPlace} (h : MemPlace.cell b off ∈ MemPlace.row ⟨g, 0, none⟩ n ++ [] ++ q) : b = g ∨ MemPlace.cell b off ∈ q := by
  simp only [List.append_nil, List.mem_append] at h
  rcases h with h | h
  · left
    simp only [MemPlace.row, List.mem_map] at h
    obtain ⟨i, _, e⟩ := h
    simp at e
    exact e.1.symm
  · exact .inr h
theorem good_place {W : World} {g : Nat} {l : List Int} {t : TypeId} (h : W.heap[g]? = some (.cells (litCells l) t (0, 0))) (off : Nat) :
    (∃ c t, W.heap[g]? = some (.cells c t (0, 0))) ∧ ∀ u v, W.cell? ⟨g, off, none⟩ = some (.iface u v) → Value.okWide Tryd.prog W .any 0 u v := by
  refine ⟨⟨_, _, h⟩, fun u v hc => ?_⟩
  simp only [World.cell?, h] at hc
  exact absurd hc (by simpa using lit_no_iface l _ u v)

theorem row_first (os : Os) (args : Array Value) : ((laidWorld os).forCall (fun _ _ => 0) ⟨#[], args, []⟩).memory.heap[0]? = some (.cells (litCells v_first.2) 37 (0, 0)) := by kernel_rfl
theorem row_constants (os : Os) (args : Array Value) : ((laidWorld os).forCall (fun _ _ => 0) ⟨#[], args, []⟩).memory.heap[1]? = some (.cells (litCells v_constants.2) 43 (0, 0)) := by kernel_rfl
theorem laidWorld_met (os : Os) (args : Array Value) : LaidMet ((laidWorld os).forCall (fun _ _ => 0) ⟨#[], args, []⟩).memory := by
  refine ⟨_, ⟨0, 37, litCells v_first.2, 8, [], _, named_first, type_first, by kernel_rfl, by kernel_rfl, ⟨1, 43, litCells v_constants.2, 8, [], _, named_constants, type_constants, by kernel_rfl, by kernel_rfl, rfl, rfl⟩, rfl⟩, of_decide_eq_true (by kernel_rfl), fun b off h => ?_⟩
  rcases row_place h with rfl | h
  · exact good_place (row_first os args) off
  rcases row_place h with rfl | h
  · exact good_place (row_constants os args) off
  · cases h
end Go.Proofs.YtdbfhipnhnhkjaaDoor
