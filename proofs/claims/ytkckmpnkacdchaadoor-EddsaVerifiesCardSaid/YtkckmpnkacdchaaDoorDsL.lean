/- The eight variables, opened: what the row's condition says of memory. -/
import Derived.Test.YtkckmpnkacdchaaDoorDsV
import Derived.Test.YtkckmpnkacdchaaDoorRows
import Derived.ProofKit
import Derived.OpenShut
import Derived.LaidLaws
import Derived.Deep.Strs
import Derived.Lib.SmallJoins
set_option linter.unusedVariables false
set_option linter.unusedSimpArgs false
namespace Go.Proofs.YtkckmpnkacdchaaDoor
open Go.RowKit Go.Num Go.Sx Go.ChangeShapes Go.WideShapes Go.Deep
section
variable {H : Type} {enc : TypeId × Value → H} {w : World} {base fuel : Nat} {spare : Nat → Bool} {held : Bool}
theorem u64_cell {c : Value} {v : Int} {x : DataW H × List MemPlace} (h : DataW.trod enc Tryd.prog w base spare held fuel 31 [c] = some x) (hx : x.1 = .lit (.int .u64 v)) : c = .int .u64 v := by
 obtain ⟨n, h1, h2, _⟩ := DataW.trod_int Tryd.underlying31 h
 rw [h2] at hx
 simp only [DataW.lit.injEq, Lit.int.injEq, true_and] at hx
 rw [List.singleton_inj] at h1
 rw [h1, hx]
theorem nat_cells {a b c d : Int} {cs : List Value} {x : DataW H × List MemPlace} (h : DataW.trod enc Tryd.prog w base spare held fuel 33 cs = some x)
  (hx : x.1 = .agg [.lit (.int .u64 a), .lit (.int .u64 b), .lit (.int .u64 c), .lit (.int .u64 d)]) : cs = [.int .u64 a, .int .u64 b, .int .u64 c, .int .u64 d] := by
 obtain ⟨xs, m, _, h2, hl, hn, hf⟩ := DataW.trod_array Tryd.underlying33 h
 have hc : Tryd.prog.cellsOf 31 = 1 := by kernel_rfl
 have ht : Tryd.prog.cellsOf 33 = 4 := by kernel_rfl
 rw [ht] at hl
 rw [hc] at hf
 match cs, hl, xs, hn with
 | [c0, c1, c2, c3], _, [x0, x1, x2, x3], _ =>
  rw [h2] at hx
  simp only [List.map_cons, List.map_nil, DataW.agg.injEq, List.cons.injEq, and_true] at hx
  obtain ⟨e0, e1, e2, e3⟩ := hx
  have h0 := u64_cell (hf 0 (by omega)) e0
  have h1 := u64_cell (hf 1 (by omega)) e1
  have h3 := u64_cell (hf 2 (by omega)) e2
  have h4 := u64_cell (hf 3 (by omega)) e3
  rw [h0, h1, h3, h4]
set_option maxRecDepth 100000 in
theorem mod_cells {a b c d e f g i j : Int} {cs : List Value} {x : DataW H × List MemPlace} (h : DataW.trod enc Tryd.prog w base spare held fuel 74 cs = some x)
  (hx : x.1 = .agg [.agg [.lit (.int .u64 a), .lit (.int .u64 b), .lit (.int .u64 c), .lit (.int .u64 d)], .agg [.lit (.int .u64 e), .lit (.int .u64 f), .lit (.int .u64 g), .lit (.int .u64 i)], .lit (.int .u64 j)]) :
  cs = [.int .u64 a, .int .u64 b, .int .u64 c, .int .u64 d, .int .u64 e, .int .u64 f, .int .u64 g, .int .u64 i, .int .u64 j] := by
 obtain ⟨y0, y1, y2, n, h2, hl, h3, h4, h5⟩ := trod_struct3 Tryd.underlying74 h
 have hc : Tryd.prog.cellsOf 31 = 1 := by kernel_rfl
 have ht : Tryd.prog.cellsOf 33 = 4 := by kernel_rfl
 have hm : Tryd.prog.cellsOf 74 = 9 := by kernel_rfl
 rw [hm] at hl
 rw [h2] at hx
 simp only [DataW.agg.injEq, List.cons.injEq, and_true] at hx
 obtain ⟨e0, e1, e2⟩ := hx
 match cs, hl with
 | [c0, c1, c2, c3, c4, c5, c6, c7, c8], _ =>
  have k0 := nat_cells (show DataW.trod enc Tryd.prog w base spare held n 33 ([c0, c1, c2, c3, c4, c5, c6, c7, c8].take (Tryd.prog.cellsOf 33)) = _ from h3) e0
  have k1 := nat_cells (show DataW.trod enc Tryd.prog w base spare held n 33 ([c4, c5, c6, c7, c8].take (Tryd.prog.cellsOf 33)) = _ from h4) e1
  rw [ht] at k0 k1
  have h5' : DataW.trod enc Tryd.prog w base spare held n 31 ([c8].take (Tryd.prog.cellsOf 31)) = _ := h5
  rw [hc] at h5'
  have k2 := u64_cell h5' e2
  simp only [List.take_succ_cons, List.take_zero, List.cons.injEq, and_true] at k0 k1
  obtain ⟨rfl, rfl, rfl, rfl⟩ := k0
  obtain ⟨rfl, rfl, rfl, rfl⟩ := k1
  rw [k2]
end
theorem nines {α : Type} (l : List α) (h : l.length = 36) : l = (l.drop (0 * 9)).take 9 ++ ((l.drop (1 * 9)).take 9 ++ ((l.drop (2 * 9)).take 9 ++ (l.drop (3 * 9)).take 9)) := by
 have e3 : (l.drop (3 * 9)).take 9 = l.drop 27 := List.take_of_length_le (by simp [h])
 have e2 : (l.drop (2 * 9)).take 9 ++ l.drop 27 = l.drop 18 := by
  have := List.take_append_drop 9 (l.drop 18)
  rw [List.drop_drop] at this
  exact this
 have e1 : (l.drop (1 * 9)).take 9 ++ l.drop 18 = l.drop 9 := by
  have := List.take_append_drop 9 (l.drop 9)
  rw [List.drop_drop] at this
  exact this
 rw [e3, e2, e1]
 exact (List.take_append_drop 9 l).symm
theorem laid_cells {cs : List Value} {fuel : Nat} {W : World} {p : List MemPlace} (h : DataW.trod (fun _ => ()) Tryd.prog W 0 (fun _ => true) false fuel 98 cs = some (Rows.laid_chronicle_field_moduli, p)) : cs = modCells.toList := by
 obtain ⟨xs, m, _, h2, hl, hn, hf⟩ := DataW.trod_array Tryd.underlying98 h
 have hm : Tryd.prog.cellsOf 74 = 9 := by kernel_rfl
 have hM : Tryd.prog.cellsOf 98 = 36 := by kernel_rfl
 rw [hM] at hl
 rw [hm] at hf
 match xs, hn with
 | [x0, x1, x2, x3], _ =>
  simp only [Rows.laid_chronicle_field_moduli, List.map_cons, List.map_nil, Prod.mk.injEq, DataW.agg.injEq, List.cons.injEq, and_true] at h2
  obtain ⟨⟨e0, e1, e2, e3⟩, _⟩ := h2
  have k0 := mod_cells (hf 0 (by omega)) e0.symm
  have k1 := mod_cells (hf 1 (by omega)) e1.symm
  have k2 := mod_cells (hf 2 (by omega)) e2.symm
  have k3 := mod_cells (hf 3 (by omega)) e3.symm
  refine (nines cs hl).trans ?_
  rw [k0, k1, k2, k3]
  rfl
theorem quads {α : Type} (l : List α) (h : l.length = 16) {a b c d : List α} (h0 : (l.drop 0).take 4 = a) (h1 : (l.drop 4).take 4 = b) (h2 : (l.drop 8).take 4 = c) (h3 : (l.drop 12).take 4 = d) : l = a ++ (b ++ (c ++ d)) := by
 subst h0 h1 h2 h3
 match l, h with
 | [x0, x1, x2, x3, x4, x5, x6, x7, x8, x9, x10, x11, x12, x13, x14, x15], _ => rfl
section
variable {H : Type} {enc : TypeId × Value → H} {w : World} {base fuel : Nat} {spare : Nat → Bool} {held : Bool}
theorem u64_cellA {c : Value} {v : Int} {x : DataW H × List MemPlace} (h : DataW.trod enc Tryd.prog w base spare held fuel 31 [c] = some x) (hx : x.1 = .lit (.int .u64 v)) : c = .int .u64 v := by
 obtain ⟨n, h1, h2, _⟩ := DataW.trod_int Tryd.underlying31 h
 rw [h2] at hx
 simp only [DataW.lit.injEq, Lit.int.injEq, true_and] at hx
 rw [List.singleton_inj] at h1
 rw [h1, hx]
theorem arr_cells {t n : Nat} {l : List Int} {cs : List Value} {x : DataW H × List MemPlace} (ht : Tryd.prog.underlying t = some (.array n 31)) (hcs : Tryd.prog.cellsOf t = n) (h : DataW.trod enc Tryd.prog w base spare held fuel t cs = some x)
  (hx : x.1 = .agg (l.map fun v => .lit (.int .u64 v))) : cs = l.map (Value.int .u64) := by
 obtain ⟨xs, m, _, h2, hl, hn, hf⟩ := DataW.trod_array ht h
 have hc : Tryd.prog.cellsOf 31 = 1 := by kernel_rfl
 rw [hc] at hf
 rw [hcs] at hl
 rw [h2] at hx
 simp only [DataW.agg.injEq] at hx
 have hll : l.length = n := by
  have := congrArg List.length hx
  simp only [List.length_map] at this
  omega
 apply List.ext_getElem?
 intro i
 by_cases hi : i < n
 ·have e := hf i hi
  rw [Nat.mul_one, List.drop_eq_getElem_cons (show i < cs.length by omega), List.take_succ_cons, List.take_zero] at e
  have hxi : xs[i]? = some (xs[i]'(by omega)) := List.getElem?_eq_getElem (by omega)
  rw [hxi] at e
  have hv := congrArg (fun (z : List (DataW H)) => z[i]?) hx
  simp only [List.getElem?_map, hxi, Option.map_some, List.getElem?_eq_getElem (show i < l.length by omega), Option.some.injEq] at hv
  have := u64_cellA e hv
  rw [List.getElem?_map, List.getElem?_eq_getElem (show i < cs.length by omega), List.getElem?_eq_getElem (show i < l.length by omega), this]
  rfl
 ·rw [List.getElem?_eq_none (by omega), List.getElem?_eq_none (by rw [List.length_map]; omega)]
end
def tyOf (W : World) (g : Nat) : TypeId := match W.heap[g]? with | some (.cells _ T _) => T | _ => 0
theorem var_step {n : String} {d : DataW Unit} {rest : List (String × DataW Unit)} {ps : List MemPlace} {W : World} {g t : Nat} (l : List Int) (hN : Tryd.prog.globalNamed n = some g) (hT : (Tryd.prog.globals[g]?).map (·.type) = some t)
  (hc : ∀ cs fuel p, DataW.trod (fun _ => ()) Tryd.prog W 0 (fun _ => true) false fuel t cs = some (d, p) → cs = l.map (Value.int .u64)) (h : DataW.LaidVars Tryd.prog W ((n, d) :: rest) ps) :
  (∃ fz, W.heap[g]? = some (.cells (litCells l) (tyOf W g) fz)) ∧ ∃ q, DataW.LaidVars Tryd.prog W rest q := by
 obtain ⟨g', t', cs, fuel, p, q, hg, ht, hvar, hd, hr, _⟩ := h
 obtain rfl := Option.some.inj (hN.symm.trans hg)
 obtain rfl := Option.some.inj (hT.symm.trans ht)
 refine ⟨?_, q, hr⟩
 have hcs : cs = litCells l := by
  obtain ⟨k⟩ := cs
  have := hc _ _ _ hd
  exact congrArg List.toArray this
 subst hcs
 unfold World.var? at hvar
 rw [hN] at hvar
 simp only [Option.bind_some] at hvar
 split at hvar
 ·rename_i c T fz hh
  simp only [Option.some.injEq] at hvar
  subst hvar
  refine ⟨fz, ?_⟩
  rw [hh, show tyOf W g = T by unfold tyOf; rw [hh]]
 ·cases hvar
theorem cells_moduli {W : World} (cs : List Value) (fuel : Nat) (p : List MemPlace) (h : DataW.trod (fun _ => ()) Tryd.prog W 0 (fun _ => true) false fuel 98 cs = some (Rows.laid_chronicle_field_moduli, p)) : cs = v_moduli.2.map (Value.int .u64) := laid_cells h
theorem named_moduli : Tryd.prog.globalNamed "chronicle/field.moduli" = some 4 := by kernel_rfl
theorem type_moduli : (Tryd.prog.globals[4]?).map (·.type) = some 98 := by kernel_rfl
theorem cells_d {W : World} (cs : List Value) (fuel : Nat) (p : List MemPlace) (h : DataW.trod (fun _ => ()) Tryd.prog W 0 (fun _ => true) false fuel 33 cs = some (Rows.laid_chronicle_ed_d, p)) : cs = v_d.2.map (Value.int .u64) := nat_cells h rfl
theorem named_d : Tryd.prog.globalNamed "chronicle/ed.d" = some 1 := by kernel_rfl
theorem type_d : (Tryd.prog.globals[1]?).map (·.type) = some 33 := by kernel_rfl
theorem cells_twice {W : World} (cs : List Value) (fuel : Nat) (p : List MemPlace) (h : DataW.trod (fun _ => ()) Tryd.prog W 0 (fun _ => true) false fuel 33 cs = some (Rows.laid_chronicle_ed_twice, p)) : cs = v_twice.2.map (Value.int .u64) := nat_cells h rfl
theorem named_twice : Tryd.prog.globalNamed "chronicle/ed.twice" = some 6 := by kernel_rfl
theorem type_twice : (Tryd.prog.globals[6]?).map (·.type) = some 33 := by kernel_rfl
theorem cells_root {W : World} (cs : List Value) (fuel : Nat) (p : List MemPlace) (h : DataW.trod (fun _ => ()) Tryd.prog W 0 (fun _ => true) false fuel 33 cs = some (Rows.laid_chronicle_ed_root, p)) : cs = v_root.2.map (Value.int .u64) := nat_cells h rfl
theorem named_root : Tryd.prog.globalNamed "chronicle/ed.root" = some 5 := by kernel_rfl
theorem type_root : (Tryd.prog.globals[5]?).map (·.type) = some 33 := by kernel_rfl
theorem cells_one {W : World} (cs : List Value) (fuel : Nat) (p : List MemPlace) (h : DataW.trod (fun _ => ()) Tryd.prog W 0 (fun _ => true) false fuel 33 cs = some (Rows.laid_chronicle_ed_one, p)) : cs = v_one.2.map (Value.int .u64) := nat_cells h rfl
theorem named_one : Tryd.prog.globalNamed "chronicle/ed.one" = some 0 := by kernel_rfl
theorem type_one : (Tryd.prog.globals[0]?).map (·.type) = some 33 := by kernel_rfl
theorem cells_neutral {W : World} (cs : List Value) (fuel : Nat) (p : List MemPlace) (h : DataW.trod (fun _ => ()) Tryd.prog W 0 (fun _ => true) false fuel 82 cs = some (Rows.laid_chronicle_ed_neutral, p)) : cs = v_neutral.2.map (Value.int .u64) := by
 obtain ⟨y0, y1, y2, y3, n, h2, hl, h3, h4, h5, h6⟩ := Go.Joins.trod_struct4 Tryd.underlying82 h
 have ht : Tryd.prog.cellsOf 33 = 4 := by kernel_rfl
 rw [show Tryd.prog.cellsOf 82 = 16 by kernel_rfl] at hl
 simp only [Rows.laid_chronicle_ed_neutral, Prod.mk.injEq, DataW.agg.injEq, List.cons.injEq, and_true] at h2
 obtain ⟨⟨e0, e1, e2, e3⟩, _⟩ := h2
 have k0 := nat_cells (show DataW.trod _ Tryd.prog W 0 _ false n 33 ((cs.drop 0).take (Tryd.prog.cellsOf 33)) = _ from h3) e0.symm
 have k1 := nat_cells (show DataW.trod _ Tryd.prog W 0 _ false n 33 ((cs.drop 4).take (Tryd.prog.cellsOf 33)) = _ from h4) e1.symm
 have k2 := nat_cells (show DataW.trod _ Tryd.prog W 0 _ false n 33 ((cs.drop 8).take (Tryd.prog.cellsOf 33)) = _ from h5) e2.symm
 have k3 := nat_cells (show DataW.trod _ Tryd.prog W 0 _ false n 33 ((cs.drop 12).take (Tryd.prog.cellsOf 33)) = _ from h6) e3.symm
 rw [ht] at k0 k1 k2 k3
 exact quads cs hl k0 k1 k2 k3
theorem named_neutral : Tryd.prog.globalNamed "chronicle/ed.neutral" = some 2 := by kernel_rfl
theorem type_neutral : (Tryd.prog.globals[2]?).map (·.type) = some 82 := by kernel_rfl
theorem cells_first {W : World} (cs : List Value) (fuel : Nat) (p : List MemPlace) (h : DataW.trod (fun _ => ()) Tryd.prog W 0 (fun _ => true) false fuel 96 cs = some (Rows.laid_chronicle_sha512_first, p)) : cs = v_first.2.map (Value.int .u64) := arr_cells (n := 8) (l := v_first.2) Tryd.underlying96 (by kernel_rfl) h rfl
theorem named_first : Tryd.prog.globalNamed "chronicle/sha512.first" = some 3 := by kernel_rfl
theorem type_first : (Tryd.prog.globals[3]?).map (·.type) = some 96 := by kernel_rfl
theorem cells_constants {W : World} (cs : List Value) (fuel : Nat) (p : List MemPlace) (h : DataW.trod (fun _ => ()) Tryd.prog W 0 (fun _ => true) false fuel 105 cs = some (Rows.laid_chronicle_sha512_constants, p)) : cs = v_constants.2.map (Value.int .u64) := arr_cells (n := 80) (l := v_constants.2) Tryd.underlying105 (by kernel_rfl) h rfl
theorem named_constants : Tryd.prog.globalNamed "chronicle/sha512.constants" = some 7 := by kernel_rfl
theorem type_constants : (Tryd.prog.globals[7]?).map (·.type) = some 105 := by kernel_rfl
abbrev LaidMet (W : World) : Prop := laidMet Tryd.prog [("chronicle/field.moduli", Rows.laid_chronicle_field_moduli), ("chronicle/ed.d", Rows.laid_chronicle_ed_d), ("chronicle/ed.twice", Rows.laid_chronicle_ed_twice), ("chronicle/ed.root", Rows.laid_chronicle_ed_root), ("chronicle/ed.one", Rows.laid_chronicle_ed_one), ("chronicle/ed.neutral", Rows.laid_chronicle_ed_neutral), ("chronicle/sha512.first", Rows.laid_chronicle_sha512_first), ("chronicle/sha512.constants", Rows.laid_chronicle_sha512_constants)] W
def tvOf (W : World) : TX := { ty := tyOf W, vs := [v_moduli, v_d, v_twice, v_root, v_one, v_neutral, v_first, v_constants], moduli := by simp, d := by simp, twice := by simp, root := by simp, one := by simp, neutral := by simp, first := by simp, constants := by simp }
theorem le_of_laid {W : World} (h : LaidMet W) : (LX (tvOf W)).K ≤ W.heap.size ∧ (LX (tvOf W)).G W := by
 obtain ⟨ps, h0, _⟩ := h
 obtain ⟨e_moduli, q1, h1⟩ := var_step v_moduli.2 named_moduli type_moduli cells_moduli h0
 obtain ⟨e_d, q2, h2⟩ := var_step v_d.2 named_d type_d cells_d h1
 obtain ⟨e_twice, q3, h3⟩ := var_step v_twice.2 named_twice type_twice cells_twice h2
 obtain ⟨e_root, q4, h4⟩ := var_step v_root.2 named_root type_root cells_root h3
 obtain ⟨e_one, q5, h5⟩ := var_step v_one.2 named_one type_one cells_one h4
 obtain ⟨e_neutral, q6, h6⟩ := var_step v_neutral.2 named_neutral type_neutral cells_neutral h5
 obtain ⟨e_first, q7, h7⟩ := var_step v_first.2 named_first type_first cells_first h6
 obtain ⟨e_constants, q8, h8⟩ := var_step v_constants.2 named_constants type_constants cells_constants h7
 refine ⟨KV_le fun x hx => ?_, fun x hx => ?_⟩
 ·have hx' : x ∈ [v_moduli, v_d, v_twice, v_root, v_one, v_neutral, v_first, v_constants] := hx
  simp only [List.mem_cons, List.not_mem_nil, or_false] at hx'
  rcases hx' with rfl | rfl | rfl | rfl | rfl | rfl | rfl | rfl
  ·obtain ⟨fz, e⟩ := e_moduli
   exact (Array.getElem?_eq_some_iff.1 e).1
  ·obtain ⟨fz, e⟩ := e_d
   exact (Array.getElem?_eq_some_iff.1 e).1
  ·obtain ⟨fz, e⟩ := e_twice
   exact (Array.getElem?_eq_some_iff.1 e).1
  ·obtain ⟨fz, e⟩ := e_root
   exact (Array.getElem?_eq_some_iff.1 e).1
  ·obtain ⟨fz, e⟩ := e_one
   exact (Array.getElem?_eq_some_iff.1 e).1
  ·obtain ⟨fz, e⟩ := e_neutral
   exact (Array.getElem?_eq_some_iff.1 e).1
  ·obtain ⟨fz, e⟩ := e_first
   exact (Array.getElem?_eq_some_iff.1 e).1
  ·obtain ⟨fz, e⟩ := e_constants
   exact (Array.getElem?_eq_some_iff.1 e).1
 ·have hx' : x ∈ [v_moduli, v_d, v_twice, v_root, v_one, v_neutral, v_first, v_constants] := hx
  simp only [List.mem_cons, List.not_mem_nil, or_false] at hx'
  rcases hx' with rfl | rfl | rfl | rfl | rfl | rfl | rfl | rfl
  ·exact e_moduli
  ·exact e_d
  ·exact e_twice
  ·exact e_root
  ·exact e_one
  ·exact e_neutral
  ·exact e_first
  ·exact e_constants
def layAt (h : Array Obj) (g : Nat) (l : List Int) : Array Obj := h.modify g fun
 | .cells _ t frozen => .cells (litCells l) t frozen
 | o => o
noncomputable def laidWorld (os : Os) : World :=
 { World.holding Tryd.prog os ⟨#[], #[], []⟩ with heap := layAt (layAt (layAt (layAt (layAt (layAt (layAt (layAt ((World.holding Tryd.prog os ⟨#[], #[], []⟩).heap) 4 v_moduli.2) 1 v_d.2) 6 v_twice.2) 5 v_root.2) 0 v_one.2) 2 v_neutral.2) 3 v_first.2) 7 v_constants.2 }
theorem lit_no_iface (l : List Int) (i : Nat) (u : TypeId) (v : Value) : (litCells l)[i]? ≠ some (.iface u v) := by
 unfold litCells
 rw [List.getElem?_toArray, List.getElem?_map]
 cases l[i]? <;> simp
theorem row_place {g n b off : Nat} {q : List MemPlace} (h : MemPlace.cell b off ∈ MemPlace.row ⟨g, 0, none⟩ n ++ [] ++ q) : b = g ∨ MemPlace.cell b off ∈ q := by
 simp only [List.append_nil, List.mem_append] at h
 rcases h with h | h
 ·left
  simp only [MemPlace.row, List.mem_map] at h
  obtain ⟨i, _, e⟩ := h
  simp at e
  exact e.1.symm
 ·exact .inr h
set_option maxRecDepth 100000 in
theorem good_place {W : World} {g : Nat} {l : List Int} {t : TypeId} (h : W.heap[g]? = some (.cells (litCells l) t (0, 0))) (off : Nat) :
  (∃ c t, W.heap[g]? = some (.cells c t (0, 0))) ∧ ∀ u v, W.cell? ⟨g, off, none⟩ = some (.iface u v) → Value.okWide Tryd.prog W .any 0 u v := by
 refine ⟨⟨_, _, h⟩, fun u v hc => ?_⟩
 simp only [World.cell?, h] at hc
 exact absurd hc (by simpa using lit_no_iface l _ u v)
theorem row_moduli (os : Os) (args : Array Value) : ((laidWorld os).forCall (fun _ _ => 0) ⟨#[], args, []⟩).memory.heap[4]? = some (.cells (litCells v_moduli.2) 98 (0, 0)) := by kernel_rfl
theorem row_d (os : Os) (args : Array Value) : ((laidWorld os).forCall (fun _ _ => 0) ⟨#[], args, []⟩).memory.heap[1]? = some (.cells (litCells v_d.2) 33 (0, 0)) := by kernel_rfl
theorem row_twice (os : Os) (args : Array Value) : ((laidWorld os).forCall (fun _ _ => 0) ⟨#[], args, []⟩).memory.heap[6]? = some (.cells (litCells v_twice.2) 33 (0, 0)) := by kernel_rfl
theorem row_root (os : Os) (args : Array Value) : ((laidWorld os).forCall (fun _ _ => 0) ⟨#[], args, []⟩).memory.heap[5]? = some (.cells (litCells v_root.2) 33 (0, 0)) := by kernel_rfl
theorem row_one (os : Os) (args : Array Value) : ((laidWorld os).forCall (fun _ _ => 0) ⟨#[], args, []⟩).memory.heap[0]? = some (.cells (litCells v_one.2) 33 (0, 0)) := by kernel_rfl
theorem row_neutral (os : Os) (args : Array Value) : ((laidWorld os).forCall (fun _ _ => 0) ⟨#[], args, []⟩).memory.heap[2]? = some (.cells (litCells v_neutral.2) 82 (0, 0)) := by kernel_rfl
theorem row_first (os : Os) (args : Array Value) : ((laidWorld os).forCall (fun _ _ => 0) ⟨#[], args, []⟩).memory.heap[3]? = some (.cells (litCells v_first.2) 96 (0, 0)) := by kernel_rfl
theorem row_constants (os : Os) (args : Array Value) : ((laidWorld os).forCall (fun _ _ => 0) ⟨#[], args, []⟩).memory.heap[7]? = some (.cells (litCells v_constants.2) 105 (0, 0)) := by kernel_rfl
theorem laidWorld_met (os : Os) (args : Array Value) : LaidMet ((laidWorld os).forCall (fun _ _ => 0) ⟨#[], args, []⟩).memory := by
 refine ⟨_, ⟨4, 98, litCells v_moduli.2, 8, [], _, named_moduli, type_moduli, by kernel_rfl, by kernel_rfl, ⟨1, 33, litCells v_d.2, 8, [], _, named_d, type_d, by kernel_rfl, by kernel_rfl, ⟨6, 33, litCells v_twice.2, 8, [], _, named_twice, type_twice, by kernel_rfl, by kernel_rfl, ⟨5, 33, litCells v_root.2, 8, [], _, named_root, type_root, by kernel_rfl, by kernel_rfl, ⟨0, 33, litCells v_one.2, 8, [], _, named_one, type_one, by kernel_rfl, by kernel_rfl, ⟨2, 82, litCells v_neutral.2, 8, [], _, named_neutral, type_neutral, by kernel_rfl, by kernel_rfl, ⟨3, 96, litCells v_first.2, 8, [], _, named_first, type_first, by kernel_rfl, by kernel_rfl, ⟨7, 105, litCells v_constants.2, 8, [], _, named_constants, type_constants, by kernel_rfl, by kernel_rfl, rfl, rfl⟩, rfl⟩, rfl⟩, rfl⟩, rfl⟩, rfl⟩, rfl⟩, rfl⟩, of_decide_eq_true (by kernel_rfl), fun b off h => ?_⟩
 rcases row_place h with rfl | h
 ·exact good_place (row_moduli os args) off
 rcases row_place h with rfl | h
 ·exact good_place (row_d os args) off
 rcases row_place h with rfl | h
 ·exact good_place (row_twice os args) off
 rcases row_place h with rfl | h
 ·exact good_place (row_root os args) off
 rcases row_place h with rfl | h
 ·exact good_place (row_one os args) off
 rcases row_place h with rfl | h
 ·exact good_place (row_neutral os args) off
 rcases row_place h with rfl | h
 ·exact good_place (row_first os args) off
 rcases row_place h with rfl | h
 ·exact good_place (row_constants os args) off
 ·cases h
end Go.Proofs.YtkckmpnkacdchaaDoor
