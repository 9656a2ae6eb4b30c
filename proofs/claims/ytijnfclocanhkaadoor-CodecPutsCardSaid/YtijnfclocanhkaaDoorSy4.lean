/- Symbolic operations on memory, and calls. -/
import Derived.Test.YtijnfclocanhkaaDoorSy3
set_option linter.unusedVariables false
set_option linter.unusedSimpArgs false
namespace Go.Sx
open Go Go.RowKit

section
variable {P : Program} {v : Env} {s : Sig} {o : Oper}

/-! ### making memory -/
def zeroA (P : Program) (t : TypeId) : Option A :=
  match P.info? t with
  | some i => match i.zero with | some z => aOf z | none => none
  | none => none

theorem zeroA_run {t : TypeId} {a : A} (h : zeroA P t = some a) : ∃ z, aOf z = some a ∧ ∀ w, (zeroValue t).run P w = .ok z w := by
  unfold zeroA at h
  cases hi : P.info? t with
  | none => simp [hi] at h
  | some i =>
    cases hz : i.zero with
    | none => simp [hi, hz] at h
    | some z => exact ⟨z, by simpa [hi, hz] using h, fun w => by simp [zeroValue, typeInfo, hi, hz]⟩

def newBlk (t : TypeId) (cells : List A) : Blk := ⟨t, cells, false, true, false, none⟩
def newRowB (t : TypeId) (k : IntKind) (l : I) : Blk := ⟨t, [], true, true, false, some (k, l)⟩

theorem does_newB {x0 : Nat} {b : Blk} {y : AV} {ev nv ora} (hd : ∀ d, o.dst = some d → d < s.n) (hx : s.mem x0 = none)
    (h : ∀ a w p, RelP v s a w p → ∃ cs : Array Value, (∀ q : Mp, p.le q → b.holds v q cs.toList) ∧ (∀ u ∈ cs.toList, u.oneCell' = true) ∧ ∀ q : Mp, p.le q → q x0 = some (w.heap.size, cs.size) →
      ∃ u, (execOp a.eval o).run P w = .ok (.value u) (w.alloc (.cells cs b.T)) ∧ y.Is v q u) :
    Does P v s o ⟨y, [(x0, b)], ev, nv, ora⟩ := by
  intro a w p hr K Q hK
  obtain ⟨cs, hl, h1, hu⟩ := h a w p hr
  obtain ⟨q, hq, hqx, hr'⟩ := hr.alloc (b := b) hx (fun q hq _ => hl q hq) h1
  obtain ⟨u, hrun, hy⟩ := hu q hq hqx
  unfold Oper.wp
  rw [hrun, Oper.upon_value]
  exact hK _ _ _ (hr'.put hd hy)

theorem does_new {x0 : Nat} {t : TypeId} {l : List A} {y : AV} {ev nv ora} (hd : ∀ d, o.dst = some d → d < s.n) (hx : s.mem x0 = none) (h1 : ∀ c ∈ l, c.oneCell = true)
    (h : ∀ a w p, RelP v s a w p → ∃ cs : Array Value, listIs v p l cs.toList ∧ ∀ q : Mp, p.le q → q x0 = some (w.heap.size, cs.size) →
      ∃ u, (execOp a.eval o).run P w = .ok (.value u) (w.alloc (.cells cs t)) ∧ y.Is v q u) :
    Does P v s o ⟨y, [(x0, newBlk t l)], ev, nv, ora⟩ := by
  refine does_newB hd hx fun a w p hr => ?_
  obtain ⟨cs, hl, hu⟩ := h a w p hr
  refine ⟨cs, fun q hq => ?_, hl.ones h1, hu⟩
  have hlen := hl.length
  refine ⟨fun _ => hlen, ?_⟩
  show listIs v q l (cs.toList.take l.length)
  rw [List.take_of_length_le (Nat.le_of_eq hlen)]
  exact hl.mono hq

theorem does_alloc {x0 : Nat} {t : TypeId} {z : A} (hd : ∀ d, o.dst = some d → d < s.n) (ho : o.op = .alloc t) (hz : zeroA P t = some z) (hx : s.mem x0 = none) (nv ora) :
    Does P v s o ⟨.one (.ptr x0 0), [(x0, newBlk t z.cells)], [], nv, ora⟩ := by
  obtain ⟨zv, hza, hrun⟩ := zeroA_run hz
  refine does_new hd hx (cells_one z) fun a w p h => ⟨zv.cells, (aOf_is (p := p) hza).cells, fun q hq hqx => ⟨.pointer (some ⟨w.heap.size, 0, none⟩), ?_, w.heap.size, _, hqx, rfl⟩⟩
  unfold execOp
  rw [ho]
  simp [Instr.alloc, hrun, newVar, newRow]

theorem does_box {x0 : Nat} {t : TypeId} {x : Operand} {y : A} (hd : ∀ d, o.dst = some d → d < s.n) (ho : o.op = .box t x) (hy : s.ev x = .one y) (hx : s.mem x0 = none) (nv ora) :
    Does P v s o ⟨.one (.ptr x0 0), [(x0, newBlk t y.cells)], [], nv, ora⟩ := by
  refine does_new hd hx (cells_one y) fun a w p h => ?_
  have := h.ev x
  rw [hy] at this
  refine ⟨(a.eval x).cells, A.Is.cells this, fun q hq hqx => ⟨.pointer (some ⟨w.heap.size, 0, none⟩), ?_, w.heap.size, _, hqx, rfl⟩⟩
  unfold execOp
  rw [ho]
  simp [Instr.box, newVar, newRow]

/-! ### loads -/
theorem cell_of {w : World} {p : Mp} {b : Blk} {r n off : Nat} {y : A} (h : b.Is v p v.w.heap.size w r n) (hd : b.dead = false) (hw : b.row = none) (hc : b.cells[off]? = some y) :
    ∃ u, w.cell? ⟨r, off, none⟩ = some u ∧ y.Is v p u := by
  obtain ⟨cs, fz, h1, h2, h3, h5⟩ := h hd
  unfold Blk.holds at h3
  rw [hw] at h3
  obtain ⟨h3, h4⟩ := h3
  obtain ⟨u, hu, hy⟩ := h4.get off y hc
  refine ⟨u, ?_, hy⟩
  have hlt : off < b.cells.length := (List.getElem?_eq_some_iff.1 hc).1
  rw [List.getElem?_take, if_pos hlt] at hu
  simp only [World.cell?, h1]
  simpa using hu

theorem range_of {w : World} {p : Mp} {b : Blk} {r n off len : Nat} {ss : List Sc} (h : b.Is v p v.w.heap.size w r n) (hd : b.dead = false) (hw : b.row = none) (hc : scs ((b.cells.drop off).take len) = some ss) :
    w.rangeAt r off (ss.map (Sc.den v)) := by
  obtain ⟨cs, fz, h1, h2, h3, h5⟩ := h hd
  unfold Blk.holds at h3
  rw [hw] at h3
  obtain ⟨h3, h4⟩ := h3
  have hl := scs_is hc ((h4.drop off).take len)
  intro j u hj
  rw [← hl] at hj
  simp only [World.cell?, h1]
  rw [List.getElem?_take] at hj
  split at hj
  · rw [List.getElem?_drop, List.getElem?_take] at hj
    split at hj
    · simpa using hj
    · cases hj
  · cases hj

theorem does_load_one {t : TypeId} {x : Operand} {m off : Nat} {b : Blk} {y : A} (hd : ∀ d, o.dst = some d → d < s.n) (ho : o.op = .load t x) (hx : s.ev x = .one (.ptr m off)) (hm : s.mem m = some b) (hb : b.dead = false) (hw : b.row = none)
    (ha : isAggT P t = some false) (hc : b.cells[off]? = some y) (nv ora) : Does P v s o ⟨.one y, [], [], nv, ora⟩ := by
  refine does_value hd fun a w p h => ?_
  have := h.ev x
  rw [hx] at this
  obtain ⟨r, n, hp, e⟩ := this
  obtain ⟨hlt, hB⟩ := h.at hm hp
  obtain ⟨u, hu, hy⟩ := cell_of hB hb hw hc
  refine ⟨u, ?_, hy⟩
  unfold execOp
  rw [ho]
  simp [e, Instr.loadAt, Instr.sureAddr, loadVar, run_isAgg ha, hu]

theorem does_load_agg {t : TypeId} {x : Operand} {m off : Nat} {b : Blk} {ss : List Sc} (hd : ∀ d, o.dst = some d → d < s.n) (ho : o.op = .load t x) (hx : s.ev x = .one (.ptr m off)) (hm : s.mem m = some b) (hb : b.dead = false) (hw : b.row = none)
    (ha : isAggT P t = some true) (hi : (P.info? t).map (·.size) = some ss.length) (hc : scs ((b.cells.drop off).take ss.length) = some ss) (nv ora) : Does P v s o ⟨.one (.agg ss), [], [], nv, ora⟩ := by
  refine does_value hd fun a w p h => ?_
  have := h.ev x
  rw [hx] at this
  obtain ⟨r, n, hp, e⟩ := this
  obtain ⟨hlt, hB⟩ := h.at hm hp
  have hr := range_of hB hb hw hc
  have hd' : ∃ d : TypeDesc, P.underlying t = some d ∧ d.isRow = true := by
    unfold isAggT at ha
    cases hu : P.underlying t with
    | none => simp [hu] at ha
    | some d => refine ⟨d, rfl, ?_⟩; cases d <;> simp_all
  obtain ⟨d, hu, hd2⟩ := hd'
  refine ⟨.agg (ss.map (Sc.den v)).toArray, ?_, rfl⟩
  unfold execOp
  rw [ho]
  simp [e, Instr.loadAt, Instr.sureAddr, run_loadVar_mid w r off t (ss.map (Sc.den v)) d hr hu hd2 (by simpa using hi)]

/-! ### stores -/
theorem holds_cells {p : Mp} {b : Blk} {l : List A} {cs : List Value} (hw : b.row = none) (h1 : b.more = false → cs.length = l.length) (h2 : listIs v p l (cs.take l.length)) : ({ b with cells := l } : Blk).holds v p cs := by
  unfold Blk.holds
  simp only [hw]
  exact ⟨h1, h2⟩
def putCells (l : List A) (off : Nat) (cs : List A) : List A := l.take off ++ cs ++ l.drop (off + cs.length)

theorem does_store {t : TypeId} {x y : Operand} {m off : Nat} {b : Blk} {z : A} (hd : ∀ d, o.dst = some d → d < s.n) (ho : o.op = .store t x y) (hx : s.ev x = .one (.ptr m off)) (hy : s.ev y = .one z) (hm : s.mem m = some b) (hb : b.dead = false) (hw : b.row = none) (hown : b.own = true)
    (hi : (P.info? t).map (·.size) = some z.cells.length) (hlen : off + z.cells.length ≤ b.cells.length) (nv ora) : Does P v s o ⟨.undef, [(m, { b with cells := putCells b.cells off z.cells })], [], nv, ora⟩ := by
  intro a w p h K Q hK
  have hxx := h.ev x
  rw [hx] at hxx
  obtain ⟨r, n, hp, e⟩ := hxx
  obtain ⟨hlt, hB⟩ := h.at hm hp
  obtain ⟨cs, fz, h1, h2, h3, h5⟩ := hB hb
  unfold Blk.holds at h3
  rw [hw] at h3
  obtain ⟨h3, h4⟩ := h3
  obtain ⟨h6, rfl, h7⟩ := h5 hown
  have hyy := h.ev y
  rw [hy] at hyy
  have hc := A.Is.cells hyy
  have hcl := hc.length
  have hones := hc.ones (cells_one z)
  have hbl := h4.length
  have hcs : b.cells.length ≤ cs.size := by
    rw [List.length_take] at hbl
    simp only [Array.length_toList] at hbl
    omega
  have hst := run_storeCells_at P r off b.T (a.eval y).cells.toList 0 cs w h1 (by omega) hones
  simp only [Nat.add_zero] at hst
  have hsz : ((a.eval y).cells.size ≠ ((P.info? t).map (·.size)).getD 0) = False := by
    rw [hi]
    simp only [Option.getD_some, ne_eq, eq_iff_iff, iff_false, Decidable.not_not]
    simpa using hcl
  cases hq : P.info? t with
  | none => simp [hq] at hi
  | some i =>
    simp only [hq, Option.map_some, Option.some.injEq] at hi
    have hsz' : (a.eval y).cells.size = i.size := by rw [hi]; simpa using hcl
    unfold Oper.wp
    have hrun : (execOp a.eval o).run P w = .ok .skip (w.setRow r (cs.toList.take off ++ (a.eval y).cells.toList ++ cs.toList.drop (off + (a.eval y).cells.toList.length)).toArray) := by
      unfold execOp
      rw [ho]
      simp [e, Instr.storeAt, Instr.sureAddr, storeVar, sizeOf, typeInfo, hq, hsz', hst]
    rw [hrun, Oper.upon_skip]
    have hrel := h.store (x := m) (b := b) (b' := { b with cells := putCells b.cells off z.cells }) (cs' := (cs.toList.take off ++ (a.eval y).cells.toList ++ cs.toList.drop (off + (a.eval y).cells.toList.length)).toArray)
      hm hb h6 hp h1 rfl (fun _ => rfl) ?_ (holds_cells hw ?_ ?_) ?_
    · exact hK _ _ _ (hrel.put hd trivial)
    · rw [← h2]; simp; omega
    · intro hmo; have := h3 hmo; simp only [Array.length_toList] at this; simp [putCells]; omega
    · have hpl : (putCells b.cells off z.cells).length = b.cells.length := by simp [putCells]; omega
      rw [hpl]
      have e1 := h4.take off
      have e2 := h4.drop (off + z.cells.length)
      have := (e1.append hc).append e2
      unfold putCells
      have heq : (cs.toList.take off ++ (a.eval y).cells.toList ++ cs.toList.drop (off + (a.eval y).cells.toList.length)).toArray.toList.take b.cells.length =
          (cs.toList.take b.cells.length).take off ++ (a.eval y).cells.toList ++ (cs.toList.take b.cells.length).drop (off + z.cells.length) := by
        rw [hcl]
        apply List.ext_getElem?
        intro j
        simp only [List.getElem?_take, List.getElem?_append, List.length_append, List.length_take, List.getElem?_drop, Array.length_toList]
        have hcl' : (a.eval y).cells.size = z.cells.length := by simpa using hcl
        have m1 : min off (min b.cells.length cs.size) = off := by omega
        have m2 : min off cs.size = off := by omega
        simp only [hcl', m1, m2]
        by_cases c1 : j < b.cells.length
        · rw [if_pos c1]
          by_cases c2 : j < off + z.cells.length
          · rw [if_pos c2, if_pos c2]
            by_cases c3 : j < off
            · rw [if_pos c3, if_pos c3, if_pos c3, if_pos c3, if_pos c1]
            · rw [if_neg c3, if_neg c3]
          · rw [if_neg c2, if_neg c2, if_pos (by omega)]
        · rw [if_neg c1, if_neg (by omega), if_neg (by omega)]
      rw [heq]
      exact this
    · intro u hu
      simp only [List.toList_toArray, List.mem_append] at hu
      rcases hu with (hu | hu) | hu
      · exact h7 u (List.mem_of_mem_take hu)
      · exact hones u hu
      · exact h7 u (List.mem_of_mem_drop hu)

/-! ### addresses -/
theorem does_indexAddr_array {t e : TypeId} {x i : Operand} {m off n : Nat} {k : IntKind} {j : Int} (hd : ∀ d, o.dst = some d → d < s.n) (ho : o.op = .indexAddr t x i) (hx : s.ev x = .one (.ptr m off)) (hi : s.ev i = .one (.sc (.int k (.lit j))))
    (hu : P.underlying t = some (.array n e)) (hs : (P.info? e).isSome = true) (h0 : 0 ≤ j) (h1 : j < n) (nv ora) : Does P v s o ⟨.one (.ptr m (off + j.toNat * P.cellsOf e)), [], [], nv, ora⟩ := by
  refine does_value hd fun a w p h => ?_
  have hxx := h.ev x
  rw [hx] at hxx
  obtain ⟨r, n', hp, ex⟩ := hxx
  have hii := h.ev i
  rw [hi] at hii
  have ei : a.eval i = .int k j := hii
  obtain ⟨ti, hti⟩ := Option.isSome_iff_exists.1 hs
  refine ⟨_, ?_, r, n', hp, rfl⟩
  unfold execOp
  rw [ho]
  simp [ex, ei, Instr.indexAt, asIntOf, run_underlying hu, Instr.sureAddr, h0, h1, run_sizeOf w hti, Addr.add_mid]

theorem does_indexAddr_slice {t e : TypeId} {x i : Operand} {m off len : Nat} {cap : Option Nat} {k : IntKind} {j : Int} (hd : ∀ d, o.dst = some d → d < s.n) (ho : o.op = .indexAddr t x i) (hx : s.ev x = .one (.slc m off len cap)) (hi : s.ev i = .one (.sc (.int k (.lit j))))
    (hu : P.underlying t = some (.slice e)) (hs : (P.info? e).isSome = true) (h0 : 0 ≤ j) (h1 : j < len) (nv ora) : Does P v s o ⟨.one (.ptr m (off + j.toNat * P.cellsOf e)), [], [], nv, ora⟩ := by
  refine does_value hd fun a w p h => ?_
  have hxx := h.ev x
  rw [hx] at hxx
  obtain ⟨r, n', hp, hn, ex, hcap⟩ := hxx
  have hii := h.ev i
  rw [hi] at hii
  have ei : a.eval i = .int k j := hii
  obtain ⟨ti, hti⟩ := Option.isSome_iff_exists.1 hs
  refine ⟨_, ?_, r, n', hp, rfl⟩
  unfold execOp
  rw [ho]
  simp [ex, ei, Instr.indexAt, asIntOf, run_underlying hu, h0, h1, run_sizeOf w hti, Addr.add_mid]

theorem does_index {t e : TypeId} {x i : Operand} {l : List Sc} {n : Nat} {k : IntKind} {j : Int} {y : Sc} (hd : ∀ d, o.dst = some d → d < s.n) (ho : o.op = .index t x i) (hx : s.ev x = .one (.agg l)) (hi : s.ev i = .one (.sc (.int k (.lit j))))
    (hu : P.underlying t = some (.array n e)) (hs : (P.info? e).isSome = true) (ha : isAggT P e = some false) (h0 : 0 ≤ j) (h1 : j < n) (hy : l[j.toNat * P.cellsOf e]? = some y) (nv ora) : Does P v s o ⟨.one (.sc y), [], [], nv, ora⟩ := by
  refine does_value hd fun a w p h => ⟨y.den v, ?_, rfl⟩
  have hxx := h.ev x
  rw [hx] at hxx
  have ex : a.eval x = .agg (l.map (Sc.den v)).toArray := hxx
  have hii := h.ev i
  rw [hi] at hii
  have ei : a.eval i = .int k j := hii
  obtain ⟨ti, hti⟩ := Option.isSome_iff_exists.1 hs
  unfold execOp
  rw [ho]
  simp [ex, ei, Instr.index, asIntOf, run_underlying hu, h0, h1, run_sizeOf w hti, part, run_isAgg ha, hy]

theorem does_fieldAddr {t : TypeId} {x : Operand} {m off i : Nat} {fs : Array Field} {f : Field} (hd : ∀ d, o.dst = some d → d < s.n) (ho : o.op = .fieldAddr t x i) (hx : s.ev x = .one (.ptr m off))
    (hu : P.underlying t = some (.struct fs)) (hf : fs[i]? = some f) (hs : (P.info? f.type).isSome = true) (h0 : P.cellsOf f.type ≠ 0) (nv ora) : Does P v s o ⟨.one (.ptr m (off + f.offset)), [], [], nv, ora⟩ := by
  refine does_value hd fun a w p h => ?_
  have hxx := h.ev x
  rw [hx] at hxx
  obtain ⟨r, n', hp, ex⟩ := hxx
  obtain ⟨ti, hti⟩ := Option.isSome_iff_exists.1 hs
  refine ⟨_, ?_, r, n', hp, rfl⟩
  unfold execOp
  rw [ho]
  simp [ex, Instr.fieldAt, run_underlying hu, hf, Instr.sureAddr, fieldPlace, run_sizeOf w hti, h0, Addr.add_mid]

def A.ofL (P : Program) (t : TypeId) (l : List Sc) : Option A :=
  match isAggT P t with
  | some true => some (.agg l)
  | some false => match l with | [x] => some (.sc x) | _ => none
  | none => none

theorem A.ofL_is {t : TypeId} {l : List Sc} {a : A} (h : A.ofL P t l = some a) (p : Mp) : a.Is v p (valL P v t l) := by
  unfold A.ofL at h
  split at h
  · rename_i e; simp only [Option.some.injEq] at h; subst h; simp only [valL, e]; rfl
  · rename_i e
    split at h
    · simp only [Option.some.injEq] at h; subst h; simp only [valL, e]; rfl
    · cases h
  · cases h

theorem does_field {t : TypeId} {x : Operand} {i : Nat} {l : List Sc} {fs : Array Field} {f : Field} {y : A} (hd : ∀ d, o.dst = some d → d < s.n) (ho : o.op = .field t x i) (hx : s.ev x = .one (.agg l))
    (hu : P.underlying t = some (.struct fs)) (hf : fs[i]? = some f) (hs : (P.info? f.type).isSome = true) (hl : f.offset + P.cellsOf f.type ≤ l.length) (h1 : isAggT P f.type = some false → P.cellsOf f.type = 1) (hy : A.ofL P f.type (partL P f.type l f.offset) = some y) (nv ora) :
    Does P v s o ⟨.one y, [], [], nv, ora⟩ := by
  refine does_value hd fun a w p h => ⟨_, ?_, A.ofL_is hy p⟩
  have hxx := h.ev x
  rw [hx] at hxx
  have ex : a.eval x = .agg (l.map (Sc.den v)).toArray := hxx
  obtain ⟨ti, hti⟩ := Option.isSome_iff_exists.1 hs
  obtain ⟨bb, hbb⟩ : ∃ bb, isAggT P f.type = some bb := by
    unfold A.ofL at hy
    cases hq : isAggT P f.type with
    | none => simp [hq] at hy
    | some bb => exact ⟨bb, rfl⟩
  have hr := run_partL (v := v) hti hbb hl (fun e => h1 (by rw [hbb, e])) w
  unfold execOp
  rw [ho]
  simp only [ex, Instr.field, Sem.run_bind, run_underlying hu, Result.andThen_ok, hf, asAgg, Sem.run_pure, hr]

/-! ### building -/
def fillA (place : Nat → Option (Nat × Nat)) (cells : List A) : List (Nat × A) → Option (List A)
  | [] => some cells
  | (i, a) :: rest =>
    match place i with
    | none => none
    | some (off, size) =>
      if a.cells.length ≠ size ∨ off + a.cells.length > cells.length then none
      else fillA place (a.cells.zipIdx.foldl (fun cs cj => cs.set (off + cj.2) cj.1) cells) rest

theorem zip_is {p : Mp} (off : Nat) : ∀ {as : List A} {us : List Value}, listIs v p as us → ∀ (k : Nat) {cells : List A} {l : Array Value}, listIs v p cells l.toList →
    listIs v p ((as.zipIdx k).foldl (fun cs cj => cs.set (off + cj.2) cj.1) cells) ((us.zipIdx k).foldl (fun cs cj => cs.setIfInBounds (off + cj.2) cj.1) l).toList
  | [], us, h, k, cells, l, hc => by rw [show us = [] from h]; exact hc
  | a :: as, us, ⟨u, us', e, h1, h2⟩, k, cells, l, hc => by
    subst e
    simp only [List.zipIdx_cons, List.foldl_cons]
    refine zip_is off h2 (k + 1) ?_
    have := hc.set (off + k) a u h1
    simpa using this

def partsIs (v : Env) (p : Mp) : List (Nat × A) → List (Nat × Value) → Prop
  | [], l => l = []
  | (i, a) :: as, l => ∃ u us, l = (i, u) :: us ∧ a.Is v p u ∧ partsIs v p as us

theorem fill_is {p : Mp} (place : Nat → Option (Nat × Nat)) : ∀ (as : List (Nat × A)) (us : List (Nat × Value)), partsIs v p as us → ∀ (cells : List A) (l : Array Value), listIs v p cells l.toList → ∀ r, fillA place cells as = some r →
    ∃ l', Instr.fill place l us = some l' ∧ listIs v p r l'.toList
  | [], us, h, cells, l, hc, r, hr => by
    rw [show us = [] from h]
    simp only [fillA, Option.some.injEq] at hr
    subst hr
    exact ⟨l, rfl, hc⟩
  | (i, a) :: as, us, ⟨u, us', e, h1, h2⟩, cells, l, hc, r, hr => by
    subst e
    simp only [fillA] at hr
    unfold Instr.fill
    cases hp : place i with
    | none => simp [hp] at hr
    | some os =>
      obtain ⟨off, size⟩ := os
      simp only [hp] at hr
      split at hr
      · cases hr
      · rename_i hn
        have hcl := (A.Is.cells h1).length
        have hll := hc.length
        simp only [Array.length_toList] at hcl hll
        have hcond : ¬ ((decide (u.cells.size ≠ size) || decide (off + u.cells.size > l.size)) = true) := by
          simp only [Bool.or_eq_true, decide_eq_true_eq]
          omega
        have hz := zip_is off (A.Is.cells h1) 0 hc
        obtain ⟨l', hl', hr'⟩ := fill_is place as us' h2 _ ((u.cells.toList.zipIdx 0).foldl (fun cs cj => cs.setIfInBounds (off + cj.2) cj.1) l) hz r hr
        refine ⟨l', ?_, hr'⟩
        simp only []
        rw [if_neg hcond, ← hl']
        congr 1
        rw [← Array.foldl_toList, Array.toList_zipIdx]

def partsA (s : Sig) : List (Nat × Operand) → Option (List (Nat × A))
  | [] => some []
  | (i, x) :: l => match s.ev x, partsA s l with | .one a, some r => some ((i, a) :: r) | _, _ => none

theorem partsA_is {a : Act} {w : World} {p : Mp} (h : RelP v s a w p) : ∀ (l : List (Nat × Operand)) (r : List (Nat × A)), partsA s l = some r → partsIs v p r (l.map fun ix => (ix.1, a.eval ix.2))
  | [], r, hr => by simp only [partsA, Option.some.injEq] at hr; subst hr; rfl
  | (i, x) :: l, r, hr => by
    simp only [partsA] at hr
    split at hr
    · rename_i y r' hy hr'
      simp only [Option.some.injEq] at hr
      subst hr
      have := h.ev x
      rw [hy] at this
      exact ⟨_, _, rfl, this, partsA_is h l r' hr'⟩
    · cases hr

def sizesOf (P : Program) : List Field → Option (List (Nat × Nat))
  | [] => some []
  | f :: l => match P.info? f.type, sizesOf P l with | some i, some r => some ((f.offset, i.size) :: r) | _, _ => none

theorem sizesOf_run : ∀ (l : List Field) (r : List (Nat × Nat)), sizesOf P l = some r → ∀ w, (l.mapM fun f => (do pure (f.offset, ← sizeOf f.type) : Sem (Nat × Nat))).run P w = .ok r w
  | [], r, h, w => by simp only [sizesOf, Option.some.injEq] at h; subst h; rfl
  | f :: l, r, h, w => by
    simp only [sizesOf] at h
    split at h
    · rename_i i r' hi hr'
      simp only [Option.some.injEq] at h
      subst h
      have hs : (sizeOf f.type).run P w = .ok i.size w := by simp [sizeOf, typeInfo, hi]
      rw [List.mapM_cons]
      simp only [Sem.run_bind, hs, Result.andThen_ok, Sem.run_pure, sizesOf_run l r' hr']
    · cases h

def placeOf (P : Program) (t : TypeId) : Option (Nat → Option (Nat × Nat)) :=
  match P.underlying t with
  | some (.struct fs) => match sizesOf P fs.toList with | some l => some (fun i => l[i]?) | none => none
  | some (.array _ e) => if (P.info? e).isSome then some (fun i => some (i * P.cellsOf e, P.cellsOf e)) else none
  | _ => none

theorem does_build {t : TypeId} {parts : Array (Nat × Operand)} {pl : Nat → Option (Nat × Nat)} {z : A} {ps : List (Nat × A)} {r : List A} {ss : List Sc} (hd : ∀ d, o.dst = some d → d < s.n) (ho : o.op = .build t parts)
    (hz : zeroA P t = some z) (hpl : placeOf P t = some pl) (hps : partsA s parts.toList = some ps) (hr : fillA pl z.cells ps = some r) (hss : scs r = some ss) (nv ora) : Does P v s o ⟨.one (.agg ss), [], [], nv, ora⟩ := by
  obtain ⟨zv, hza, hrun⟩ := zeroA_run hz
  refine does_value hd fun a w p h => ?_
  have hpi := partsA_is h _ _ hps
  obtain ⟨l', hl', hli⟩ := fill_is pl ps _ hpi z.cells zv.cells (aOf_is (p := p) hza).cells r hr
  have he := scs_is hss hli
  refine ⟨.agg (ss.map (Sc.den v)).toArray, ?_, rfl⟩
  have hagg : l' = (ss.map (Sc.den v)).toArray := by apply Array.ext'; simpa using he
  rw [← hagg]
  unfold execOp
  rw [ho]
  have hmap : (parts.map fun (i, x) => (i, a.eval x)).toList = parts.toList.map fun ix => (ix.1, a.eval ix.2) := by simp
  unfold placeOf at hpl
  split at hpl
  · rename_i fs hu
    split at hpl
    · rename_i sz hsz
      simp only [Option.some.injEq] at hpl
      subst hpl
      have hm := sizesOf_run fs.toList sz hsz w
      have hm2 : (fs.mapM fun f => (do pure (f.offset, ← sizeOf f.type) : Sem (Nat × Nat))).run P w = .ok sz.toArray w := by
        rw [Array.mapM_eq_mapM_toList]
        simp only [Sem.run_map, hm, Result.andThen_ok]
      have hl2 : Instr.fill (fun x => sz.toArray[x]?) zv.cells (parts.toList.map fun ix => (ix.1, a.eval ix.2)) = some l' := by simpa using hl'
      simp only [Instr.build, Sem.run_bind, hrun, Result.andThen_ok, run_underlying hu, hm2, hmap, hl2, Sem.run_pure]
    · cases hpl
  · rename_i n e hu
    split at hpl
    · rename_i hs
      simp only [Option.some.injEq] at hpl
      subst hpl
      obtain ⟨ti, hti⟩ := Option.isSome_iff_exists.1 hs
      simp only [Instr.build, Sem.run_bind, hrun, Result.andThen_ok, run_underlying hu, run_sizeOf w hti, hmap, hl', Sem.run_pure]
    · cases hpl
  · cases hpl

end
end Go.Sx
