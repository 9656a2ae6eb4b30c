/- Symbolic operations on rows of numbers: places, slices, what is made and what grows. -/
import Derived.Test.YtijnfclocanhkaaDoorSy4
import Derived.Great.BuildSlice
import Derived.Laws.Cover3
set_option linter.unusedVariables false
set_option linter.unusedSimpArgs false
namespace Go.Sx
open Go Go.RowKit

section
variable {P : Program} {v : Env} {s : Sig} {o : Oper}

/-! ### what must hold of numbers -/
def nnI : I → Bool
  | .lit n => decide (0 ≤ n)
  | .len _ => true
  | .plen _ => true
  | .sum x y => nnI x && nnI y
  | _ => false
theorem nnI_ok : ∀ {x : I}, nnI x = true → 0 ≤ x.den v := by
  intro x
  induction x with
  | lit n => intro h; simp only [nnI] at h; simp only [I.den]; exact of_decide_eq_true h
  | len l => intro _; simp only [I.den]; omega
  | plen n => intro _; simp only [I.den]; omega
  | sum x y ih1 ih2 =>
    intro h
    simp only [nnI, Bool.and_eq_true] at h
    have h1 := ih1 h.1
    have h2 := ih2 h.2
    simp only [I.den]; omega
  | _ => intro h; simp [nnI] at h

def leEv (x y : I) : Option (List Ev) :=
  if x = y then some [] else
  match x, y with
  | .lit a, .lit b => if a ≤ b then some [] else none
  | .lit 0, y => if nnI y then some [] else some [Ev.dec (.cmp .leq (.lit 0) y) true]
  | x, y => some [Ev.dec (.cmp .leq x y) true]

def ltEv (x y : I) : Option (List Ev) :=
  match x, y with
  | .lit a, .lit b => if a < b then some [] else none
  | x, y => some [Ev.dec (.cmp .lss x y) true]

theorem leEv_ok {x y : I} {ev : List Ev} (h : leEv x y = some ev) (he : ∀ e ∈ ev, e.holds P v) : x.den v ≤ y.den v := by
  unfold leEv at h
  split at h
  · rename_i e; subst e; exact Int.le_refl _
  · split at h
    · split at h
      · rename_i hab; simpa [I.den] using hab
      · cases h
    · split at h
      · rename_i hn; have := nnI_ok (v := v) hn; simpa [I.den] using this
      · simp only [Option.some.injEq] at h
        subst h
        have := he _ (List.mem_singleton.2 rfl)
        simp only [Ev.holds, Bx.den, cmpD] at this
        exact of_decide_eq_true this
    · simp only [Option.some.injEq] at h
      subst h
      have := he _ (List.mem_singleton.2 rfl)
      simp only [Ev.holds, Bx.den, cmpD] at this
      exact of_decide_eq_true this

theorem ltEv_ok {x y : I} {ev : List Ev} (h : ltEv x y = some ev) (he : ∀ e ∈ ev, e.holds P v) : x.den v < y.den v := by
  unfold ltEv at h
  split at h
  · split at h
    · rename_i hab; simpa [I.den] using hab
    · cases h
  · simp only [Option.some.injEq] at h
    subst h
    have := he _ (List.mem_singleton.2 rfl)
    simp only [Ev.holds, Bx.den, cmpD] at this
    exact of_decide_eq_true this

/-! ### places -/
def placeA : A → Option (Nat × I)
  | .ptr m off => some (m, .lit off)
  | .bptr m i => some (m, i)
  | _ => none

theorem placeA_is {a : A} {m : Nat} {i : I} (h : placeA a = some (m, i)) {p : Mp} {u : Value} (k : a.Is v p u) : ∃ r N o, p m = some (r, N) ∧ i.den v = ((o : Nat) : Int) ∧ u = .pointer (some ⟨r, o, none⟩) := by
  cases a <;> simp only [placeA, Option.some.injEq, Prod.mk.injEq, reduceCtorEq] at h
  · obtain ⟨rfl, rfl⟩ := h
    obtain ⟨r, n, h1, h2⟩ := k
    exact ⟨r, n, _, h1, by simp only [I.den], h2⟩
  · obtain ⟨rfl, rfl⟩ := h
    exact k

/-- the numbers of a block, cell by cell -/
theorem nums_cell {w : World} {p : Mp} {b : Blk} {r n : Nat} (h : b.Is v p v.w.heap.size w r n) (hd : b.dead = false) {k : IntKind} {l : I} (hi : b.nums = some (k, l)) :
    ∃ cs fz, w.heap[r]? = some (.cells cs b.T fz) ∧ cs.size = n ∧ cs.toList.take (l.ldn v).length = (l.ldn v).map (Value.int k) ∧ (l.ldn v).length ≤ n ∧
      (∀ j x, (l.ldn v)[j]? = some x → w.cell? ⟨r, j, none⟩ = some (.int k x)) ∧ (b.own = true → v.w.heap.size ≤ r ∧ fz = (0, 0) ∧ ∀ u ∈ cs.toList, u.oneCell' = true) := by
  obtain ⟨cs, fz, h1, h2, h3, h4⟩ := h hd
  have h5 := h3.nums hi
  have hle : (l.ldn v).length ≤ cs.size := by
    have := congrArg List.length h5
    simp only [List.length_take, List.length_map, Array.length_toList] at this
    omega
  refine ⟨cs, fz, h1, h2, h5, by omega, fun j x hj => ?_, h4⟩
  have hlt : j < (l.ldn v).length := (List.getElem?_eq_some_iff.1 hj).1
  have e : (cs.toList.take (l.ldn v).length)[j]? = some (Value.int k x) := by rw [h5, List.getElem?_map, hj]; rfl
  rw [List.getElem?_take, if_pos hlt] at e
  simp only [World.cell?, h1]
  simpa using e

theorem getD_some {l : List Int} {j : Nat} (h : j < l.length) : l[j]? = some (l.getD j 0) := by
  rw [List.getD_eq_getElem?_getD, List.getElem?_eq_getElem h]; rfl

theorem does_load_num {t : TypeId} {x : Operand} {a : A} {m : Nat} {i l : I} {k : IntKind} {b : Blk} {ev : List Ev} (hd : ∀ d, o.dst = some d → d < s.n) (ho : o.op = .load t x) (hx : s.ev x = .one a) (hp : placeA a = some (m, i)) (hm : s.mem m = some b) (hb : b.dead = false)
    (ha : isAggT P t = some false) (hn : b.nums = some (k, l)) (hev : ltEv i (mkLen l) = some ev) (he : ∀ e ∈ ev, e.holds P v) (nv ora) : Does P v s o ⟨.one (.sc (.int k (mkGet l i))), [], ev, nv, ora⟩ := by
  refine does_value hd fun ac w p h => ?_
  have := h.ev x
  rw [hx] at this
  obtain ⟨r, N, q, h1, h2, e⟩ := placeA_is hp this
  obtain ⟨_, hB⟩ := h.at hm h1
  obtain ⟨cs, fz, _, _, _, _, hc, _⟩ := nums_cell hB hb hn
  have hlt := ltEv_ok hev he
  rw [mkLen_den, h2] at hlt
  have hj : q < (l.ldn v).length := by omega
  have hcell := hc q _ (getD_some hj)
  refine ⟨.int k ((l.ldn v).getD q 0), ?_, ?_⟩
  · unfold execOp
    rw [ho]
    simp [e, Instr.loadAt, Instr.sureAddr, loadVar, run_isAgg ha, hcell]
  · show _ = Sc.den v _
    simp only [Sc.den, mkGet_den, h2, Int.toNat_natCast]

/-- an array of numbers -/
def arrA (k : IntKind) (l i : I) (n : Nat) : List Sc := (List.range n).map fun (j : Nat) => .int k (mkGet l (mkSum i (.lit (j : Int))))

theorem does_load_arr {t : TypeId} {x : Operand} {a : A} {m n : Nat} {i l : I} {k : IntKind} {b : Blk} {ev : List Ev} (hd : ∀ d, o.dst = some d → d < s.n) (ho : o.op = .load t x) (hx : s.ev x = .one a) (hp : placeA a = some (m, i)) (hm : s.mem m = some b) (hb : b.dead = false)
    (ha : isAggT P t = some true) (hi : (P.info? t).map (·.size) = some n) (hn : b.nums = some (k, l)) (hev : leEv (mkSum i (.lit n)) (mkLen l) = some ev) (he : ∀ e ∈ ev, e.holds P v) (nv ora) : Does P v s o ⟨.one (.agg (arrA k l i n)), [], ev, nv, ora⟩ := by
  refine does_value hd fun ac w p h => ?_
  have := h.ev x
  rw [hx] at this
  obtain ⟨r, N, q, h1, h2, e⟩ := placeA_is hp this
  obtain ⟨_, hB⟩ := h.at hm h1
  obtain ⟨cs, fz, _, _, _, _, hc, _⟩ := nums_cell hB hb hn
  have hle := leEv_ok hev he
  rw [mkLen_den, mkSum_den, h2] at hle
  simp only [I.den] at hle
  have hr : w.rangeAt r q ((arrA k l i n).map (Sc.den v)) := by
    intro j u hj
    unfold arrA at hj
    simp only [List.getElem?_map, List.map_map] at hj
    rcases Nat.lt_or_ge j n with hjn | hjn
    · simp only [List.getElem?_range hjn, Option.map_some, Option.some.injEq, Function.comp] at hj
      subst hj
      have hq : q + j < (l.ldn v).length := by omega
      have := hc (q + j) _ (getD_some hq)
      rw [this]
      simp only [Sc.den, mkGet_den, mkSum_den, h2, I.den]
      rw [show ((q : Int) + (j : Nat)).toNat = q + j by omega]
    · rw [List.getElem?_eq_none (by simpa using hjn)] at hj
      cases hj
  have hd' : ∃ d : TypeDesc, P.underlying t = some d ∧ d.isRow = true := by
    unfold isAggT at ha
    cases hu : P.underlying t with
    | none => simp [hu] at ha
    | some d => refine ⟨d, rfl, ?_⟩; cases d <;> simp_all
  obtain ⟨d, hu, hd2⟩ := hd'
  refine ⟨.agg ((arrA k l i n).map (Sc.den v)).toArray, ?_, rfl⟩
  unfold execOp
  rw [ho]
  simp [e, Instr.loadAt, Instr.sureAddr, run_loadVar_mid w r q t ((arrA k l i n).map (Sc.den v)) d hr hu hd2 (by simpa [arrA] using hi)]

theorem does_load_imm {t : TypeId} {x : Operand} {z : I} (hd : ∀ d, o.dst = some d → d < s.n) (ho : o.op = .load t x) (hx : s.ev x = .one (.immp z)) (ha : isAggT P t = some false) (nv ora) : Does P v s o ⟨.one (.sc (.int .u8 z)), [], [], nv, ora⟩ := by
  refine does_value hd fun ac w p h => ?_
  have := h.ev x
  rw [hx] at this
  obtain ⟨r, q, e, hc⟩ := this
  have hc' : w.cell? ⟨r, q, none⟩ = some (.int .u8 (z.den v)) := by rw [h.below.cell (World.block_lt_of_cell? _ _ hc)]; exact hc
  refine ⟨.int .u8 (z.den v), ?_, rfl⟩
  unfold execOp
  rw [ho]
  simp [e, Instr.loadAt, Instr.sureAddr, loadVar, run_isAgg ha, hc']

theorem does_load_immP {t : TypeId} {x : Operand} {n : Nat} {i : I} (hd : ∀ d, o.dst = some d → d < s.n) (ho : o.op = .load t x) (hx : s.ev x = .one (.immPp n i)) (ha : isAggT P t = some false) (nv ora) : Does P v s o ⟨.one (.imm (.item n i) none), [], [], nv, ora⟩ := by
  refine does_value hd fun ac w p h => ?_
  have := h.ev x
  rw [hx] at this
  obtain ⟨r, q, y, e, hc, hy⟩ := this
  have hc' : w.cell? ⟨r, q, none⟩ = some y := by rw [h.below.cell (World.block_lt_of_cell? _ _ hc)]; exact hc
  refine ⟨y, ?_, ?_, fun b hb => by cases hb⟩
  · unfold execOp
    rw [ho]
    simp [e, Instr.loadAt, Instr.sureAddr, loadVar, run_isAgg ha, hc']
  · simpa [I.ldn] using hy

theorem does_store_num {t : TypeId} {x y : Operand} {a : A} {m : Nat} {i l z : I} {k : IntKind} {b : Blk} {ev : List Ev} (hd : ∀ d, o.dst = some d → d < s.n) (ho : o.op = .store t x y) (hx : s.ev x = .one a) (hp : placeA a = some (m, i)) (hy : s.ev y = .one (.sc (.int k z))) (hm : s.mem m = some b) (hb : b.dead = false)
    (hown : b.own = true) (hi : (P.info? t).map (·.size) = some 1) (hn : b.nums = some (k, l)) (hev : ltEv i (mkLen l) = some ev) (he : ∀ e ∈ ev, e.holds P v) (nv ora) :
    Does P v s o ⟨.undef, [(m, { b with cells := [], row := some (k, mkSet l i z) })], ev, nv, ora⟩ := by
  intro ac w p h K Q hK
  have hxx := h.ev x
  rw [hx] at hxx
  obtain ⟨r, N, q, hp', h2, e⟩ := placeA_is hp hxx
  obtain ⟨_, hB⟩ := h.at hm hp'
  obtain ⟨cs, fz, h3, h4, h5, h6, hc, h7⟩ := nums_cell hB hb hn
  obtain ⟨h8, rfl, h9⟩ := h7 hown
  have hlt := ltEv_ok hev he
  rw [mkLen_den, h2] at hlt
  have hj : q < (l.ldn v).length := by omega
  have hyy := h.ev y
  rw [hy] at hyy
  have ey : ac.eval y = .int k (z.den v) := hyy
  have hst := run_storeCells_at P r q b.T [Value.int k (z.den v)] 0 cs w h3 (by simp; omega) (by simp [Value.oneCell'])
  simp only [Nat.add_zero, List.length_cons, List.length_nil, Nat.zero_add] at hst
  cases hq : P.info? t with
  | none => simp [hq] at hi
  | some info =>
    simp only [hq, Option.map_some, Option.some.injEq] at hi
    unfold Oper.wp
    have hrun : (execOp ac.eval o).run P w = .ok .skip (w.setRow r (cs.toList.take q ++ [Value.int k (z.den v)] ++ cs.toList.drop (q + 1)).toArray) := by
      unfold execOp
      rw [ho]
      simp [e, ey, Instr.storeAt, Instr.sureAddr, storeVar, sizeOf, typeInfo, hq, hi, Value.cells, hst]
    rw [hrun, Oper.upon_skip]
    have hrel := h.store (x := m) (b := b) (b' := { b with cells := [], row := some (k, mkSet l i z) }) (cs' := (cs.toList.take q ++ [Value.int k (z.den v)] ++ cs.toList.drop (q + 1)).toArray) hm hb h8 hp' h3 rfl (fun _ => rfl) ?_ ?_ ?_
    · exact hK _ _ _ (hrel.put hd trivial)
    · simp; omega
    · show List.take ((mkSet l i z).ldn v).length _ = _
      rw [mkSet_ldn, List.length_set, h2, Int.toNat_natCast]
      have hset : (cs.toList.take q ++ [Value.int k (z.den v)] ++ cs.toList.drop (q + 1)).toArray.toList = cs.toList.set q (.int k (z.den v)) := by
        rw [List.toList_toArray, List.set_eq_take_append_cons_drop, if_pos (by simp; omega)]
        simp
      rw [hset, List.take_set, h5, List.map_set]
    · intro u hu
      simp only [List.toList_toArray, List.mem_append, List.mem_singleton] at hu
      rcases hu with (hu | hu) | hu
      · exact h9 u (List.mem_of_mem_take hu)
      · subst hu; rfl
      · exact h9 u (List.mem_of_mem_drop hu)

/-! ### addresses of elements -/
theorem add_one (r off j : Nat) : Addr.add ⟨r, off, none⟩ (j * 1) = ⟨r, off + j, none⟩ := by rw [Nat.mul_one, Addr.add_mid]

theorem does_indexAddr_sym {t e : TypeId} {x i : Operand} {m off n : Nat} {k : IntKind} {z : I} {ev : List Ev} (hd : ∀ d, o.dst = some d → d < s.n) (ho : o.op = .indexAddr t x i) (hx : s.ev x = .one (.ptr m off)) (hi : s.ev i = .one (.sc (.int k z)))
    (hu : P.underlying t = some (.array n e)) (hs : (P.info? e).isSome = true) (h1 : P.cellsOf e = 1) {e1 e2 : List Ev} (he1 : leEv (.lit 0) z = some e1) (he2 : ltEv z (.lit n) = some e2) (hev : ev = e1 ++ e2) (he : ∀ e ∈ ev, e.holds P v) (nv ora) :
    Does P v s o ⟨.one (.bptr m (mkSum (.lit off) z)), [], ev, nv, ora⟩ := by
  subst hev
  refine does_value hd fun a w p h => ?_
  have hxx := h.ev x
  rw [hx] at hxx
  obtain ⟨r, n', hp, ex⟩ := hxx
  have hii := h.ev i
  rw [hi] at hii
  have ei : a.eval i = .int k (z.den v) := hii
  obtain ⟨ti, hti⟩ := Option.isSome_iff_exists.1 hs
  have h0 := leEv_ok he1 (fun e hm => he e (by simp [hm]))
  have h2 := ltEv_ok he2 (fun e hm => he e (by simp [hm]))
  simp only [I.den] at h0 h2
  refine ⟨.pointer (some ⟨r, off + (z.den v).toNat, none⟩), ?_, r, n', off + (z.den v).toNat, hp, ?_, rfl⟩
  · unfold execOp
    rw [ho]
    simp [ex, ei, Instr.indexAt, asIntOf, run_underlying hu, Instr.sureAddr, h0, h2, run_sizeOf w hti, h1, Addr.add_mid]
  · rw [mkSum_den]; simp only [I.den]; omega

theorem does_indexAddr_bsl {t e : TypeId} {x i : Operand} {m : Nat} {off len : I} {full : Bool} {k : IntKind} {z : I} {ev : List Ev} (hd : ∀ d, o.dst = some d → d < s.n) (ho : o.op = .indexAddr t x i) (hx : s.ev x = .one (.bsl m off len full)) (hi : s.ev i = .one (.sc (.int k z)))
    (hu : P.underlying t = some (.slice e)) (hs : (P.info? e).isSome = true) (h1 : P.cellsOf e = 1) {e1 e2 : List Ev} (he1 : leEv (.lit 0) z = some e1) (he2 : ltEv z len = some e2) (hev : ev = e1 ++ e2) (he : ∀ e ∈ ev, e.holds P v) (nv ora) :
    Does P v s o ⟨.one (.bptr m (mkSum off z)), [], ev, nv, ora⟩ := by
  subst hev
  refine does_value hd fun a w p h => ?_
  have hxx := h.ev x
  rw [hx] at hxx
  obtain ⟨b, n, c, l1, ex, l2, l3, l4⟩ := hxx
  have hii := h.ev i
  rw [hi] at hii
  have ei : a.eval i = .int k (z.den v) := hii
  obtain ⟨ti, hti⟩ := Option.isSome_iff_exists.1 hs
  have h0 := leEv_ok he1 (fun e hm => he e (by simp [hm]))
  have h2 := ltEv_ok he2 (fun e hm => he e (by simp [hm]))
  simp only [I.den] at h0
  rw [l1] at h2
  rcases l4 with l4 | ⟨r, N, q, l5, l6, rfl, l7⟩
  · exfalso; omega
  · refine ⟨.pointer (some ⟨r, q + (z.den v).toNat, none⟩), ?_, r, N, q + (z.den v).toNat, l5, ?_, rfl⟩
    · unfold execOp
      rw [ho]
      simp [ex, ei, Instr.indexAt, asIntOf, run_underlying hu, h0, h2, run_sizeOf w hti, h1, Addr.add_mid]
    · rw [mkSum_den, l6]; omega

theorem does_indexAddr_imm {t e : TypeId} {x i : Operand} {l z : I} {nl : Option Bx} {k : IntKind} {ev : List Ev} (hd : ∀ d, o.dst = some d → d < s.n) (ho : o.op = .indexAddr t x i) (hx : s.ev x = .one (.imm l nl)) (hi : s.ev i = .one (.sc (.int k z)))
    (hu : P.underlying t = some (.slice e)) (hs : (P.info? e).isSome = true) (h1 : P.cellsOf e = 1) {e1 e2 : List Ev} (he1 : leEv (.lit 0) z = some e1) (he2 : ltEv z (mkLen l) = some e2) (hev : ev = e1 ++ e2) (he : ∀ e ∈ ev, e.holds P v) (nv ora) :
    Does P v s o ⟨.one (.immp (mkGet l z)), [], ev, nv, ora⟩ := by
  subst hev
  refine does_value hd fun a w p h => ?_
  have hxx := h.ev x
  rw [hx] at hxx
  obtain ⟨⟨b, c, ex, l2, l3, l4⟩, _⟩ := hxx
  have hii := h.ev i
  rw [hi] at hii
  have ei : a.eval i = .int k (z.den v) := hii
  obtain ⟨ti, hti⟩ := Option.isSome_iff_exists.1 hs
  have h0 := leEv_ok he1 (fun e hm => he e (by simp [hm]))
  have h2 := ltEv_ok he2 (fun e hm => he e (by simp [hm]))
  simp only [I.den] at h0
  rw [mkLen_den] at h2
  rcases l4 with l4 | ⟨r, q, rfl, l5⟩
  · exfalso; omega
  · refine ⟨.pointer (some ⟨r, q + (z.den v).toNat, none⟩), ?_, r, q + (z.den v).toNat, rfl, ?_⟩
    · unfold execOp
      rw [ho]
      simp [ex, ei, Instr.indexAt, asIntOf, run_underlying hu, h0, h2, run_sizeOf w hti, h1, Addr.add_mid]
    · rw [mkGet_den]
      exact l5 _ _ (getD_some (by omega))

theorem does_indexAddr_immP {t e : TypeId} {x i : Operand} {n : Nat} {z : I} {k : IntKind} {ev : List Ev} (hd : ∀ d, o.dst = some d → d < s.n) (ho : o.op = .indexAddr t x i) (hx : s.ev x = .one (.immP n)) (hi : s.ev i = .one (.sc (.int k z)))
    (hu : P.underlying t = some (.slice e)) (hs : (P.info? e).isSome = true) (h1 : P.cellsOf e = 1) {e1 e2 : List Ev} (he1 : leEv (.lit 0) z = some e1) (he2 : ltEv z (.plen n) = some e2) (hev : ev = e1 ++ e2) (he : ∀ e ∈ ev, e.holds P v) (nv ora) :
    Does P v s o ⟨.one (.immPp n z), [], ev, nv, ora⟩ := by
  subst hev
  refine does_value hd fun a w p h => ?_
  have hxx := h.ev x
  rw [hx] at hxx
  obtain ⟨b, c, ex, l2, l3, l4⟩ := hxx
  have hii := h.ev i
  rw [hi] at hii
  have ei : a.eval i = .int k (z.den v) := hii
  obtain ⟨ti, hti⟩ := Option.isSome_iff_exists.1 hs
  have h0 := leEv_ok he1 (fun e hm => he e (by simp [hm]))
  have h2 := ltEv_ok he2 (fun e hm => he e (by simp [hm]))
  simp only [I.den] at h0 h2
  rcases l4 with l4 | ⟨r, q, rfl, l5⟩
  · exfalso; omega
  · have hlt : (z.den v).toNat < (v.pp n).length := by omega
    obtain ⟨y, hy1, hy2⟩ := l5 (z.den v).toNat _ (List.getElem?_eq_getElem hlt)
    refine ⟨.pointer (some ⟨r, q + (z.den v).toNat, none⟩), ?_, r, q + (z.den v).toNat, y, rfl, hy1, ?_⟩
    · unfold execOp
      rw [ho]
      simp [ex, ei, Instr.indexAt, asIntOf, run_underlying hu, h0, h2, run_sizeOf w hti, h1, Addr.add_mid]
    · rw [List.getD_eq_getElem?_getD, List.getElem?_eq_getElem hlt]
      exact hy2

end
end Go.Sx
