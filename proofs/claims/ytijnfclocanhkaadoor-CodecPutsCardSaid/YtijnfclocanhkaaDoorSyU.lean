/- Symbolic operations: append, calls with slices. -/
import Derived.Test.YtijnfclocanhkaaDoorSyT
set_option linter.unusedVariables false
set_option linter.unusedSimpArgs false
namespace Go.Sx
open Go Go.RowKit

section
variable {P : Program} {v : Env} {s : Sig} {o : Oper}

/-- behind append: the value, the memories, what must hold -/
def appA (s : Sig) (x0 : Nat) (k : IntKind) (e : TypeId) (a : A) (news : I) : Option (A × List (Nat × Blk) × List Ev) :=
  match a with
  | .nils => match leEv (mkLen news) (.lit 1099511627776) with
    | some ev => some (.bsl x0 (.lit 0) (mkLen news) true, [(x0, newRowB e k news)], ev)
    | none => none
  | .bsl m _ len true => match s.mem m with
    | some b => match b.dead, b.own, b.nums with
      | false, true, some (k', l) =>
        if k' = k ∧ b.T = e then
          match leEv len (mkLen l), leEv (mkSum len (mkLen news)) (.lit 1099511627776) with
          | some e1, some e2 => some (.bsl x0 (.lit 0) (mkSum len (mkLen news)) true, [(m, { b with dead := true }), (x0, newRowB e k (mkApp (mkPart l (.lit 0) len) news))], e1 ++ e2)
          | _, _ => none
        else none
      | _, _, _ => none
    | none => none
  | _ => none

theorem does_app {c : Call} {x y : Operand} {a r : A} {x0 : Nat} {k : IntKind} {e : TypeId} {news : I} {mems : List (Nat × Blk)} {ev : List Ev} (hd : ∀ d, o.dst = some d → d < s.n) (ho : o.op = .call c) (hf : c.callee = .builtin .append) (hargs : c.args = #[x, y]) (hx : s.ev x = .one a)
    (src : ∀ ac w p, RelP v s ac w p → ∀ (b : Option Addr) (n cc : Nat) (olds : List Value), n ≤ cc → n + (news.ldn v).length ≤ 1099511627776 → olds.length = n →
      (cc = 0 ∨ ∃ r cs, b = some ⟨r, 0, none⟩ ∧ w.heap[r]? = some (.cells cs e (0, 0)) ∧ cs.size = cc ∧ cs.toList.take n = olds) →
      ∃ u' w', (Builtin.append_ c.argTypes o.type #[.slice b n cc, ac.eval y]).run P w = .ok u' w' ∧ Grows e w b n cc olds ((news.ldn v).map (Value.int k)) u' w')
    (h : appA s x0 k e a news = some (r, mems, ev)) (he : ∀ e ∈ ev, e.holds P v) (hx0 : s.mem x0 = none) (nev : List Ev) (nv ora) : Does P v s o ⟨.one r, mems, nev, nv, ora⟩ := by
  intro ac w p hr K Q hK
  have hxx := hr.ev x
  rw [hx] at hxx
  have hrun : ∀ (u u' : Value) (w' : World), ac.eval x = u → (Builtin.append_ c.argTypes o.type #[u, ac.eval y]).run P w = .ok u' w' → (execOp ac.eval o).run P w = .ok (.value u') w' := by
    intro u u' w' hu hrun
    unfold execOp
    rw [ho]
    simp [resolve, hf, hargs, hu, invoke, builtin, hrun]
  unfold appA at h
  split at h
  · split at h
    case h_2 => cases h
    rename_i ev' hev
    simp only [Option.some.injEq, Prod.mk.injEq] at h
    obtain ⟨rfl, rfl, rfl⟩ := h
    have hle := leEv_ok hev he
    rw [mkLen_den] at hle
    simp only [I.den] at hle
    obtain ⟨u', w', h1, h2⟩ := src ac w p hr none 0 0 [] (Nat.le_refl _) (by omega) rfl (.inl rfl)
    obtain ⟨q, h3, h4⟩ := grows_new hr h2 hx0
    unfold Oper.wp
    rw [hrun _ _ _ hxx h1, Oper.upon_value]
    exact hK _ _ q (h3.put hd h4)
  · rename_i m off len
    split at h
    case h_2 => cases h
    rename_i b hm
    split at h
    case h_2 => cases h
    rename_i k' l hb hown hn
    split at h
    case isFalse => cases h
    rename_i hc
    obtain ⟨rfl, hT⟩ := hc
    split at h
    case h_2 => cases h
    rename_i e1 e2 he1 he2
    simp only [Option.some.injEq, Prod.mk.injEq] at h
    obtain ⟨rfl, rfl, rfl⟩ := h
    have g1 := leEv_ok he1 (fun e hm => he e (by simp [hm]))
    have g2 := leEv_ok he2 (fun e hm => he e (by simp [hm]))
    obtain ⟨ba, n, cc, l1, l2, l3, l4, l5⟩ := hxx
    rw [mkSum_den, mkLen_den, l1] at g2
    rw [mkLen_den, l1] at g1
    simp only [I.den] at g2
    have hold : cc = 0 ∨ ∃ r cs, ba = some ⟨r, 0, none⟩ ∧ w.heap[r]? = some (.cells cs e (0, 0)) ∧ cs.size = cc ∧ cs.toList.take n = ((l.ldn v).take n).map (Value.int k') := by
      rcases l5 with l5 | ⟨r, N, q, p1, p2, p3, p4⟩
      · exact .inl l5
      · obtain ⟨rfl, rfl⟩ := p4 rfl
        obtain ⟨_, hB⟩ := hr.at hm p1
        obtain ⟨cs, fz, k1, k2, k3, k4, k5, k6⟩ := nums_cell hB hb hn
        obtain ⟨k7, rfl, k8⟩ := k6 hown
        refine .inr ⟨r, cs, p3, by rw [← hT]; exact k1, k2, ?_⟩
        have := congrArg (List.take n) k3
        rw [List.take_take, Nat.min_eq_left (by omega), ← List.map_take] at this
        exact this
    obtain ⟨u', w', h1, h2⟩ := src ac w p hr ba n cc (((l.ldn v).take n).map (Value.int k')) l3 (by omega) (by simp; omega) hold
    obtain ⟨q, h3, h4⟩ := grows_old hr hm hb hown hT hn l1 (by omega) l5 l3 l4 rfl h2 hx0
    unfold Oper.wp
    rw [hrun _ _ _ l2 h1, Oper.upon_value]
    exact hK _ _ q (h3.put hd h4)
  · cases h

theorem does_append {c : Call} {x y : Operand} {t e : TypeId} {a b r : A} {x0 : Nat} {k : IntKind} {news : I} {mems : List (Nat × Blk)} {ev nev : List Ev} (hd : ∀ d, o.dst = some d → d < s.n) (ho : o.op = .call c) (hf : c.callee = .builtin .append) (hargs : c.args = #[x, y])
    (ht : c.argTypes = #[t, t]) (hu : P.underlying t = some (.slice e)) (hz : zeroA P e = some (.sc (.int k (.lit 0)))) (h1 : P.cellsOf e = 1) (hby : ∀ i, P.info? e = some i → i.bytes ≤ 8) (hx : s.ev x = .one a) (hy : s.ev y = .one b)
    (hn : readA s k b = some (news, nev)) (h : appA s x0 k e a news = some (r, mems, ev)) (he : ∀ e ∈ nev ++ ev, e.holds P v) (hx0 : s.mem x0 = none) (nv ora) : Does P v s o ⟨.one r, mems, nev ++ ev, nv, ora⟩ := by
  obtain ⟨i, hi, hzv, hsz⟩ := elem_of hz h1
  refine does_app hd ho hf hargs hx (fun ac w p hr ba n cc olds g1 g2 g3 g4 => ?_) h (fun e hm => he e (by simp [hm])) hx0 _ nv ora
  have hyy := hr.ev y
  rw [hy] at hyy
  rw [ht]
  exact append_slice hu hi hzv hsz (hby i hi) (readA_is hn (fun e hm => he e (by simp [hm])) hr hyy) g1 g2 g3 g4

theorem does_append_zeros {c : Call} {x y : Operand} {t tn e : TypeId} {a r : A} {z : I} {x0 : Nat} {k kn kq : IntKind} {mems : List (Nat × Blk)} {ev nev : List Ev} (hd : ∀ d, o.dst = some d → d < s.n) (ho : o.op = .call c) (hf : c.callee = .builtin .append) (hargs : c.args = #[x, y])
    (ht : c.argTypes = #[t, tn]) (hu : P.underlying t = some (.slice e)) (htn : P.underlying tn = some (.int kn)) (hz : zeroA P e = some (.sc (.int k (.lit 0)))) (h1 : P.cellsOf e = 1) (hby : ∀ i, P.info? e = some i → i.bytes ≤ 8) (hx : s.ev x = .one a) (hy : s.ev y = .one (.sc (.int kq z)))
    (hn : leEv (.lit 0) z = some nev) (h : appA s x0 k e a (mkRep z) = some (r, mems, ev)) (he : ∀ e ∈ nev ++ ev, e.holds P v) (hx0 : s.mem x0 = none) (nv ora) : Does P v s o ⟨.one r, mems, nev ++ ev, nv, ora⟩ := by
  obtain ⟨i, hi, hzv, hsz⟩ := elem_of hz h1
  have g0 := leEv_ok hn (fun e hm => he e (by simp [hm]))
  simp only [I.den] at g0
  refine does_app hd ho hf hargs hx (fun ac w p hr ba n cc olds g1 g2 g3 g4 => ?_) h (fun e hm => he e (by simp [hm])) hx0 _ nv ora
  have hyy := hr.ev y
  rw [hy] at hyy
  have ey : ac.eval y = .int kq (z.den v) := hyy
  have hrep : ((mkRep z).ldn v).map (Value.int k) = List.replicate (z.den v).toNat (Value.int k 0) := by rw [mkRep_ldn]; simp
  have hl : ((mkRep z).ldn v).length = (z.den v).toNat := by rw [mkRep_ldn]; simp
  rw [hl] at g2
  have hzn : z.den v = (((z.den v).toNat : Nat) : Int) := (Int.toNat_of_nonneg g0).symm
  rw [ht, ey, hrep, hzn, Int.toNat_natCast]
  rw [hzn, Int.toNat_natCast] at g2
  exact append_zeros hu htn hi hzv hsz (hby i hi) g1 g2 g3 g4

/-! ### calls that take or give slices -/
/-- what is handed in -/
def partsL (s : Sig) : List A → Option (List I × List Ev)
  | [] => some ([], [])
  | a :: l => match readA s .u8 a, partsL s l with
    | some (x, ev), some (r, ev') => some (x :: r, ev ++ ev')
    | _, _ => none

def argE (P : Program) (s : Sig) (t : TypeId) (a : A) : Option (EArg × List Ev) :=
  match P.underlying t with
  | some (.slice e) => match P.underlying e with
    | some (.int .u8) => match readA s .u8 a with | some (l, ev) => some (.bytes l, ev) | none => none
    | some (.slice _) => match a with
      | .nils => some (.parts [], [])
      | .immP n => some (.partsV n, [])
      | .slc x off n none => match s.mem x with
        | some b => match b.dead, b.row with
          | false, none => if off = 0 ∧ b.cells.length = n ∧ b.more = false then match partsL s b.cells with | some (ls, ev) => some (.parts ls, ev) | none => none else none
          | _, _ => none
        | none => none
      | _ => none
    | _ => none
  | _ => if a.pure then some (.val a, []) else none

theorem partsL_is : ∀ {as : List A} {ls : List I} {ev : List Ev}, partsL s as = some (ls, ev) → (∀ e ∈ ev, e.holds P v) → ∀ {ac : Act} {w : World} {p : Mp}, RelP v s ac w p → ∀ {us : List Value}, listIs v p as us →
    ls.length = us.length ∧ ∀ (j : Nat) (bs : List Int), (ls.map (I.ldn v))[j]? = some bs → ∃ y, us[j]? = some y ∧ Reads w y bs
  | [], ls, ev, h, _, ac, w, p, _, us, hl => by
    simp only [partsL, Option.some.injEq, Prod.mk.injEq] at h
    obtain ⟨rfl, _⟩ := h
    rw [show us = [] from hl]
    exact ⟨rfl, by simp⟩
  | a :: as, ls, ev, h, he, ac, w, p, hr, us, ⟨u, us', e, h1, h2⟩ => by
    subst e
    simp only [partsL] at h
    split at h
    · rename_i x ev1 r ev2 g1 g2
      simp only [Option.some.injEq, Prod.mk.injEq] at h
      obtain ⟨rfl, rfl⟩ := h
      obtain ⟨k1, k2⟩ := partsL_is g2 (fun e hm => he e (by simp [hm])) hr h2
      refine ⟨by simp [k1], fun j bs hj => ?_⟩
      cases j with
      | zero =>
        simp only [List.map_cons, List.getElem?_cons_zero, Option.some.injEq] at hj
        subst hj
        exact ⟨u, rfl, readA_is g1 (fun e hm => he e (by simp [hm])) hr h1⟩
      | succ j =>
        simp only [List.map_cons, List.getElem?_cons_succ] at hj
        exact k2 j bs hj
    · cases h

theorem argE_is {t : TypeId} {a : A} {x : EArg} {ev : List Ev} (h : argE P s t a = some (x, ev)) (he : ∀ e ∈ ev, e.holds P v) {ac : Act} {w : World} {p : Mp} (hr : RelP v s ac w p) {u : Value} (ha : a.Is v p u) : (x.den v).Is w u := by
  unfold argE at h
  split at h
  · split at h
    · split at h
      · rename_i l ev' hl
        simp only [Option.some.injEq, Prod.mk.injEq] at h
        obtain ⟨rfl, rfl⟩ := h
        exact readA_is hl he hr ha
      · cases h
    · split at h
      · simp only [Option.some.injEq, Prod.mk.injEq] at h
        obtain ⟨rfl, rfl⟩ := h
        rw [show u = _ from ha]
        exact ⟨none, 0, rfl, Nat.le_refl _, Nat.zero_le _, .inl rfl⟩
      · rename_i n
        simp only [Option.some.injEq, Prod.mk.injEq] at h
        obtain ⟨rfl, rfl⟩ := h
        have : ReadsP v.w u (v.pp n) := ha
        obtain ⟨b, c, k1, k2, k3, k4⟩ := this
        refine ⟨b, c, k1, k2, k3, ?_⟩
        rcases k4 with k4 | ⟨r, q, k4, k5⟩
        · exact .inl k4
        · refine .inr ⟨r, q, k4, fun j bs hj => ?_⟩
          obtain ⟨y, y1, y2⟩ := k5 j bs hj
          refine ⟨y, by rw [hr.below.cell (World.block_lt_of_cell? _ _ y1)]; exact y1, ?_⟩
          exact y2.below hr.below
      · rename_i x off n
        split at h
        case h_2 => cases h
        rename_i b hm
        split at h
        case h_2 => cases h
        rename_i hb hrow
        split at h
        case isFalse => cases h
        rename_i hc
        obtain ⟨rfl, hlen, hmore⟩ := hc
        split at h
        case h_2 => cases h
        rename_i ls ev' hls
        simp only [Option.some.injEq, Prod.mk.injEq] at h
        obtain ⟨rfl, rfl⟩ := h
        obtain ⟨r, N, p1, p2, p3, p4, p5, p6⟩ := ha
        obtain ⟨_, hB⟩ := hr.at hm p1
        obtain ⟨cs, fz, c1, c2, c3, c4⟩ := hB hb
        unfold Blk.holds at c3
        rw [hrow] at c3
        obtain ⟨c5, c6⟩ := c3
        have hsz := c5 hmore
        rw [List.take_of_length_le (by omega)] at c6
        obtain ⟨k1, k2⟩ := partsL_is hls he hr c6
        simp only [Option.getD_none, Nat.sub_zero] at p3 p4 p5
        have hN : cs.toList.length = N := by simpa using c2
        have hn : (ls.map (I.ldn v)).length = n := by rw [List.length_map]; omega
        refine ⟨_, N, by rw [hn]; exact p3, by omega, p6, .inr ⟨r, 0, rfl, fun j bs hj => ?_⟩⟩
        obtain ⟨y, y1, y2⟩ := k2 j bs hj
        refine ⟨y, ?_, y2⟩
        simp only [World.cell?, c1, Nat.zero_add]
        simpa using y1
      · cases h
    · cases h
  · split at h
    · rename_i hp
      simp only [Option.some.injEq, Prod.mk.injEq] at h
      obtain ⟨rfl, rfl⟩ := h
      exact A.is_val hp ha
    · cases h

def argsE (P : Program) (s : Sig) : List Operand → List TypeId → Option (List EArg × List Ev)
  | [], [] => some ([], [])
  | x :: l, t :: ts => match s.ev x with
    | .one a => match argE P s t a, argsE P s l ts with
      | some (y, ev), some (r, ev') => some (y :: r, ev ++ ev')
      | _, _ => none
    | _ => none
  | _, _ => none

theorem argsE_is : ∀ {l : List Operand} {ts : List TypeId} {r : List EArg} {ev : List Ev}, argsE P s l ts = some (r, ev) → (∀ e ∈ ev, e.holds P v) → ∀ {ac : Act} {w : World} {p : Mp}, RelP v s ac w p → argsIs w (r.map (EArg.den v)) (l.map ac.eval)
  | [], [], r, ev, h, _, ac, w, p, _ => by
    simp only [argsE, Option.some.injEq, Prod.mk.injEq] at h
    obtain ⟨rfl, _⟩ := h
    rfl
  | x :: l, t :: ts, r, ev, h, he, ac, w, p, hr => by
    simp only [argsE] at h
    split at h
    · rename_i a hx
      split at h
      · rename_i y ev1 r' ev2 h1 h2
        simp only [Option.some.injEq, Prod.mk.injEq] at h
        obtain ⟨rfl, rfl⟩ := h
        have hxx := hr.ev x
        rw [hx] at hxx
        exact ⟨_, _, rfl, argE_is h1 (fun e hm => he e (by simp [hm])) hr hxx, argsE_is h2 (fun e hm => he e (by simp [hm])) hr⟩
      · cases h
    · cases h
  | [], _ :: _, _, _, h, _, _, _, _, _ => by simp [argsE] at h
  | _ :: _, [], _, _, h, _, _, _, _, _ => by simp [argsE] at h

end
end Go.Sx
