/- One symbolic step for every operation. -/
import Derived.Test.YtijnfclocanhkaaDoorSx5
set_option linter.unusedVariables false
set_option linter.unusedSimpArgs false
namespace Go.Sx
open Go Go.RowKit

section
variable {P : Program} {v : Env} {B : Nat} {w0 : World} {s s' : Sig} {o : Oper}

def dstOk (s : Sig) (o : Oper) : Bool := match o.dst with | some d => decide (d < s.n) | none => true

def core (P : Program) (s : Sig) (x0 nv : Nat) (ora : List (Option Bool)) (o : Oper) : Option Out :=
  match dstOk s o with
  | false => none
  | true =>
  match o.op with
  | .move x => some ⟨s.ev x, [], [], nv, ora⟩
  | .assign x => some ⟨s.ev x, [], [], nv, ora⟩
  | .pick c x y => match s.ev c with
    | .one (.sc (.bool (.lit t))) => some ⟨if t then s.ev x else s.ev y, [], [], nv, ora⟩
    | .one (.sc (.bool b)) => match boolAt b true (s.ev x), boolAt b false (s.ev y) with
      | some bx, some bY => some ⟨.one (.sc (.bool (Bx.ite b bx bY).fold)), [], [], nv, ora⟩
      | _, _ => none
    | _ => none
  | .alloc t => match zeroA P t with | some z => some ⟨.one (.ptr x0 0), [(x0, newBlk t z.cells)], [], nv, ora⟩ | none => none
  | .box t x => match s.ev x with | .one y => some ⟨.one (.ptr x0 0), [(x0, newBlk t y.cells)], [], nv, ora⟩ | _ => none
  | .load t x => match s.ev x with
    | .one (.ptr m off) => match s.mem m with
      | some b => match b.dead, isAggT P t with
        | false, some false => match b.cells[off]? with | some y => some ⟨.one y, [], [], nv, ora⟩ | none => none
        | false, some true => match (P.info? t).map (·.size) with
          | some sz => match scs ((b.cells.drop off).take sz) with | some ss => if ss.length = sz then some ⟨.one (.agg ss), [], [], nv, ora⟩ else none | none => none
          | none => none
        | _, _ => none
      | none => none
    | _ => none
  | .store t x y => match s.ev x, s.ev y with
    | .one (.ptr m off), .one z => match s.mem m with
      | some b => if b.dead = false ∧ b.own = true ∧ (P.info? t).map (·.size) = some z.cells.length ∧ off + z.cells.length ≤ b.cells.length then some ⟨.undef, [(m, { b with cells := putCells b.cells off z.cells })], [], nv, ora⟩ else none
      | none => none
    | _, _ => none
  | .binOp op t x y _ => match s.ev x, s.ev y with
    | .one a, .one b => match binA P op t a b with
      | some (c, ev) => some ⟨.one (decA c ora).1, [], ev ++ (decA c ora).2.1, nv, (decA c ora).2.2⟩
      | none => none
    | _, _ => none
  | .unOp op _ x => match s.ev x with
    | .one (.sc y) => match unA op y with | some z => some ⟨.one (.sc z), [], [], nv, ora⟩ | none => none
    | _ => none
  | .convert src dst x => match s.ev x with
    | .one (.sc (.int _ e)) => match (P.underlying src).isSome, P.underlying dst with
      | true, some (.int k') => some ⟨.one (.sc (.int k' (I.conv k' e).fold)), [], [], nv, ora⟩
      | _, _ => none
    | _ => none
  | .extract x i => match s.ev x with
    | .tup l => match l[i]? with | some y => some ⟨.one y, [], [], nv, ora⟩ | none => none
    | _ => none
  | .nilCheck x => match s.ev x with | .one (.ptr y off) => some ⟨.one (.ptr y off), [], [], nv, ora⟩ | _ => none
  | .indexAddr t x i => match s.ev x, s.ev i with
    | .one (.ptr m off), .one (.sc (.int _ (.lit j))) => match P.underlying t with
      | some (.array n e) => if (P.info? e).isSome = true ∧ 0 ≤ j ∧ j < n then some ⟨.one (.ptr m (off + j.toNat * P.cellsOf e)), [], [], nv, ora⟩ else none
      | _ => none
    | .one (.slc m off len _), .one (.sc (.int _ (.lit j))) => match P.underlying t with
      | some (.slice e) => if (P.info? e).isSome = true ∧ 0 ≤ j ∧ j < len then some ⟨.one (.ptr m (off + j.toNat * P.cellsOf e)), [], [], nv, ora⟩ else none
      | _ => none
    | _, _ => none
  | .index t x i => match s.ev x, s.ev i with
    | .one (.agg l), .one (.sc (.int _ (.lit j))) => match P.underlying t with
      | some (.array n e) => if (P.info? e).isSome = true ∧ isAggT P e = some false ∧ 0 ≤ j ∧ j < n then match l[j.toNat * P.cellsOf e]? with | some y => some ⟨.one (.sc y), [], [], nv, ora⟩ | none => none else none
      | _ => none
    | _, _ => none
  | .fieldAddr t x i => match s.ev x with
    | .one (.ptr m off) => match P.underlying t with
      | some (.struct fs) => match fs[i]? with | some f => if (P.info? f.type).isSome = true ∧ P.cellsOf f.type ≠ 0 then some ⟨.one (.ptr m (off + f.offset)), [], [], nv, ora⟩ else none | none => none
      | _ => none
    | _ => none
  | .field t x i => match s.ev x with
    | .one (.agg l) => match P.underlying t with
      | some (.struct fs) => match fs[i]? with
        | some f => match A.ofL P f.type (partL P f.type l f.offset) with
          | some y => if (P.info? f.type).isSome = true ∧ f.offset + P.cellsOf f.type ≤ l.length ∧ (isAggT P f.type = some true ∨ P.cellsOf f.type = 1) then some ⟨.one y, [], [], nv, ora⟩ else none
          | none => none
        | none => none
      | _ => none
    | _ => none
  | .build t parts => match zeroA P t, placeOf P t, partsA s parts.toList with
    | some z, some pl, some ps => match fillA pl z.cells ps with
      | some r => match scs r with | some ss => some ⟨.one (.agg ss), [], [], nv, ora⟩ | none => none
      | none => none
    | _, _, _ => none
  | .call c => match c.callee with
    | .value (.func f) => match argsA s c.args.toList, P.funcs[f]? with
      | some as, some fn => match freshAs P nv fn.resultTypes.toList with
        | some (r, m) => some ⟨resA (decAs r ora).1, [], Ev.call f as (resA r) :: (decAs r ora).2.1, m, (decAs r ora).2.2⟩
        | none => none
      | _, _ => none
    | .value (.tmp g) => match s.fr g with
      | .one (.fn f recv) => match argsA s c.args.toList, P.funcs[f]? with
        | some as, some fn => match freshAs P nv fn.resultTypes.toList with
          | some (r, m) => some ⟨resA (decAs r ora).1, [], Ev.call f (.agg recv :: as) (resA r) :: (decAs r ora).2.1, m, (decAs r ora).2.2⟩
          | none => none
        | _, _ => none
      | _ => none
    | .builtin .len => match c.args.toList, c.argTypes[0]? with
      | [x], some t => match P.underlying t with
        | some (.slice _) => match s.ev x with
          | .one (.slc _ _ n _) => some ⟨.one (.sc (.int .i64 (.lit n))), [], [], nv, ora⟩
          | .one .nils => some ⟨.one (.sc (.int .i64 (.lit 0))), [], [], nv, ora⟩
          | _ => none
        | _ => none
      | _, _ => none
    | _ => none
  | .makeFunc (.func f) first captured => match first.toList, captured.toList with
    | [x], [] => match s.ev x with | .one (.agg l) => some ⟨.one (.fn f l), [], [], nv, ora⟩ | _ => none
    | _, _ => none
  | _ => none

theorem core_does {x0 nv : Nat} {ora : List (Option Bool)} {out : Out} (h : core P s x0 nv ora o = some out) (he : ∀ e ∈ out.ev, e.holds P v) (hx : s.mem x0 = none) : Does P v B w0 s o out := by
  unfold core at h
  split at h
  · cases h
  rename_i hdo
  have hd : ∀ d, o.dst = some d → d < s.n := by
    intro d hd
    unfold dstOk at hdo
    rw [hd] at hdo
    exact of_decide_eq_true hdo
  split at h
  · rename_i x ho
    simp only [Option.some.injEq] at h; subst h
    exact does_move hd (.inl ho) _ _
  · rename_i x ho
    simp only [Option.some.injEq] at h; subst h
    exact does_move hd (.inr ho) _ _
  · rename_i c x y ho
    split at h
    · rename_i t hc
      simp only [Option.some.injEq] at h; subst h
      exact does_pick hd ho hc _ _
    · rename_i b _ hc
      split at h
      · rename_i bx bY hx hy
        simp only [Option.some.injEq] at h; subst h
        exact does_pick_sym hd ho hc hx hy _ _
      · cases h
    · cases h
  · rename_i t ho
    split at h
    · rename_i z hz
      simp only [Option.some.injEq] at h; subst h
      exact does_alloc hd ho hz hx _ _
    · cases h
  · rename_i t x ho
    split at h
    · rename_i y hy
      simp only [Option.some.injEq] at h; subst h
      exact does_box hd ho hy hx _ _
    · cases h
  · rename_i t x ho
    split at h
    · rename_i m off hxx
      split at h
      · rename_i b hm
        split at h
        · rename_i hb ha
          split at h
          · rename_i y hc
            simp only [Option.some.injEq] at h; subst h
            exact does_load_one hd ho hxx hm hb ha hc _ _
          · cases h
        · rename_i hb ha
          split at h
          · rename_i sz hi
            split at h
            · rename_i ss hss
              split at h
              · rename_i hl
                subst hl
                simp only [Option.some.injEq] at h; subst h
                exact does_load_agg hd ho hxx hm hb ha hi hss _ _
              · cases h
            · cases h
          · cases h
        · cases h
      · cases h
    · cases h
  · rename_i t x y ho
    split at h
    · rename_i m off z hxx hyy
      split at h
      · rename_i b hm
        split at h
        · rename_i hc
          obtain ⟨h1, h2, h3, h4⟩ := hc
          simp only [Option.some.injEq] at h; subst h
          exact does_store hd ho hxx hyy hm h1 h2 h3 h4 _ _
        · cases h
      · cases h
    · cases h
  · rename_i op t x y yt ho
    split at h
    · rename_i a b hxx hyy
      split at h
      · rename_i c ev hb
        simp only [Option.some.injEq] at h; subst h
        exact does_binOp hd ho hxx hyy hb he _
      · cases h
    · cases h
  · rename_i op t x ho
    split at h
    · rename_i y hxx
      split at h
      · rename_i z hz
        simp only [Option.some.injEq] at h; subst h
        exact does_unOp hd ho hxx hz _ _
      · cases h
    · cases h
  · rename_i src dst x ho
    split at h
    · rename_i k e hxx
      split at h
      · rename_i k' hs hk
        simp only [Option.some.injEq] at h; subst h
        exact does_convert hd ho hxx hs hk _ _
      · cases h
    · cases h
  · rename_i x i ho
    split at h
    · rename_i l hxx
      split at h
      · rename_i y hy
        simp only [Option.some.injEq] at h; subst h
        exact does_extract hd ho hxx hy _ _
      · cases h
    · cases h
  · rename_i x ho
    split at h
    · rename_i y off hxx
      simp only [Option.some.injEq] at h; subst h
      exact does_nilCheck hd ho hxx _ _
    · cases h
  · rename_i t x i ho
    split at h
    · rename_i m off k j hxx hii
      split at h
      · rename_i n e hu
        split at h
        · rename_i hc
          simp only [Option.some.injEq] at h; subst h
          exact does_indexAddr_array hd ho hxx hii hu hc.1 hc.2.1 hc.2.2 _ _
        · cases h
      · cases h
    · rename_i m off len cap k j hxx hii
      split at h
      · rename_i e hu
        split at h
        · rename_i hc
          simp only [Option.some.injEq] at h; subst h
          exact does_indexAddr_slice hd ho hxx hii hu hc.1 hc.2.1 hc.2.2 _ _
        · cases h
      · cases h
    · cases h
  · rename_i t x i ho
    split at h
    · rename_i l k j hxx hii
      split at h
      · rename_i n e hu
        split at h
        · rename_i hc
          split at h
          · rename_i y hy
            simp only [Option.some.injEq] at h; subst h
            exact does_index hd ho hxx hii hu hc.1 hc.2.1 hc.2.2.1 hc.2.2.2 hy _ _
          · cases h
        · cases h
      · cases h
    · cases h
  · rename_i t x i ho
    split at h
    · rename_i m off hxx
      split at h
      · rename_i fs hu
        split at h
        · rename_i f hf
          split at h
          · rename_i hc
            simp only [Option.some.injEq] at h; subst h
            exact does_fieldAddr hd ho hxx hu hf hc.1 hc.2 _ _
          · cases h
        · cases h
      · cases h
    · cases h
  · rename_i t x i ho
    split at h
    · rename_i l hxx
      split at h
      · rename_i fs hu
        split at h
        · rename_i f hf
          split at h
          · rename_i y hy
            split at h
            · rename_i hc
              simp only [Option.some.injEq] at h; subst h
              refine does_field hd ho hxx hu hf hc.1 hc.2.1 (fun hfa => ?_) hy _ _
              rcases hc.2.2 with h1 | h1
              · rw [hfa] at h1; cases h1
              · exact h1
            · cases h
          · cases h
        · cases h
      · cases h
    · cases h
  · rename_i t parts ho
    split at h
    · rename_i z pl ps hz hpl hps
      split at h
      · rename_i r hr
        split at h
        · rename_i ss hss
          simp only [Option.some.injEq] at h; subst h
          exact does_build hd ho hz hpl hps hr hss _ _
        · cases h
      · cases h
    · cases h
  · rename_i c ho
    split at h
    · rename_i f hf
      split at h
      · rename_i as fn has hfn
        split at h
        · rename_i r m hr
          simp only [Option.some.injEq] at h; subst h
          exact does_call hd ho hf has hr he
        · cases h
      · cases h
    · rename_i g hf
      split at h
      · rename_i f recv hfn
        split at h
        · rename_i as fn has hfun
          split at h
          · rename_i r m hr
            simp only [Option.some.injEq] at h; subst h
            exact does_callFn hd ho hf hfn has hr he
          · cases h
        · cases h
      · cases h
    · rename_i hf
      split at h
      · rename_i x t hargs ht
        have hx' : c.args = #[x] := by apply Array.ext'; simpa using hargs
        split at h
        · rename_i e hu
          split at h
          · rename_i m off n cap hxx
            simp only [Option.some.injEq] at h; subst h
            exact does_len hd ho hf hx' ht hu hxx _ _
          · rename_i hxx
            simp only [Option.some.injEq] at h; subst h
            exact does_len_nil hd ho hf hx' ht hu hxx _ _
          · cases h
        · cases h
      · cases h
    · cases h
  · rename_i f first captured ho
    split at h
    · rename_i x h1 h2
      split at h
      · rename_i l hx
        simp only [Option.some.injEq] at h; subst h
        exact does_makeFunc hd ho (by apply Array.ext'; simpa using h1) (by apply Array.ext'; simpa using h2) hx _ _
      · cases h
    · cases h
  · cases h

/-! ### with its guard -/
inductive Gd where
  | yes
  | no
  | may (b : Bx) (want : Bool)
  | bad

def guardOf (s : Sig) (ops : Array Oper) (o : Oper) : Gd :=
  match o.guard with
  | none => .yes
  | some (j, want) =>
    match (ops[j]?).bind (·.dst) with
    | none => .no
    | some t => match s.fr t with
      | .one (.sc (.bool (.lit b))) => if b == want then .yes else .no
      | .one (.sc (.bool b)) => .may b want
      | .tup [] => .no
      | _ => .bad

/-- what is there when b is want, is there -/
def AV.given (b : Bx) (want : Bool) : AV → AV
  | .when b' want' a => if b' = b ∧ want' = want then .one a else .when b' want' a
  | x => x

def Sig.given (s : Sig) (b : Bx) (want : Bool) : Sig := { s with fr := fun t => (s.fr t).given b want }

theorem AV.given_is {b : Bx} {want : Bool} (hb : b.den v = want) {x : AV} {p : Mp} {u : Value} (h : x.Is v p u) : (x.given b want).Is v p u := by
  unfold AV.given
  split
  · split
    · rename_i hc
      obtain ⟨rfl, rfl⟩ := hc
      exact h hb
    · exact h
  · exact h

theorem RelP.given {a : Act} {w : World} {p : Mp} (h : RelP v B w0 s a w p) {b : Bx} {want : Bool} (hb : b.den v = want) : RelP v B w0 (s.given b want) a w p :=
  ⟨h.defers, h.size, h.base, h.below, h.inj, h.mem, h.free, h.glob, fun t => AV.given_is hb (h.frame t), h.gk, h.g0⟩

def stepO (P : Program) (s : Sig) (x0 nv : Nat) (ora : List (Option Bool)) (ops : Array Oper) (o : Oper) : Option Out :=
  match guardOf s ops o with
  | .yes => core P s x0 nv ora o
  | .no => if dstOk s o then some ⟨.tup [], [], [], nv, ora⟩ else none
  | .may b want => match core P (s.given b want) x0 nv [] o with
    | some ⟨.one a, [], [], nv', _⟩ => some ⟨.when b want a, [], [], nv', ora⟩
    | _ => none
  | .bad => none

theorem yielded_of {ops : Array Oper} {a : Act} {j t : Nat} {b : Bool} (hj : (ops[j]?).bind (·.dst) = some t) (hf' : a.tmps.getD t undef = .bool b) : yielded ops a.tmps j = some b := by
  have : a.tmps[t]? = some (.bool b) := by
    rcases Nat.lt_or_ge t a.tmps.size with hlt | hge
    · simp only [Array.getD_eq_getD_getElem?, Array.getElem?_eq_getElem hlt, Option.getD_some] at hf'
      rw [Array.getElem?_eq_getElem hlt, hf']
    · simp [Array.getElem?_eq_none hge, undef] at hf'
  unfold yielded
  rw [hj]
  simp only [Option.bind_some, this]

theorem wanted_eq {j : Nat} {want b : Bool} {ops : Array Oper} {a : Act} (hg : o.guard = some (j, want)) (hy : yielded ops a.tmps j = some b) : Region.wanted o (yielded ops a.tmps) = (b == want) := by
  unfold Region.wanted
  rw [hg]
  simp only [hy]
  cases b <;> cases want <;> rfl

theorem guardOf_wanted {ops : Array Oper} {a : Act} {w : World} {p : Mp} (hr : RelP v B w0 s a w p) :
    match guardOf s ops o with
    | .yes => Region.wanted o (yielded ops a.tmps) = true
    | .no => Region.wanted o (yielded ops a.tmps) = false
    | .may b want => Region.wanted o (yielded ops a.tmps) = (b.den v == want)
    | .bad => True := by
  unfold guardOf
  cases hg : o.guard with
  | none => simp only; unfold Region.wanted; rw [hg]
  | some jw =>
    obtain ⟨j, want⟩ := jw
    simp only
    cases hj : (ops[j]?).bind (·.dst) with
    | none =>
      simp only
      unfold Region.wanted yielded
      rw [hg]
      simp only [hj]
      rfl
    | some t =>
      simp only
      have hf := hr.frame t
      split
      · rename_i h
        split at h
        · rename_i c hc
          rw [hc] at hf
          have := wanted_eq (b := c) hg (yielded_of hj hf)
          split at h
          · rename_i hcw; rw [this, hcw]
          · cases h
        · cases h
        · cases h
        · cases h
      · rename_i h
        split at h
        · rename_i c hc
          rw [hc] at hf
          have := wanted_eq (b := c) hg (yielded_of hj hf)
          split at h
          · cases h
          · rename_i hcw; rw [this]; simpa using hcw
        · cases h
        · rename_i hc
          rw [hc] at hf
          obtain ⟨us, e, hl⟩ := hf
          unfold Region.wanted
          rw [hg]
          simp only
          unfold yielded
          rw [hj]
          simp only [Option.bind_some]
          rcases Nat.lt_or_ge t a.tmps.size with hlt | hge
          · simp only [Array.getD_eq_getD_getElem?, Array.getElem?_eq_getElem hlt, Option.getD_some] at e
            rw [Array.getElem?_eq_getElem hlt, e]
            rfl
          · rw [Array.getElem?_eq_none hge]
            rfl
        · cases h
      · rename_i b' want' h
        split at h
        · split at h <;> cases h
        · rename_i c _ hc
          simp only [Gd.may.injEq] at h
          obtain ⟨rfl, rfl⟩ := h
          rw [hc] at hf
          exact wanted_eq hg (yielded_of hj hf)
        · cases h
        · cases h
      · trivial

theorem stepO_does {x0 nv : Nat} {ora : List (Option Bool)} {ops : Array Oper} {out : Out} {i : Nat} (hi : ops[i]? = some o) (h : stepO P s x0 nv ora ops o = some out) (he : ∀ e ∈ out.ev, e.holds P v) (hx : s.mem x0 = none)
    {a : Act} {w : World} {p : Mp} (hr : RelP v B w0 s a w p) {K : Act → World → Prop} {Q : Exit → Act → World → Prop} (hK : ∀ a' w' q, RelP v B w0 (s.after o.dst out) a' w' q → K a' w') : wpOp P ops Q i K a w := by
  have hw := guardOf_wanted (o := o) (ops := ops) hr
  unfold stepO at h
  unfold wpOp
  rw [hi]
  simp only
  split at h
  · rename_i hg
    rw [hg] at hw
    rw [if_pos hw]
    exact .inl (core_does h he hx a w p hr K Q hK)
  · rename_i hg
    rw [hg] at hw
    simp only at hw
    rw [if_neg (by rw [hw]; simp)]
    split at h
    · rename_i hdo
      simp only [Option.some.injEq] at h
      subst h
      refine hK _ _ _ (hr.put (fun d hd => ?_) ⟨#[], rfl, rfl⟩)
      unfold dstOk at hdo
      rw [hd] at hdo
      exact of_decide_eq_true hdo
    · cases h
  · rename_i b want hg
    rw [hg] at hw
    simp only at hw
    split at h
    · rename_i y nv' ora' hcore
      simp only [Option.some.injEq] at h
      subst h
      have hdd : ∀ d, o.dst = some d → d < s.n := by
        intro d hd
        unfold core at hcore
        split at hcore
        · cases hcore
        · rename_i hdo
          unfold dstOk at hdo
          rw [hd] at hdo
          exact of_decide_eq_true hdo
      cases hb : (b.den v == want) with
      | true =>
        rw [hb] at hw
        rw [if_pos hw]
        have hb' : b.den v = want := by simpa using hb
        refine .inl (core_does hcore (by simp) hx a w p (hr.given hb') K Q fun a' w' q hr' => hK a' w' q ?_)
        refine ⟨hr'.defers, ?_, hr'.base, hr'.below, ?_, ?_, ?_, ?_, fun t => ?_, hr'.gk, hr'.g0⟩
        · have := hr'.size
          cases hd : o.dst <;> simp only [Sig.after, Sig.put, hd, List.foldl_nil] at this ⊢ <;> exact this
        · have := hr'.inj
          cases hd : o.dst <;> simp only [Sig.after, Sig.put, hd, List.foldl_nil] at this ⊢ <;> exact this
        · have := hr'.mem
          cases hd : o.dst <;> simp only [Sig.after, Sig.put, hd, List.foldl_nil] at this ⊢ <;> exact this
        · have := hr'.free
          cases hd : o.dst <;> simp only [Sig.after, Sig.put, hd, List.foldl_nil] at this ⊢ <;> exact this
        · have := hr'.glob
          cases hd : o.dst <;> simp only [Sig.after, Sig.put, hd, List.foldl_nil] at this ⊢ <;> exact this
        · have hft := hr'.frame t
          have weak : ∀ x u, (AV.given b want x).Is v q u → x.Is v q u := by
            intro x u hx'
            unfold AV.given at hx'
            split at hx'
            · split at hx'
              · exact fun _ => hx'
              · exact hx'
            · exact hx'
          cases hd : o.dst with
          | none =>
            simp only [Sig.after, Sig.put, hd, List.foldl_nil, Sig.given] at hft ⊢
            exact weak _ _ hft
          | some d =>
            simp only [Sig.after, Sig.put, hd, List.foldl_nil, Sig.given] at hft ⊢
            by_cases e : t = d
            · rw [if_pos e] at hft ⊢
              exact fun _ => hft
            · rw [if_neg e] at hft ⊢
              exact weak _ _ hft
      | false =>
        rw [hb] at hw
        rw [if_neg (by rw [hw]; simp)]
        refine hK _ _ _ (hr.put hdd fun hb' => ?_)
        rw [hb'] at hb
        simp at hb
    · cases h
  · cases h

end
end Go.Sx
