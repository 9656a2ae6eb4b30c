/- Symbolic states as data; regions, code, functions. -/
import Derived.Test.YtijnfclocanhkaaDoorSy7
import Derived.LoopN
import Derived.Laws.Externs
set_option linter.unusedVariables false
set_option linter.unusedSimpArgs false
namespace Go.Sx
open Go Go.RowKit

/-- how a text is left -/
inductive Ex where
  | normal
  | exit (id : Nat)
  | ret
  deriving DecidableEq, Repr, Inhabited

def Ex.to : Ex → Exit
  | .normal => .normal
  | .exit id => .exit id
  | .ret => .ret

/-- slots, memories, package variables -/
structure Fm where
  fr : List AV
  mem : List Blk
  gl : List (Nat × Nat)
  deriving DecidableEq, Repr, Inhabited

def lkp : List (Nat × Nat) → Nat → Option Nat
  | [], _ => none
  | (a, b) :: l, g => if g = a then some b else lkp l g

def Fm.sig (m : Fm) : Sig := ⟨fun t => m.fr.getD t .undef, fun x => m.mem[x]?, m.fr.length, lkp m.gl⟩

/-- what a loop is known to do: slots, memories, the next variable, the block that it leaves -/
structure LSum where
  fr : List (Nat × AV)
  mem : List (Nat × Blk)
  nv : Nat
  ex : Ex
  deriving DecidableEq, Repr, Inhabited

structure LEv where
  body : Code
  pre : Fm
  post : Fm
  ex : Ex

def LEv.holds (P : Program) (v : Env) (l : LEv) : Prop :=
  ∀ a w p, RelP v l.pre.sig a w p → (Code.loop l.body).wp P (fun e a' w' => e = l.ex.to ∧ ∃ q, RelP v l.post.sig a' w' q) a w

structure St where
  fm : Fm
  nv : Nat
  ora : List (Option Bool)
  sums : List (Option LSum)
  ev : List Ev
  lev : List LEv

def setMem (l : List Blk) (xb : Nat × Blk) : Option (List Blk) :=
  if xb.1 < l.length then some (l.set xb.1 xb.2) else if xb.1 = l.length then some (l ++ [xb.2]) else none

def setMems : List Blk → List (Nat × Blk) → Option (List Blk)
  | l, [] => some l
  | l, xb :: r => match setMem l xb with | some l' => setMems l' r | none => none

def putFr (l : List AV) (dst : Option Nat) (x : AV) : Option (List AV) :=
  match dst with
  | none => some l
  | some d => if d < l.length then some (l.set d x) else none

def Fm.after (m : Fm) (dst : Option Nat) (out : Out) : Option Fm :=
  match setMems m.mem out.mems, putFr m.fr dst out.val with
  | some l, some f => some ⟨f, l, m.gl⟩
  | _, _ => none

theorem setMem_get {l l' : List Blk} {xb : Nat × Blk} (h : setMem l xb = some l') : (fun x => l'[x]?) = fun y => if y = xb.1 then some xb.2 else l[y]? := by
  unfold setMem at h
  funext y
  split at h
  · rename_i hlt
    simp only [Option.some.injEq] at h
    subst h
    by_cases e : y = xb.1
    · subst e; simp [hlt]
    · simp [e, List.getElem?_set_ne (Ne.symm e)]
  · split at h
    · rename_i he
      simp only [Option.some.injEq] at h
      subst h
      by_cases e : y = xb.1
      · rw [if_pos e, e, he]; simp
      · rw [if_neg e]
        rcases Nat.lt_or_ge y l.length with h1 | h1
        · rw [List.getElem?_append_left h1]
        · rw [List.getElem?_eq_none (by simp; omega), List.getElem?_eq_none h1]
    · cases h

theorem setMems_sig : ∀ (r : List (Nat × Blk)) (f : List AV) (l l' : List Blk) (g : List (Nat × Nat)), setMems l r = some l' → (Fm.mk f l' g).sig = r.foldl (fun s xb => s.setM xb.1 xb.2) (Fm.mk f l g).sig
  | [], f, l, l', g, h => by simp only [setMems, Option.some.injEq] at h; subst h; rfl
  | xb :: r, f, l, l', g, h => by
    simp only [setMems] at h
    split at h
    · rename_i l1 h1
      rw [List.foldl_cons, setMems_sig r f l1 l' g h]
      congr 1
      simp only [Fm.sig, Sig.setM, setMem_get h1]
    · cases h

theorem putFr_sig {f f' : List AV} {l : List Blk} {g : List (Nat × Nat)} {dst : Option Nat} {x : AV} (h : putFr f dst x = some f') : (Fm.mk f' l g).sig = (Fm.mk f l g).sig.put dst x := by
  cases dst with
  | none => simp only [putFr, Option.some.injEq] at h; subst h; rfl
  | some d =>
    simp only [putFr] at h
    split at h
    · rename_i hd
      simp only [Option.some.injEq] at h
      subst h
      simp only [Fm.sig, Sig.put, List.length_set]
      congr 1
      funext t
      by_cases e : t = d
      · subst e; simp [hd]
      · simp [e, List.getElem?_set_ne (Ne.symm e)]
    · cases h

theorem Fm.after_sig {m m' : Fm} {dst : Option Nat} {out : Out} (h : m.after dst out = some m') : m'.sig = m.sig.after dst out := by
  unfold Fm.after at h
  split at h
  · rename_i l f h1 h2
    simp only [Option.some.injEq] at h
    subst h
    unfold Sig.after
    rw [← setMems_sig out.mems m.fr m.mem l m.gl h1]
    exact putFr_sig h2
  · cases h

theorem Fm.new_none (m : Fm) : m.sig.mem m.mem.length = none := by simp [Fm.sig]

/-! ### regions -/
def stepSt (P : Program) (ops : Array Oper) (st : St) (o : Oper) : Option (Out × St) :=
  match stepO P st.fm.sig st.fm.mem.length st.nv st.ora ops o with
  | some out => match st.fm.after o.dst out with
    | some fm => some (out, { st with fm := fm, nv := out.nv, ora := out.ora, ev := st.ev ++ out.ev })
    | none => none
  | none => none

def seqSt (P : Program) (ops : Array Oper) : List Oper → St → Option St
  | [], st => some st
  | o :: l, st => match stepSt P ops st o with | some r => seqSt P ops l r.2 | none => none

section
variable {P : Program} {v : Env}

theorem stepSt_spec {ops : Array Oper} {st st' : St} {o : Oper} {out : Out} (h : stepSt P ops st o = some (out, st')) :
    stepO P st.fm.sig st.fm.mem.length st.nv st.ora ops o = some out ∧ st'.fm.sig = st.fm.sig.after o.dst out ∧ st'.ev = st.ev ++ out.ev ∧ st'.lev = st.lev ∧ st'.sums = st.sums := by
  unfold stepSt at h
  split at h
  · rename_i out' h1
    split at h
    · rename_i fm h2
      simp only [Option.some.injEq, Prod.mk.injEq] at h
      obtain ⟨rfl, rfl⟩ := h
      exact ⟨h1, Fm.after_sig h2, rfl, rfl, rfl⟩
    · cases h
  · cases h

theorem seqSt_ev {ops : Array Oper} : ∀ (l : List Oper) (st st' : St), seqSt P ops l st = some st' → (∃ r, st'.ev = st.ev ++ r) ∧ st'.lev = st.lev
  | [], st, st', h => by simp only [seqSt, Option.some.injEq] at h; subst h; exact ⟨⟨[], by simp⟩, rfl⟩
  | o :: l, st, st', h => by
    simp only [seqSt] at h
    split at h
    · rename_i r hr
      obtain ⟨_, _, h3, h4, _⟩ := stepSt_spec (show stepSt P ops st o = some (r.1, r.2) from hr)
      obtain ⟨⟨r2, h5⟩, h6⟩ := seqSt_ev l _ _ h
      exact ⟨⟨r.1.ev ++ r2, by rw [h5, h3, List.append_assoc]⟩, by rw [h6, h4]⟩
    · cases h

theorem seqSt_wp {ops : Array Oper} {Q : Exit → Act → World → Prop} : ∀ (l : List Oper) (k : Nat) (st st' : St), (∀ j, l[j]? = ops[k + j]?) → seqSt P ops l st = some st' → (∀ e ∈ st'.ev, e.holds P v) →
    ∀ a w p, RelP v st.fm.sig a w p → (∀ a' w' q, RelP v st'.fm.sig a' w' q → Q .normal a' w') → wpOps P ops Q (List.range' k l.length) a w
  | [], k, st, st', _, h, _, a, w, p, hr, hQ => by
    simp only [seqSt, Option.some.injEq] at h
    subst h
    exact hQ a w p hr
  | o :: l, k, st, st', hl, h, he, a, w, p, hr, hQ => by
    simp only [seqSt] at h
    split at h
    · rename_i r hst
      obtain ⟨h1, h2, h3, h4, _⟩ := stepSt_spec (show stepSt P ops st o = some (r.1, r.2) from hst)
      obtain ⟨⟨r2, h5⟩, _⟩ := seqSt_ev l _ _ h
      have hk : ops[k]? = some o := by have := hl 0; simpa using this.symm
      rw [List.length_cons, List.range'_succ, wpOps_cons]
      refine stepO_does hk h1 (fun e hm => he e (by rw [h5, h3]; simp [hm])) st.fm.new_none hr fun a' w' q hr' => ?_
      rw [← h2] at hr'
      exact seqSt_wp l (k + 1) r.2 st' (fun j => by have := hl (j + 1); rw [show k + 1 + j = k + (j + 1) by omega]; simpa using this) h he a' w' q hr' hQ
    · cases h

/-- it makes a memory -/
def allocs (P : Program) (o : Oper) : Bool :=
  match o.op with
  | .alloc _ => true
  | .box _ _ => true
  | .makeSlice _ _ _ => true
  | .buildSlice _ _ _ => true
  | .call c => match c.callee with
    | .builtin .append => true
    | .value (.func f) => match P.funcs[f]? with | some fn => fn.resultTypes.toList.any fun t => (bytesT P t).isSome | none => false
    | _ => false
  | _ => false

theorem callsS_free {s : Sig} {x0 x1 nv : Nat} {ora : List (Option Bool)} {c : Call} {f : FuncId} {fn : Func} (h : (fn.resultTypes.toList.any fun t => (bytesT P t).isSome) = false) : coreCallS P s x0 nv ora c f fn = coreCallS P s x1 nv ora c f fn := by
  unfold coreCallS
  split
  · rfl
  · split
    · split
      · rename_i t hrt
        rw [hrt] at h
        have ht : bytesT P t = none := by simpa using h
        simp only [ht]
      · rename_i t t' hrt
        rw [hrt] at h
        have ht : bytesT P t' = none := by
          simp only [List.any_cons, List.any_nil, Bool.or_false, Bool.or_eq_false_iff] at h
          simpa using h.2
        simp only [ht]
      · rfl
    · rfl

theorem core_free {s : Sig} {x0 x1 nv : Nat} {ora : List (Option Bool)} {o : Oper} (h : allocs P o = false) : core P s x0 nv ora o = core P s x1 nv ora o := by
  unfold allocs at h
  unfold core
  cases dstOk s o with
  | false => rfl
  | true =>
    simp only
    cases ho : o.op <;> simp only [ho, reduceCtorEq] at h <;> first | rfl | skip
    case slice t x lo hi mx => cases mx <;> rfl
    case makeFunc f a b => cases f <;> rfl
    case call c =>
      simp only
      cases hc : c.callee with
      | builtin b => cases b <;> first | rfl | (simp [hc] at h; done)
      | value g =>
        cases g with
        | func f =>
          simp only [hc] at h
          cases hf : P.funcs[f]? with
          | none => simp only [hf]
          | some fn =>
            simp only [hf] at h
            have hcs : coreCallS P s x0 nv ora c f fn = coreCallS P s x1 nv ora c f fn := callsS_free h
            simp only [hf, hcs]
        | _ => rfl
      | invoke r m => rfl
theorem stepO_free {P : Program} {s : Sig} {x0 x1 nv : Nat} {ora : List (Option Bool)} {ops : Array Oper} {o : Oper} (h : allocs P o = false) : stepO P s x0 nv ora ops o = stepO P s x1 nv ora ops o := by
  unfold stepO
  split
  · exact core_free h
  · rfl
  · rw [core_free (x1 := x1) h]
  · rfl
/-- where it may look for a free place: what makes none looks far away -/
def freeAt (P : Program) (m : Fm) (o : Oper) : Nat := if allocs P o then m.mem.length else m.mem.length + 100000
theorem freeAt_none (P : Program) (m : Fm) (o : Oper) : m.sig.mem (freeAt P m o) = none := by
  unfold freeAt
  split
  · exact m.new_none
  · show m.mem[_]? = none
    exact List.getElem?_eq_none (by omega)
theorem freeAt_step {P : Program} {m : Fm} {nv : Nat} {ora : List (Option Bool)} {ops : Array Oper} {o : Oper} : stepO P m.sig (freeAt P m o) nv ora ops o = stepO P m.sig m.mem.length nv ora ops o := by
  unfold freeAt
  split
  · rfl
  · rename_i h
    exact stepO_free (by simpa using h)

/-- as seqSt, and what each operation read and wrote -/
structure Rec where
  reads : List Loc
  writes : List Loc
  out : Out
  deriving Inhabited

def trSt (P : Program) (ops : Array Oper) : List Oper → St → Option (List Rec × St)
  | [], st => some ([], st)
  | o :: l, st => match stepSt P ops st o with
    | some r => match trSt P ops l r.2 with
      | some (t, st') => some (⟨readsOf st.fm.sig ops (freeAt P st.fm o) o, writesOf o r.1, r.1⟩ :: t, st')
      | none => none
    | none => none

def edgeMask (masks : List Nat) (o : Oper) : Nat := o.after.toList.foldl (fun m e => if Region.binds .any e then m ||| (2 ^ e.on ||| masks.getD e.on 0) else m) 0
def masksOf (ops : List Oper) : List Nat := ops.foldl (fun l o => l ++ [edgeMask l o]) []

def meets (l m : List Loc) : Bool := l.any fun x => m.contains x

/-- j and i touch one place, and i is not ordered behind j -/
def apartB (masks : List Nat) (tr : List Rec) : Bool :=
  (List.range tr.length).all fun i => (List.range i).all fun j =>
    match tr[i]?, tr[j]? with
    | some x, some y => !(meets y.writes x.reads || meets y.writes x.writes || meets x.writes y.reads) || (masks.getD i 0).testBit j
    | _, _ => true

def maskB (ops : List Oper) (masks : List Nat) : Bool :=
  (List.range ops.length).all fun i => match ops[i]? with
    | some o => masks.getD i 0 == edgeMask masks o && o.after.toList.all fun e => !Region.binds .any e || decide (e.on < i)
    | none => true

theorem testBit_edgeMask (masks : List Nat) (l : List Edge) : ∀ (m j : Nat), (l.foldl (fun m e => if Region.binds .any e then m ||| (2 ^ e.on ||| masks.getD e.on 0) else m) m).testBit j = true →
    m.testBit j = true ∨ ∃ e ∈ l, Region.binds .any e = true ∧ (e.on = j ∨ (masks.getD e.on 0).testBit j = true) := by
  induction l with
  | nil => intro m j h; exact .inl h
  | cons e l ih =>
    intro m j h
    rw [List.foldl_cons] at h
    rcases ih _ j h with h | ⟨e', h1, h2⟩
    · split at h
      · rename_i hb
        simp only [Nat.testBit_or, Bool.or_eq_true, Nat.testBit_two_pow, decide_eq_true_eq] at h
        rcases h with h | h | h
        · exact .inl h
        · exact .inr ⟨e, by simp, hb, .inl h⟩
        · exact .inr ⟨e, by simp, hb, .inr h⟩
      · exact .inl h
    · exact .inr ⟨e', by simp [h1], h2⟩

theorem trSt_spec {ops : Array Oper} : ∀ (l : List Oper) (st st' : St) (tr : List Rec), trSt P ops l st = some (tr, st') →
    tr.length = l.length ∧ ((∃ r, st'.ev = st.ev ++ r) ∧ st'.lev = st.lev) ∧ (∀ x ∈ tr, ∀ e ∈ x.out.ev, e ∈ st'.ev) ∧
    (∀ i o, l[i]? = some o → ∃ (x : Rec) (s : Sig) (x0 nv : Nat) (ora : List (Option Bool)), tr[i]? = some x ∧
      s = (List.range i).foldl (fun s j => match l[j]?, tr[j]? with | some o, some x => s.after o.dst x.out | _, _ => s) st.fm.sig ∧
      stepO P s x0 nv ora ops o = some x.out ∧ s.mem x0 = none ∧ x.reads = readsOf s ops x0 o ∧ x.writes = writesOf o x.out) ∧
    st'.fm.sig = (List.range l.length).foldl (fun s j => match l[j]?, tr[j]? with | some o, some x => s.after o.dst x.out | _, _ => s) st.fm.sig
  | [], st, st', tr, h => by
    simp only [trSt, Option.some.injEq, Prod.mk.injEq] at h
    obtain ⟨rfl, rfl⟩ := h
    exact ⟨rfl, ⟨⟨[], by simp⟩, rfl⟩, by simp, by simp, rfl⟩
  | o :: l, st, st', tr, h => by
    simp only [trSt] at h
    split at h
    · rename_i r hst
      split at h
      · rename_i t st2 ht
        simp only [Option.some.injEq, Prod.mk.injEq] at h
        obtain ⟨rfl, rfl⟩ := h
        obtain ⟨h1, h2, h3, h4, _⟩ := stepSt_spec (show stepSt P ops st o = some (r.1, r.2) from hst)
        obtain ⟨i1, ⟨⟨r2, i2⟩, i2'⟩, i3, i4, i5⟩ := trSt_spec l _ _ _ ht
        have hfold : ∀ n, (List.range (n + 1)).foldl (fun s j => match (o :: l)[j]?, ((⟨readsOf st.fm.sig ops (freeAt P st.fm o) o, writesOf o r.1, r.1⟩ : Rec) :: t)[j]? with | some o, some x => s.after o.dst x.out | _, _ => s) st.fm.sig =
            (List.range n).foldl (fun s j => match l[j]?, t[j]? with | some o, some x => s.after o.dst x.out | _, _ => s) r.2.fm.sig := by
          intro n
          rw [List.range_succ_eq_map, List.foldl_cons, List.foldl_map]
          simp only [List.getElem?_cons_zero, List.getElem?_cons_succ]
          rw [h2]
        refine ⟨by simp [i1], ⟨⟨r.1.ev ++ r2, by rw [i2, h3, List.append_assoc]⟩, by rw [i2', h4]⟩, ?_, ?_, ?_⟩
        · intro x hx e he
          rcases List.mem_cons.1 hx with rfl | hx
          · rw [i2, h3]; simp [he]
          · exact i3 x hx e he
        · intro i oi hi
          cases i with
          | zero =>
            simp only [List.getElem?_cons_zero, Option.some.injEq] at hi
            subst hi
            exact ⟨_, st.fm.sig, _, _, _, rfl, rfl, freeAt_step.trans h1, freeAt_none _ _ _, rfl, rfl⟩
          | succ i =>
            simp only [List.getElem?_cons_succ] at hi
            obtain ⟨x, s, x0, nv, ora, j1, j2, j3⟩ := i4 i oi hi
            exact ⟨x, s, x0, nv, ora, by simpa using j1, by rw [hfold]; exact j2, j3⟩
        · rw [List.length_cons, hfold]
          exact i5
      · cases h
    · cases h

def drawSt (P : Program) (ops : Array Oper) (st : St) : Option St :=
  match trSt P ops ops.toList st with
  | some (tr, st') => if P.follows .mixedOrders && maskB ops.toList (masksOf ops.toList) && apartB (masksOf ops.toList) tr then some st' else none
  | none => none

theorem meets_of {l m : List Loc} {q : Loc} (h1 : q ∈ l) (h2 : q ∈ m) : meets l m = true := by
  unfold meets
  rw [List.any_eq_true]
  exact ⟨q, h1, by simpa using h2⟩

theorem drawSt_wp {ops : Array Oper} {id : Nat} {Q : Exit → Act → World → Prop} {st st' : St} (h : drawSt P ops st = some st') (he : ∀ e ∈ st'.ev, e.holds P v)
    {a : Act} {w : World} {p : Mp} (hr : RelP v st.fm.sig a w p) (hQ : ∀ a' w' q, RelP v st'.fm.sig a' w' q → Q .normal a' w') : (Code.region id ops true).wp P Q a w := by
  unfold drawSt at h
  split at h
  case h_2 => cases h
  rename_i tr st2 htr
  split at h
  case isFalse => cases h
  rename_i hc
  simp only [Bool.and_eq_true] at hc
  obtain ⟨⟨hm, hmask⟩, hapart⟩ := hc
  simp only [Option.some.injEq] at h
  subst h
  obtain ⟨t1, _, t3, t4, t5⟩ := trSt_spec _ _ _ _ htr
  have hsize : ops.toList.length = ops.size := by simp
  -- the outcome of each
  generalize houts : (fun i => (tr.getD i default).out : Nat → Out) = outs at *
  have hupd : ∀ n, upds ops outs st.fm.sig (fun _ => true) n = (List.range n).foldl (fun s j => match ops.toList[j]?, tr[j]? with | some o, some x => s.after o.dst x.out | _, _ => s) st.fm.sig := by
    intro n
    unfold upds
    simp only [if_true]
    congr 1
    funext s j
    unfold upd1
    rw [← Array.getElem?_toList]
    cases hj : ops.toList[j]? with
    | none => rfl
    | some o =>
      have hlt : j < tr.length := by rw [t1]; exact (List.getElem?_eq_some_iff.1 hj).1
      simp only [List.getElem?_eq_getElem hlt]
      subst houts
      simp [hlt]
  have hwr : ∀ j x, tr[j]? = some x → writes ops outs j = x.writes := by
    intro j x hx
    have hlt : j < ops.toList.length := by rw [← t1]; exact (List.getElem?_eq_some_iff.1 hx).1
    obtain ⟨x', s, x0, nv, ora, k1, k2, k3, k4, k5, k6⟩ := t4 j _ (List.getElem?_eq_getElem hlt)
    rw [hx] at k1
    cases k1
    unfold writes
    rw [← Array.getElem?_toList, List.getElem?_eq_getElem hlt, k6]
    subst houts
    simp [List.getD, hx]
  have hanc : ∀ i o, ops.toList[i]? = some o → (masksOf ops.toList).getD i 0 = edgeMask (masksOf ops.toList) o ∧ ∀ e ∈ o.after, Region.binds .any e = true → e.on < i := by
    intro i o hi
    have hlt := (List.getElem?_eq_some_iff.1 hi).1
    unfold maskB at hmask
    have := List.all_eq_true.1 hmask i (List.mem_range.2 hlt)
    rw [hi] at this
    simp only [Bool.and_eq_true, beq_iff_eq, List.all_eq_true, Bool.or_eq_true, Bool.not_eq_true', decide_eq_true_eq] at this
    refine ⟨this.1, fun e hm hb => ?_⟩
    rcases this.2 e (by simpa using hm) with h1 | h1
    · rw [hb] at h1; cases h1
    · exact h1
  have hfits : Fits P v ops st.fm.sig outs (fun i j => ((masksOf ops.toList).getD i 0).testBit j) := by
    refine ⟨?_, ?_, ?_⟩
    · intro i o hi
      rw [← Array.getElem?_toList] at hi
      obtain ⟨x, s, x0, nv, ora, k1, k2, k3, k4, k5, k6⟩ := t4 i o hi
      have hout : outs i = x.out := by subst houts; simp [List.getD, k1]
      rw [hupd, ← k2, hout]
      refine ⟨x0, nv, ora, k3, fun e hm => he e (t3 x (List.mem_of_getElem? k1) e hm), k4, ?_⟩
      intro j oj hoj hji ⟨q, hq1, hq2⟩
      rw [← Array.getElem?_toList] at hoj
      have hjl : j < tr.length := by rw [t1]; exact (List.getElem?_eq_some_iff.1 hoj).1
      have hil : i < tr.length := (List.getElem?_eq_some_iff.1 k1).1
      have hy := List.getElem?_eq_getElem hjl
      generalize tr[j] = y at hy
      rw [hwr j y hy] at hq1
      rw [hwr i x k1, ← k5] at hq2
      have hap : ∀ i' j' x' y', j' < i' → tr[i']? = some x' → tr[j']? = some y' → (meets y'.writes x'.reads || meets y'.writes x'.writes || meets x'.writes y'.reads) = true → ((masksOf ops.toList).getD i' 0).testBit j' = true := by
        intro i' j' x' y' hlt h1 h2 h3
        unfold apartB at hapart
        have := List.all_eq_true.1 hapart i' (List.mem_range.2 (List.getElem?_eq_some_iff.1 h1).1)
        have := List.all_eq_true.1 this j' (List.mem_range.2 hlt)
        rw [h1, h2] at this
        simp only [h3, Bool.not_true, Bool.false_or] at this
        exact this
      refine ⟨fun hlt => hap i j x y hlt k1 hy ?_, fun hlt => hap j i y x hlt hy k1 ?_⟩
      · rcases hq2 with hq2 | hq2
        · simp [meets_of hq1 hq2]
        · simp [meets_of hq1 hq2]
      · rcases hq2 with hq2 | hq2
        · simp [meets_of hq1 hq2]
        · simp [meets_of hq2 hq1]
    · intro i o hi
      rw [← Array.getElem?_toList] at hi
      exact (hanc i o hi).2
    · intro i o hi j hb
      rw [← Array.getElem?_toList] at hi
      rw [(hanc i o hi).1] at hb
      unfold edgeMask at hb
      rcases testBit_edgeMask _ _ _ _ hb with h1 | ⟨e, h1, h2⟩
      · simp at h1
      · exact ⟨e, by simpa using h1, h2⟩
  have hdr : ({ w with drawn := w.drawn + 1 } : World) = w.drew := rfl
  refine wp_region_any hm ?_
  rw [hdr]
  have hr' : RelP v st.fm.sig a w.drew p := hr.world ((Below.refl _ _).drew)
  have hL : upds ops outs st.fm.sig (lst (Array.replicate ops.size false)) ops.size = st.fm.sig := by
    have : ∀ n, upds ops outs st.fm.sig (lst (Array.replicate ops.size false)) n = st.fm.sig := by
      intro n
      induction n with
      | zero => rfl
      | succ n ih =>
        rw [upds_succ, ih]
        have : lst (Array.replicate ops.size false) n = false := by
          unfold lst
          by_cases hn : n < ops.size <;> simp [hn]
        rw [this]
        rfl
    exact this _
  refine any_order hfits (fun a' w' q hq => hQ a' w' q ?_) ops.size _ ⟨by simp, ?_⟩ ?_ a w.drew p (by rw [hL]; exact hr')
  · rw [t5, hsize, ← hupd]; exact hq
  · intro i o _ hl
    unfold lst at hl
    have hlt : ¬ i < ops.size ∨ i < ops.size := by omega
    rcases hlt with hn | hn <;> simp [hn] at hl
  · have : ((List.range ops.size).filter fun i => !lst (Array.replicate ops.size false) i) = List.range ops.size := by
      apply List.filter_eq_self.2
      intro i hi
      unfold lst
      simp [List.mem_range.1 hi]
    rw [this, List.length_range]

end
end Go.Sx
