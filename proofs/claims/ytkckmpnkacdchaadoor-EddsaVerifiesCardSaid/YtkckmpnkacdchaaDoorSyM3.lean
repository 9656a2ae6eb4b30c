/- Merged: Sy8, Sy9, SyF, SyA, SyB. -/
import Derived.Test.YtkckmpnkacdchaaDoorSyM2
import Derived.LoopN
import Derived.Laws.Externs
import Derived.Scope
set_option linter.unusedVariables false
set_option linter.unusedSimpArgs false
namespace Go.Sx
open Go Go.RowKit
inductive Ex where
 | normal
 | exit (id : Nat)
 | ret
 deriving DecidableEq, Repr, Inhabited
def Ex.to : Ex → Exit
 | .normal => .normal
 | .exit id => .exit id
 | .ret => .ret
structure Fm where
 fr : List AV
 mem : List Blk
 gl : List (Nat × Nat)
 deriving DecidableEq, Repr, Inhabited
def lkp : List (Nat × Nat) → Nat → Option Nat
 | [], _ => none
 | (a, b) :: l, g => if g = a then some b else lkp l g
def Fm.sig (m : Fm) : Sig := ⟨fun t => m.fr.getD t .undef, fun x => m.mem[x]?, m.fr.length, lkp m.gl⟩
structure LSum where
 fr : List (Nat × AV)
 mem : List (Nat × Blk)
 nv : Nat
 ex : Ex
 deriving DecidableEq, Repr, Inhabited
structure LEv where
 body : Code
 pre : Fm
 post : Fm
 ex : Ex
def LEv.holds (P : Program) (v : Env) (l : LEv) : Prop :=
 ∀ a w p, RelP v l.pre.sig a w p → (Code.loop l.body).wp P (fun e a' w' => e = l.ex.to ∧ ∃ q, RelP v l.post.sig a' w' q) a w
structure St where
 fm : Fm
 nv : Nat
 ora : List (Option Bool)
 sums : List (Option LSum)
 ev : List Ev
 lev : List LEv
def setMem (l : List Blk) (xb : Nat × Blk) : Option (List Blk) :=
 if xb.1 < l.length then some (l.set xb.1 xb.2) else if xb.1 = l.length then some (l ++ [xb.2]) else none
def setMems : List Blk → List (Nat × Blk) → Option (List Blk)
 | l, [] => some l
 | l, xb :: r => match setMem l xb with | some l' => setMems l' r | none => none
def putFr (l : List AV) (dst : Option Nat) (x : AV) : Option (List AV) :=
 match dst with
 | none => some l
 | some d => if d < l.length then some (l.set d x) else none
def Fm.after (m : Fm) (dst : Option Nat) (out : Out) : Option Fm :=
 match setMems m.mem out.mems, putFr m.fr dst out.val with
 | some l, some f => some ⟨f, l, m.gl⟩
 | _, _ => none
theorem setMem_get {l l' : List Blk} {xb : Nat × Blk} (h : setMem l xb = some l') : (fun x => l'[x]?) = fun y => if y = xb.1 then some xb.2 else l[y]? := by
 unfold setMem at h
 funext y
 split at h
 ·rename_i hlt
  simp only [Option.some.injEq] at h
  subst h
  by_cases e : y = xb.1
  ·subst e; simp [hlt]
  ·simp [e, List.getElem?_set_ne (Ne.symm e)]
 ·split at h
  ·rename_i he
   simp only [Option.some.injEq] at h
   subst h
   by_cases e : y = xb.1
   ·rw [if_pos e, e, he]; simp
   ·rw [if_neg e]
    rcases Nat.lt_or_ge y l.length with h1 | h1
    ·rw [List.getElem?_append_left h1]
    ·rw [List.getElem?_eq_none (by simp; omega), List.getElem?_eq_none h1]
  ·cases h
theorem setMems_sig : ∀ (r : List (Nat × Blk)) (f : List AV) (l l' : List Blk) (g : List (Nat × Nat)), setMems l r = some l' → (Fm.mk f l' g).sig = r.foldl (fun s xb => s.setM xb.1 xb.2) (Fm.mk f l g).sig
 | [], f, l, l', g, h => by simp only [setMems, Option.some.injEq] at h; subst h; rfl
 | xb :: r, f, l, l', g, h => by
  simp only [setMems] at h
  split at h
  ·rename_i l1 h1
   rw [List.foldl_cons, setMems_sig r f l1 l' g h]
   congr 1
   simp only [Fm.sig, Sig.setM, setMem_get h1]
  ·cases h
theorem putFr_sig {f f' : List AV} {l : List Blk} {g : List (Nat × Nat)} {dst : Option Nat} {x : AV} (h : putFr f dst x = some f') : (Fm.mk f' l g).sig = (Fm.mk f l g).sig.put dst x := by
 cases dst with
 | none => simp only [putFr, Option.some.injEq] at h; subst h; rfl
 | some d =>
  simp only [putFr] at h
  split at h
  ·rename_i hd
   simp only [Option.some.injEq] at h
   subst h
   simp only [Fm.sig, Sig.put, List.length_set]
   congr 1
   funext t
   by_cases e : t = d
   ·subst e; simp [hd]
   ·simp [e, List.getElem?_set_ne (Ne.symm e)]
  ·cases h
theorem Fm.after_sig {m m' : Fm} {dst : Option Nat} {out : Out} (h : m.after dst out = some m') : m'.sig = m.sig.after dst out := by
 unfold Fm.after at h
 split at h
 ·rename_i l f h1 h2
  simp only [Option.some.injEq] at h
  subst h
  unfold Sig.after
  rw [← setMems_sig out.mems m.fr m.mem l m.gl h1]
  exact putFr_sig h2
 ·cases h
theorem Fm.new_none (m : Fm) : m.sig.mem m.mem.length = none := by simp [Fm.sig]
def stepSt (P : Program) (ops : Array Oper) (st : St) (o : Oper) : Option (Out × St) :=
 match stepO P st.fm.sig st.fm.mem.length st.nv st.ora ops o with
 | some out => match st.fm.after o.dst out with
  | some fm => some (out, { st with fm := fm, nv := out.nv, ora := out.ora, ev := st.ev ++ out.ev })
  | none => none
 | none => none
def seqSt (P : Program) (ops : Array Oper) : List Oper → St → Option St
 | [], st => some st
 | o :: l, st => match stepSt P ops st o with | some r => seqSt P ops l r.2 | none => none
section
variable {P : Program} {v : Env}
theorem stepSt_spec {ops : Array Oper} {st st' : St} {o : Oper} {out : Out} (h : stepSt P ops st o = some (out, st')) :
  stepO P st.fm.sig st.fm.mem.length st.nv st.ora ops o = some out ∧ st'.fm.sig = st.fm.sig.after o.dst out ∧ st'.ev = st.ev ++ out.ev ∧ st'.lev = st.lev ∧ st'.sums = st.sums := by
 unfold stepSt at h
 split at h
 ·rename_i out' h1
  split at h
  ·rename_i fm h2
   simp only [Option.some.injEq, Prod.mk.injEq] at h
   obtain ⟨rfl, rfl⟩ := h
   exact ⟨h1, Fm.after_sig h2, rfl, rfl, rfl⟩
  ·cases h
 ·cases h
theorem seqSt_ev {ops : Array Oper} : ∀ (l : List Oper) (st st' : St), seqSt P ops l st = some st' → (∃ r, st'.ev = st.ev ++ r) ∧ st'.lev = st.lev
 | [], st, st', h => by simp only [seqSt, Option.some.injEq] at h; subst h; exact ⟨⟨[], by simp⟩, rfl⟩
 | o :: l, st, st', h => by
  simp only [seqSt] at h
  split at h
  ·rename_i r hr
   obtain ⟨_, _, h3, h4, _⟩ := stepSt_spec (show stepSt P ops st o = some (r.1, r.2) from hr)
   obtain ⟨⟨r2, h5⟩, h6⟩ := seqSt_ev l _ _ h
   exact ⟨⟨r.1.ev ++ r2, by rw [h5, h3, List.append_assoc]⟩, by rw [h6, h4]⟩
  ·cases h
theorem seqSt_wp {ops : Array Oper} {Q : Exit → Act → World → Prop} : ∀ (l : List Oper) (k : Nat) (st st' : St), (∀ j, l[j]? = ops[k + j]?) → seqSt P ops l st = some st' → (∀ e ∈ st'.ev, e.holds P v) →
  ∀ a w p, RelP v st.fm.sig a w p → (∀ a' w' q, RelP v st'.fm.sig a' w' q → Q .normal a' w') → wpOps P ops Q (List.range' k l.length) a w
 | [], k, st, st', _, h, _, a, w, p, hr, hQ => by
  simp only [seqSt, Option.some.injEq] at h
  subst h
  exact hQ a w p hr
 | o :: l, k, st, st', hl, h, he, a, w, p, hr, hQ => by
  simp only [seqSt] at h
  split at h
  ·rename_i r hst
   obtain ⟨h1, h2, h3, h4, _⟩ := stepSt_spec (show stepSt P ops st o = some (r.1, r.2) from hst)
   obtain ⟨⟨r2, h5⟩, _⟩ := seqSt_ev l _ _ h
   have hk : ops[k]? = some o := by have := hl 0; simpa using this.symm
   rw [List.length_cons, List.range'_succ, wpOps_cons]
   refine stepO_does hk h1 (fun e hm => he e (by rw [h5, h3]; simp [hm])) st.fm.new_none hr fun a' w' q hr' => ?_
   rw [← h2] at hr'
   exact seqSt_wp l (k + 1) r.2 st' (fun j => by have := hl (j + 1); rw [show k + 1 + j = k + (j + 1) by omega]; simpa using this) h he a' w' q hr' hQ
  ·cases h
def allocs (P : Program) (o : Oper) : Bool :=
 match o.op with
 | .alloc _ => true
 | .box _ _ => true
 | .makeSlice _ _ _ => true
 | .buildSlice _ _ _ => true
 | .call c => match c.callee with
  | .builtin .append => true
  | .value (.func f) => match P.funcs[f]? with | some fn => fn.resultTypes.toList.any fun t => (bytesT P t).isSome | none => false
  | _ => false
 | _ => false
theorem callsS_free {s : Sig} {x0 x1 nv : Nat} {ora : List (Option Bool)} {c : Call} {f : FuncId} {fn : Func} (h : (fn.resultTypes.toList.any fun t => (bytesT P t).isSome) = false) : coreCallS P s x0 nv ora c f fn = coreCallS P s x1 nv ora c f fn := by
 unfold coreCallS
 split
 ·rfl
 ·split
  ·split
   ·rename_i t hrt
    rw [hrt] at h
    have ht : bytesT P t = none := by simpa using h
    simp only [ht]
   ·rename_i t t' hrt
    rw [hrt] at h
    have ht : bytesT P t' = none := by
     simp only [List.any_cons, List.any_nil, Bool.or_false, Bool.or_eq_false_iff] at h
     simpa using h.2
    simp only [ht]
   ·rfl
  ·rfl
theorem core_free {s : Sig} {x0 x1 nv : Nat} {ora : List (Option Bool)} {o : Oper} (h : allocs P o = false) : core P s x0 nv ora o = core P s x1 nv ora o := by
 unfold allocs at h
 unfold core
 cases dstOk s o with
 | false => rfl
 | true =>
  simp only
  cases ho : o.op <;> simp only [ho, reduceCtorEq] at h <;> first | rfl | skip
  case slice t x lo hi mx => cases mx <;> rfl
  case makeFunc f a b => cases f <;> rfl
  case call c =>
   simp only
   cases hc : c.callee with
   | builtin b => cases b <;> first | rfl | (simp [hc] at h; done)
   | value g =>
    cases g with
    | func f =>
     simp only [hc] at h
     cases hf : P.funcs[f]? with
     | none => simp only [hf]
     | some fn =>
      simp only [hf] at h
      have hcs : coreCallS P s x0 nv ora c f fn = coreCallS P s x1 nv ora c f fn := callsS_free h
      simp only [hf, hcs]
    | _ => rfl
   | invoke r m => rfl
theorem stepO_free {P : Program} {s : Sig} {x0 x1 nv : Nat} {ora : List (Option Bool)} {ops : Array Oper} {o : Oper} (h : allocs P o = false) : stepO P s x0 nv ora ops o = stepO P s x1 nv ora ops o := by
 unfold stepO
 split
 ·exact core_free h
 ·rfl
 ·rw [core_free (x1 := x1) h]
 ·rfl
def freeAt (P : Program) (m : Fm) (o : Oper) : Nat := if allocs P o then m.mem.length else m.mem.length + 100000
theorem freeAt_none (P : Program) (m : Fm) (o : Oper) : m.sig.mem (freeAt P m o) = none := by
 unfold freeAt
 split
 ·exact m.new_none
 ·show m.mem[_]? = none
  exact List.getElem?_eq_none (by omega)
theorem freeAt_step {P : Program} {m : Fm} {nv : Nat} {ora : List (Option Bool)} {ops : Array Oper} {o : Oper} : stepO P m.sig (freeAt P m o) nv ora ops o = stepO P m.sig m.mem.length nv ora ops o := by
 unfold freeAt
 split
 ·rfl
 ·rename_i h
  exact stepO_free (by simpa using h)
structure Rec where
 reads : List Loc
 writes : List Loc
 out : Out
 deriving Inhabited
def trSt (P : Program) (ops : Array Oper) : List Oper → St → Option (List Rec × St)
 | [], st => some ([], st)
 | o :: l, st => match stepSt P ops st o with
  | some r => match trSt P ops l r.2 with
   | some (t, st') => some (⟨readsOf st.fm.sig ops (freeAt P st.fm o) o, writesOf o r.1, r.1⟩ :: t, st')
   | none => none
  | none => none
def edgeMask (masks : List Nat) (o : Oper) : Nat := o.after.toList.foldl (fun m e => if Region.binds .any e then m ||| (2 ^ e.on ||| masks.getD e.on 0) else m) 0
def masksOf (ops : List Oper) : List Nat := ops.foldl (fun l o => l ++ [edgeMask l o]) []
def meets (l m : List Loc) : Bool := l.any fun x => m.contains x
def apartB (masks : List Nat) (tr : List Rec) : Bool :=
 (List.range tr.length).all fun i => (List.range i).all fun j =>
  match tr[i]?, tr[j]? with
  | some x, some y => !(meets y.writes x.reads || meets y.writes x.writes || meets x.writes y.reads) || (masks.getD i 0).testBit j
  | _, _ => true
def maskB (ops : List Oper) (masks : List Nat) : Bool :=
 (List.range ops.length).all fun i => match ops[i]? with
  | some o => masks.getD i 0 == edgeMask masks o && o.after.toList.all fun e => !Region.binds .any e || decide (e.on < i)
  | none => true
theorem testBit_edgeMask (masks : List Nat) (l : List Edge) : ∀ (m j : Nat), (l.foldl (fun m e => if Region.binds .any e then m ||| (2 ^ e.on ||| masks.getD e.on 0) else m) m).testBit j = true →
  m.testBit j = true ∨ ∃ e ∈ l, Region.binds .any e = true ∧ (e.on = j ∨ (masks.getD e.on 0).testBit j = true) := by
 induction l with
 | nil => intro m j h; exact .inl h
 | cons e l ih =>
  intro m j h
  rw [List.foldl_cons] at h
  rcases ih _ j h with h | ⟨e', h1, h2⟩
  ·split at h
   ·rename_i hb
    simp only [Nat.testBit_or, Bool.or_eq_true, Nat.testBit_two_pow, decide_eq_true_eq] at h
    rcases h with h | h | h
    ·exact .inl h
    ·exact .inr ⟨e, by simp, hb, .inl h⟩
    ·exact .inr ⟨e, by simp, hb, .inr h⟩
   ·exact .inl h
  ·exact .inr ⟨e', by simp [h1], h2⟩
theorem trSt_spec {ops : Array Oper} : ∀ (l : List Oper) (st st' : St) (tr : List Rec), trSt P ops l st = some (tr, st') →
  tr.length = l.length ∧ ((∃ r, st'.ev = st.ev ++ r) ∧ st'.lev = st.lev) ∧ (∀ x ∈ tr, ∀ e ∈ x.out.ev, e ∈ st'.ev) ∧
  (∀ i o, l[i]? = some o → ∃ (x : Rec) (s : Sig) (x0 nv : Nat) (ora : List (Option Bool)), tr[i]? = some x ∧
   s = (List.range i).foldl (fun s j => match l[j]?, tr[j]? with | some o, some x => s.after o.dst x.out | _, _ => s) st.fm.sig ∧
   stepO P s x0 nv ora ops o = some x.out ∧ s.mem x0 = none ∧ x.reads = readsOf s ops x0 o ∧ x.writes = writesOf o x.out) ∧
  st'.fm.sig = (List.range l.length).foldl (fun s j => match l[j]?, tr[j]? with | some o, some x => s.after o.dst x.out | _, _ => s) st.fm.sig
 | [], st, st', tr, h => by
  simp only [trSt, Option.some.injEq, Prod.mk.injEq] at h
  obtain ⟨rfl, rfl⟩ := h
  exact ⟨rfl, ⟨⟨[], by simp⟩, rfl⟩, by simp, by simp, rfl⟩
 | o :: l, st, st', tr, h => by
  simp only [trSt] at h
  split at h
  ·rename_i r hst
   split at h
   ·rename_i t st2 ht
    simp only [Option.some.injEq, Prod.mk.injEq] at h
    obtain ⟨rfl, rfl⟩ := h
    obtain ⟨h1, h2, h3, h4, _⟩ := stepSt_spec (show stepSt P ops st o = some (r.1, r.2) from hst)
    obtain ⟨i1, ⟨⟨r2, i2⟩, i2'⟩, i3, i4, i5⟩ := trSt_spec l _ _ _ ht
    have hfold : ∀ n, (List.range (n + 1)).foldl (fun s j => match (o :: l)[j]?, ((⟨readsOf st.fm.sig ops (freeAt P st.fm o) o, writesOf o r.1, r.1⟩ : Rec) :: t)[j]? with | some o, some x => s.after o.dst x.out | _, _ => s) st.fm.sig =
      (List.range n).foldl (fun s j => match l[j]?, t[j]? with | some o, some x => s.after o.dst x.out | _, _ => s) r.2.fm.sig := by
     intro n
     rw [List.range_succ_eq_map, List.foldl_cons, List.foldl_map]
     simp only [List.getElem?_cons_zero, List.getElem?_cons_succ]
     rw [h2]
    refine ⟨by simp [i1], ⟨⟨r.1.ev ++ r2, by rw [i2, h3, List.append_assoc]⟩, by rw [i2', h4]⟩, ?_, ?_, ?_⟩
    ·intro x hx e he
     rcases List.mem_cons.1 hx with rfl | hx
     ·rw [i2, h3]; simp [he]
     ·exact i3 x hx e he
    ·intro i oi hi
     cases i with
     | zero =>
      simp only [List.getElem?_cons_zero, Option.some.injEq] at hi
      subst hi
      exact ⟨_, st.fm.sig, _, _, _, rfl, rfl, freeAt_step.trans h1, freeAt_none _ _ _, rfl, rfl⟩
     | succ i =>
      simp only [List.getElem?_cons_succ] at hi
      obtain ⟨x, s, x0, nv, ora, j1, j2, j3⟩ := i4 i oi hi
      exact ⟨x, s, x0, nv, ora, by simpa using j1, by rw [hfold]; exact j2, j3⟩
    ·rw [List.length_cons, hfold]
     exact i5
   ·cases h
  ·cases h
def drawSt (P : Program) (ops : Array Oper) (st : St) : Option St :=
 match trSt P ops ops.toList st with
 | some (tr, st') => if P.follows .mixedOrders && maskB ops.toList (masksOf ops.toList) && apartB (masksOf ops.toList) tr then some st' else none
 | none => none
theorem meets_of {l m : List Loc} {q : Loc} (h1 : q ∈ l) (h2 : q ∈ m) : meets l m = true := by
 unfold meets
 rw [List.any_eq_true]
 exact ⟨q, h1, by simpa using h2⟩
theorem drawSt_wp {ops : Array Oper} {id : Nat} {Q : Exit → Act → World → Prop} {st st' : St} (h : drawSt P ops st = some st') (he : ∀ e ∈ st'.ev, e.holds P v)
  {a : Act} {w : World} {p : Mp} (hr : RelP v st.fm.sig a w p) (hQ : ∀ a' w' q, RelP v st'.fm.sig a' w' q → Q .normal a' w') : (Code.region id ops true).wp P Q a w := by
 unfold drawSt at h
 split at h
 case h_2 => cases h
 rename_i tr st2 htr
 split at h
 case isFalse => cases h
 rename_i hc
 simp only [Bool.and_eq_true] at hc
 obtain ⟨⟨hm, hmask⟩, hapart⟩ := hc
 simp only [Option.some.injEq] at h
 subst h
 obtain ⟨t1, _, t3, t4, t5⟩ := trSt_spec _ _ _ _ htr
 have hsize : ops.toList.length = ops.size := by simp
 -- the outcome of each
 generalize houts : (fun i => (tr.getD i default).out : Nat → Out) = outs at *
 have hupd : ∀ n, upds ops outs st.fm.sig (fun _ => true) n = (List.range n).foldl (fun s j => match ops.toList[j]?, tr[j]? with | some o, some x => s.after o.dst x.out | _, _ => s) st.fm.sig := by
  intro n
  unfold upds
  simp only [if_true]
  congr 1
  funext s j
  unfold upd1
  rw [← Array.getElem?_toList]
  cases hj : ops.toList[j]? with
  | none => rfl
  | some o =>
   have hlt : j < tr.length := by rw [t1]; exact (List.getElem?_eq_some_iff.1 hj).1
   simp only [List.getElem?_eq_getElem hlt]
   subst houts
   simp [hlt]
 have hwr : ∀ j x, tr[j]? = some x → writes ops outs j = x.writes := by
  intro j x hx
  have hlt : j < ops.toList.length := by rw [← t1]; exact (List.getElem?_eq_some_iff.1 hx).1
  obtain ⟨x', s, x0, nv, ora, k1, k2, k3, k4, k5, k6⟩ := t4 j _ (List.getElem?_eq_getElem hlt)
  rw [hx] at k1
  cases k1
  unfold writes
  rw [← Array.getElem?_toList, List.getElem?_eq_getElem hlt, k6]
  subst houts
  simp [List.getD, hx]
 have hanc : ∀ i o, ops.toList[i]? = some o → (masksOf ops.toList).getD i 0 = edgeMask (masksOf ops.toList) o ∧ ∀ e ∈ o.after, Region.binds .any e = true → e.on < i := by
  intro i o hi
  have hlt := (List.getElem?_eq_some_iff.1 hi).1
  unfold maskB at hmask
  have := List.all_eq_true.1 hmask i (List.mem_range.2 hlt)
  rw [hi] at this
  simp only [Bool.and_eq_true, beq_iff_eq, List.all_eq_true, Bool.or_eq_true, Bool.not_eq_true', decide_eq_true_eq] at this
  refine ⟨this.1, fun e hm hb => ?_⟩
  rcases this.2 e (by simpa using hm) with h1 | h1
  ·rw [hb] at h1; cases h1
  ·exact h1
 have hfits : Fits P v ops st.fm.sig outs (fun i j => ((masksOf ops.toList).getD i 0).testBit j) := by
  refine ⟨?_, ?_, ?_⟩
  ·intro i o hi
   rw [← Array.getElem?_toList] at hi
   obtain ⟨x, s, x0, nv, ora, k1, k2, k3, k4, k5, k6⟩ := t4 i o hi
   have hout : outs i = x.out := by subst houts; simp [List.getD, k1]
   rw [hupd, ← k2, hout]
   refine ⟨x0, nv, ora, k3, fun e hm => he e (t3 x (List.mem_of_getElem? k1) e hm), k4, ?_⟩
   intro j oj hoj hji ⟨q, hq1, hq2⟩
   rw [← Array.getElem?_toList] at hoj
   have hjl : j < tr.length := by rw [t1]; exact (List.getElem?_eq_some_iff.1 hoj).1
   have hil : i < tr.length := (List.getElem?_eq_some_iff.1 k1).1
   have hy := List.getElem?_eq_getElem hjl
   generalize tr[j] = y at hy
   rw [hwr j y hy] at hq1
   rw [hwr i x k1, ← k5] at hq2
   have hap : ∀ i' j' x' y', j' < i' → tr[i']? = some x' → tr[j']? = some y' → (meets y'.writes x'.reads || meets y'.writes x'.writes || meets x'.writes y'.reads) = true → ((masksOf ops.toList).getD i' 0).testBit j' = true := by
    intro i' j' x' y' hlt h1 h2 h3
    unfold apartB at hapart
    have := List.all_eq_true.1 hapart i' (List.mem_range.2 (List.getElem?_eq_some_iff.1 h1).1)
    have := List.all_eq_true.1 this j' (List.mem_range.2 hlt)
    rw [h1, h2] at this
    simp only [h3, Bool.not_true, Bool.false_or] at this
    exact this
   refine ⟨fun hlt => hap i j x y hlt k1 hy ?_, fun hlt => hap j i y x hlt hy k1 ?_⟩
   ·rcases hq2 with hq2 | hq2
    ·simp [meets_of hq1 hq2]
    ·simp [meets_of hq1 hq2]
   ·rcases hq2 with hq2 | hq2
    ·simp [meets_of hq1 hq2]
    ·simp [meets_of hq2 hq1]
  ·intro i o hi
   rw [← Array.getElem?_toList] at hi
   exact (hanc i o hi).2
  ·intro i o hi j hb
   rw [← Array.getElem?_toList] at hi
   rw [(hanc i o hi).1] at hb
   unfold edgeMask at hb
   rcases testBit_edgeMask _ _ _ _ hb with h1 | ⟨e, h1, h2⟩
   ·simp at h1
   ·exact ⟨e, by simpa using h1, h2⟩
 have hdr : ({ w with drawn := w.drawn + 1 } : World) = w.drew := rfl
 refine wp_region_any hm ?_
 rw [hdr]
 have hr' : RelP v st.fm.sig a w.drew p := hr.world ((Below.refl _ _).drew)
 have hL : upds ops outs st.fm.sig (lst (Array.replicate ops.size false)) ops.size = st.fm.sig := by
  have : ∀ n, upds ops outs st.fm.sig (lst (Array.replicate ops.size false)) n = st.fm.sig := by
   intro n
   induction n with
   | zero => rfl
   | succ n ih =>
    rw [upds_succ, ih]
    have : lst (Array.replicate ops.size false) n = false := by
     unfold lst
     by_cases hn : n < ops.size <;> simp [hn]
    rw [this]
    rfl
  exact this _
 refine any_order hfits (fun a' w' q hq => hQ a' w' q ?_) ops.size _ ⟨by simp, ?_⟩ ?_ a w.drew p (by rw [hL]; exact hr')
 ·rw [t5, hsize, ← hupd]; exact hq
 ·intro i o _ hl
  unfold lst at hl
  have hlt : ¬ i < ops.size ∨ i < ops.size := by omega
  rcases hlt with hn | hn <;> simp [hn] at hl
 ·have : ((List.range ops.size).filter fun i => !lst (Array.replicate ops.size false) i) = List.range ops.size := by
   apply List.filter_eq_self.2
   intro i hi
   unfold lst
   simp [List.mem_range.1 hi]
  rw [this, List.length_range]
end
end Go.Sx
namespace Go.Sx
open Go Go.RowKit
def putAll (l : List AV) : List (Nat × AV) → Option (List AV)
 | [] => some l
 | (d, x) :: r => if d < l.length then putAll (l.set d x) r else none
def Fm.loop (m : Fm) (s : LSum) : Option Fm :=
 match putAll m.fr s.fr, setMems m.mem s.mem with
 | some f, some l => some ⟨f, l, m.gl⟩
 | _, _ => none
section
variable {P : Program} {v v' : Env}
theorem RelP.swap {s s' : Sig} {a : Act} {w : World} {p : Mp} (h : RelP v s a w p) (hL : v'.L = v.L) (hW : v'.w = v.w) (hn : s'.n = s.n) (hg : s'.gl = s.gl) (hf : ∀ t u, (s.fr t).Is v p u → (s'.fr t).Is v' p u)
  (hm : ∀ x b, s'.mem x = some b → ∃ b0, s.mem x = some b0 ∧ b.dead = b0.dead ∧ (b0.row.isSome = true → b.row.isSome = true) ∧ ∀ r n, b0.Is v p v.w.heap.size w r n → b.Is v' p v.w.heap.size w r n) (hz : ∀ x, s'.mem x = none → s.mem x = none) : RelP v' s' a w p := by
 refine ⟨h.defers, by rw [hn]; exact h.size, by rw [hW]; exact h.base, by rw [hW]; exact h.below, ?_, ?_, fun x hx => h.free x (hz x hx), fun g x hgx => h.glob g x (by rw [← hg]; exact hgx), fun t => hf t _ (h.frame t), by rw [hL, hW]; exact h.gk, by rw [hL, hW]; exact h.g0⟩
 ·intro x y r n m b c hb hbd hc hcd hpx hpy
  obtain ⟨b0, h1, h2, _⟩ := hm x b hb
  obtain ⟨c0, h3, h4, _⟩ := hm y c hc
  exact h.inj x y r n m b0 c0 h1 (by rw [← h2]; exact hbd) h3 (by rw [← h4]; exact hcd) hpx hpy
 ·intro x b hb
  obtain ⟨b0, h1, _, h2, h3⟩ := hm x b hb
  rcases h.mem x b0 h1 with ⟨k1, k2⟩ | ⟨r, n, k1, k2, k3⟩
  ·exact .inl ⟨h2 k1, k2⟩
  ·exact .inr ⟨r, n, k1, k2, by rw [hW]; exact h3 r n k3⟩
def joinSc (b : Bx) (x y : Sc) (nv : Nat) : Option (Sc × List Ev × Nat) :=
 if x = y then some (x, [], nv) else
 match x, y with
 | .int k e, .int k' e' => if k = k' then some (.int k (.var nv), [.sel nv b e e'], nv + 1) else none
 | .bool c, .bool c' => some (.bool (.var nv), [.selB nv b c c'], nv + 1)
 | _, _ => none
def joinScs (b : Bx) : List Sc → List Sc → Nat → Option (List Sc × List Ev × Nat)
 | [], [], nv => some ([], [], nv)
 | x :: l, y :: m, nv => match joinSc b x y nv with
  | some (z, ev, nv1) => match joinScs b l m nv1 with
   | some (r, ev', nv2) => some (z :: r, ev ++ ev', nv2)
   | none => none
  | none => none
 | _, _, _ => none
def joinA (b : Bx) (x y : A) (nv : Nat) : Option (A × List Ev × Nat) :=
 if x = y then some (x, [], nv) else
 match x, y with
 | .sc s, .sc s' => match joinSc b s s' nv with | some (z, ev, n) => some (.sc z, ev, n) | none => none
 | .agg l, .agg m => match joinScs b l m nv with | some (z, ev, n) => some (.agg z, ev, n) | none => none
 | _, _ => none
def joinAV (b : Bx) (x y : AV) (nv : Nat) : AV × List Ev × Nat :=
 if x = y then (x, [], nv) else
 match x, y with
 | .one s, .one s' => match joinA b s s' nv with | some (z, ev, n) => (.one z, ev, n) | none => (.undef, [], nv)
 | _, _ => (.undef, [], nv)
def joinFr (b : Bx) : List AV → List AV → Nat → Option (List AV × List Ev × Nat)
 | [], [], nv => some ([], [], nv)
 | x :: l, y :: m, nv => match joinFr b l m (joinAV b x y nv).2.2 with
  | some (r, ev, n) => some ((joinAV b x y nv).1 :: r, (joinAV b x y nv).2.1 ++ ev, n)
  | none => none
 | _, _, _ => none
def joinCs (b : Bx) : List A → List A → Nat → Option (List A × List Ev × Nat)
 | [], [], nv => some ([], [], nv)
 | x :: l, y :: m, nv => match joinA b x y nv with
  | some (z, ev, nv1) => match joinCs b l m nv1 with
   | some (r, ev', nv2) => some (z :: r, ev ++ ev', nv2)
   | none => none
  | none => none
 | _, _, _ => none
def joinBlk (b : Bx) (x y : Blk) (nv : Nat) : Option (Blk × List Ev × Nat) :=
 if x = y then some (x, [], nv) else
 if x.T = y.T ∧ x.more = y.more ∧ x.own = y.own ∧ x.dead = y.dead then
  match x.row, y.row with
  | none, none => match joinCs b x.cells y.cells nv with
   | some (cs, ev, n) => some ({ x with cells := cs }, ev, n)
   | none => none
  | _, _ => match x.nums, y.nums with
   | some (k, l), some (k', l') => if k = k' then some ({ x with cells := [], row := some (k, .lvar nv) }, [.selL nv b l l'], nv + 1) else none
   | _, _ => none
 else none
def joinMem (b : Bx) : List Blk → List Blk → Nat → Option (List Blk × List Ev × Nat)
 | [], [], nv => some ([], [], nv)
 | x :: l, y :: m, nv => match joinBlk b x y nv with
  | some (z, ev, nv1) => match joinMem b l m nv1 with
   | some (r, ev', nv2) => some (z :: r, ev ++ ev', nv2)
   | none => none
  | none => none
 | _, _, _ => none
def joinFm (b : Bx) (f g : Fm) (nv : Nat) : Option (Fm × List Ev × Nat) :=
 match joinFr b f.fr g.fr nv with
 | some (fr, ev, n) => match joinMem b f.mem g.mem n with
  | some (mem, ev', m) => if f.gl = g.gl then some (⟨fr, mem, f.gl⟩, ev ++ ev', m) else none
  | none => none
 | none => none
theorem joinSc_den {b : Bx} {x y z : Sc} {nv n : Nat} {ev : List Ev} (h : joinSc b x y nv = some (z, ev, n)) (he : ∀ e ∈ ev, e.holds P v) : z.den v = if b.den v = true then x.den v else y.den v := by
 unfold joinSc at h
 split at h
 ·rename_i e
  simp only [Option.some.injEq, Prod.mk.injEq] at h
  obtain ⟨rfl, _⟩ := h
  rw [e]; split <;> rfl
 ·split at h
  ·split at h
   ·rename_i k e k' e' hk
    simp only [Option.some.injEq, Prod.mk.injEq] at h
    obtain ⟨rfl, rfl, _⟩ := h
    have := he _ (List.mem_singleton.2 rfl)
    simp only [Ev.holds] at this
    subst hk
    simp only [Sc.den, I.den, this]
    split <;> rfl
   ·cases h
  ·simp only [Option.some.injEq, Prod.mk.injEq] at h
   obtain ⟨rfl, rfl, _⟩ := h
   have := he _ (List.mem_singleton.2 rfl)
   simp only [Ev.holds] at this
   simp only [Sc.den, Bx.den, this]
   split <;> rfl
  ·cases h
theorem joinScs_den {b : Bx} : ∀ {l m z : List Sc} {nv n : Nat} {ev : List Ev}, joinScs b l m nv = some (z, ev, n) → (∀ e ∈ ev, e.holds P v) → z.map (Sc.den v) = if b.den v = true then l.map (Sc.den v) else m.map (Sc.den v)
 | [], [], z, nv, n, ev, h, _ => by simp [joinScs] at h; obtain ⟨rfl, _⟩ := h; simp
 | x :: l, y :: m, z, nv, n, ev, h, he => by
  simp only [joinScs] at h
  split at h
  ·rename_i z1 ev1 nv1 h1
   split at h
   ·rename_i r ev2 nv2 h2
    simp only [Option.some.injEq, Prod.mk.injEq] at h
    obtain ⟨rfl, rfl, _⟩ := h
    have e1 := joinSc_den h1 (fun e hm => he e (by simp [hm]))
    have e2 := joinScs_den h2 (fun e hm => he e (by simp [hm]))
    simp only [List.map_cons, e1, e2]
    split <;> rfl
   ·cases h
  ·cases h
 | [], y :: m, z, nv, n, ev, h, _ => by simp [joinScs] at h
 | x :: l, [], z, nv, n, ev, h, _ => by simp [joinScs] at h
theorem joinA_is {b : Bx} {x y z : A} {nv n : Nat} {ev : List Ev} (h : joinA b x y nv = some (z, ev, n)) (he : ∀ e ∈ ev, e.holds P v) {p : Mp} {u : Value} (k : (if b.den v = true then x else y).Is v p u) : z.Is v p u := by
 unfold joinA at h
 split at h
 ·rename_i e
  simp only [Option.some.injEq, Prod.mk.injEq] at h
  obtain ⟨rfl, _⟩ := h
  subst e
  split at k <;> exact k
 ·split at h
  ·split at h
   ·rename_i s s' z' ev' n' h1
    simp only [Option.some.injEq, Prod.mk.injEq] at h
    obtain ⟨rfl, rfl, _⟩ := h
    show u = _
    rw [joinSc_den h1 he]
    split at k <;> rename_i hb
    ·rw [if_pos hb]; exact k
    ·rw [if_neg hb]; exact k
   ·cases h
  ·split at h
   ·rename_i l m z' ev' n' h1
    simp only [Option.some.injEq, Prod.mk.injEq] at h
    obtain ⟨rfl, rfl, _⟩ := h
    show u = _
    rw [joinScs_den h1 he]
    split at k <;> rename_i hb
    ·rw [if_pos hb]; exact k
    ·rw [if_neg hb]; exact k
   ·cases h
  ·cases h
theorem joinAV_is {b : Bx} {x y : AV} {nv : Nat} (he : ∀ e ∈ (joinAV b x y nv).2.1, e.holds P v) {p : Mp} {u : Value} (k : (if b.den v = true then x else y).Is v p u) : (joinAV b x y nv).1.Is v p u := by
 unfold joinAV at *
 split
 ·rename_i e
  subst e
  split at k <;> exact k
 ·rename_i hne
  rw [if_neg hne] at he
  split
  ·rename_i s s'
   split
   ·rename_i z ev n h1
    simp only [h1] at he
    refine joinA_is h1 he ?_
    split at k <;> rename_i hb
    ·rw [if_pos hb]; exact k
    ·rw [if_neg hb]; exact k
   ·trivial
  ·trivial
theorem joinFr_is {b : Bx} : ∀ {l m z : List AV} {nv n : Nat} {ev : List Ev}, joinFr b l m nv = some (z, ev, n) → (∀ e ∈ ev, e.holds P v) → z.length = l.length ∧ z.length = m.length ∧
  ∀ (t : Nat) (p : Mp) (u : Value), ((if b.den v = true then l else m).getD t .undef).Is v p u → (z.getD t .undef).Is v p u
 | [], [], z, nv, n, ev, h, _ => by simp [joinFr] at h; obtain ⟨rfl, _⟩ := h; exact ⟨rfl, rfl, fun _ _ _ _ => trivial⟩
 | x :: l, y :: m, z, nv, n, ev, h, he => by
  simp only [joinFr] at h
  split at h
  ·rename_i r ev2 nv2 h2
   simp only [Option.some.injEq, Prod.mk.injEq] at h
   obtain ⟨rfl, rfl, _⟩ := h
   obtain ⟨k1, k2, k3⟩ := joinFr_is h2 (fun e hm => he e (by simp [hm]))
   refine ⟨by simp [k1], by simp [k2], fun t p u hk => ?_⟩
   cases t with
   | zero =>
    refine joinAV_is (fun e hm => he e (by simp [hm])) ?_
    split at hk <;> rename_i hb
    ·rw [if_pos hb]; exact hk
    ·rw [if_neg hb]; exact hk
   | succ t =>
    refine k3 t p u ?_
    split at hk <;> rename_i hb
    ·rw [if_pos hb]; exact hk
    ·rw [if_neg hb]; exact hk
  ·cases h
 | [], y :: m, z, nv, n, ev, h, _ => by simp [joinFr] at h
 | x :: l, [], z, nv, n, ev, h, _ => by simp [joinFr] at h
theorem joinCs_is {b : Bx} : ∀ {l m z : List A} {nv n : Nat} {ev : List Ev}, joinCs b l m nv = some (z, ev, n) → (∀ e ∈ ev, e.holds P v) → z.length = l.length ∧ z.length = m.length ∧
  ∀ (p : Mp) (us : List Value), listIs v p (if b.den v = true then l else m) us → listIs v p z us
 | [], [], z, nv, n, ev, h, _ => by simp [joinCs] at h; obtain ⟨rfl, _⟩ := h; exact ⟨rfl, rfl, fun p us k => by split at k <;> exact k⟩
 | x :: l, y :: m, z, nv, n, ev, h, he => by
  simp only [joinCs] at h
  split at h
  ·rename_i z1 ev1 nv1 h1
   split at h
   ·rename_i r ev2 nv2 h2
    simp only [Option.some.injEq, Prod.mk.injEq] at h
    obtain ⟨rfl, rfl, _⟩ := h
    obtain ⟨k1, k2, k3⟩ := joinCs_is h2 (fun e hm => he e (by simp [hm]))
    refine ⟨by simp [k1], by simp [k2], fun p us hk => ?_⟩
    have ha : ∀ u, (if b.den v = true then x else y).Is v p u → z1.Is v p u := fun u hu => joinA_is h1 (fun e hm => he e (by simp [hm])) hu
    split at hk <;> rename_i hb
    ·obtain ⟨u, us', e, j1, j2⟩ := hk
     exact ⟨u, us', e, ha u (by rw [if_pos hb]; exact j1), k3 p us' (by rw [if_pos hb]; exact j2)⟩
    ·obtain ⟨u, us', e, j1, j2⟩ := hk
     exact ⟨u, us', e, ha u (by rw [if_neg hb]; exact j1), k3 p us' (by rw [if_neg hb]; exact j2)⟩
   ·cases h
  ·cases h
 | [], y :: m, z, nv, n, ev, h, _ => by simp [joinCs] at h
 | x :: l, [], z, nv, n, ev, h, _ => by simp [joinCs] at h
theorem joinBlk_is {b : Bx} {x y z : Blk} {nv n : Nat} {ev : List Ev} (h : joinBlk b x y nv = some (z, ev, n)) (he : ∀ e ∈ ev, e.holds P v) :
  z.dead = (if b.den v = true then x else y).dead ∧ ((if b.den v = true then x else y).row.isSome = true → z.row.isSome = true) ∧ ∀ p w r k, (if b.den v = true then x else y).Is v p v.w.heap.size w r k → z.Is v p v.w.heap.size w r k := by
 unfold joinBlk at h
 split at h
 ·rename_i e
  simp only [Option.some.injEq, Prod.mk.injEq] at h
  obtain ⟨rfl, _⟩ := h
  subst e
  split <;> exact ⟨rfl, fun h => h, fun _ _ _ _ h => h⟩
 ·split at h
  case isFalse => cases h
  rename_i hc
  obtain ⟨c1, c2, c3, c4⟩ := hc
  split at h
  ·rename_i hx hy
   split at h
   ·rename_i cs ev1 nv1 h1
    simp only [Option.some.injEq, Prod.mk.injEq] at h
    obtain ⟨rfl, rfl, _⟩ := h
    obtain ⟨j1, j2, j3⟩ := joinCs_is h1 he
    by_cases hb : b.den v = true
    ·rw [if_pos hb]
     refine ⟨rfl, (fun h => by rw [hx] at h; cases h), fun p w r k hxx hd => ?_⟩
     obtain ⟨us, fz, i1, i2, i3, i4⟩ := hxx hd
     unfold Blk.holds at i3
     rw [hx] at i3
     refine ⟨us, fz, i1, i2, holds_cells hx (fun hm => by rw [i3.1 hm]; exact j1.symm) (by rw [j1]; exact j3 p _ (by rw [if_pos hb]; exact i3.2)), i4⟩
    ·rw [if_neg hb]
     refine ⟨c4, (fun h => by rw [hy] at h; cases h), fun p w r k hxx hd => ?_⟩
     obtain ⟨us, fz, i1, i2, i3, i4⟩ := hxx (by rw [← c4]; exact hd)
     unfold Blk.holds at i3
     rw [hy] at i3
     refine ⟨us, fz, by simp only [c1]; exact i1, i2, holds_cells hx (fun hm => by rw [i3.1 (by rw [← c2]; exact hm)]; exact j2.symm) (by rw [j2]; exact j3 p _ (by rw [if_neg hb]; exact i3.2)), fun ho => i4 (by rw [← c3]; exact ho)⟩
   ·cases h
  ·split at h
   ·rename_i k l k' l' hx hy
    split at h
    ·rename_i hk
     subst hk
     simp only [Option.some.injEq, Prod.mk.injEq] at h
     obtain ⟨rfl, rfl, _⟩ := h
     have hs := he _ (List.mem_singleton.2 rfl)
     simp only [Ev.holds] at hs
     by_cases hb : b.den v = true
     ·rw [if_pos hb]
      rw [if_pos hb] at hs
      refine ⟨rfl, fun _ => rfl, fun p w r n hxx hd => ?_⟩
      obtain ⟨us, fz, i1, i2, i3, i4⟩ := hxx hd
      refine ⟨us, fz, i1, i2, ?_, i4⟩
      have := i3.nums hx
      show List.take ((I.lvar nv).ldn v).length _ = List.map _ ((I.lvar nv).ldn v)
      simp only [I.ldn, hs]
      exact this
     ·rw [if_neg hb]
      rw [if_neg hb] at hs
      refine ⟨c4, fun _ => rfl, fun p w r n hxx hd => ?_⟩
      obtain ⟨us, fz, i1, i2, i3, i4⟩ := hxx (by rw [← c4]; exact hd)
      refine ⟨us, fz, by simp only [c1]; exact i1, i2, ?_, fun ho => i4 (by rw [← c3]; exact ho)⟩
      have := i3.nums hy
      show List.take ((I.lvar nv).ldn v).length _ = List.map _ ((I.lvar nv).ldn v)
      simp only [I.ldn, hs]
      exact this
    ·cases h
   ·cases h
theorem joinMem_is {b : Bx} : ∀ {l m z : List Blk} {nv n : Nat} {ev : List Ev}, joinMem b l m nv = some (z, ev, n) → (∀ e ∈ ev, e.holds P v) → z.length = l.length ∧ z.length = m.length ∧
  ∀ (x : Nat) (c : Blk), z[x]? = some c → ∃ c0, (if b.den v = true then l else m)[x]? = some c0 ∧ c.dead = c0.dead ∧ (c0.row.isSome = true → c.row.isSome = true) ∧ ∀ p w r n, c0.Is v p v.w.heap.size w r n → c.Is v p v.w.heap.size w r n
 | [], [], z, nv, n, ev, h, _ => by simp [joinMem] at h; obtain ⟨rfl, _⟩ := h; exact ⟨rfl, rfl, fun x c hc => by simp at hc⟩
 | x :: l, y :: m, z, nv, n, ev, h, he => by
  simp only [joinMem] at h
  split at h
  ·rename_i z1 ev1 nv1 h1
   split at h
   ·rename_i r ev2 nv2 h2
    simp only [Option.some.injEq, Prod.mk.injEq] at h
    obtain ⟨rfl, rfl, _⟩ := h
    obtain ⟨k1, k2, k3⟩ := joinMem_is h2 (fun e hm => he e (by simp [hm]))
    have j := joinBlk_is h1 (fun e hm => he e (by simp [hm]))
    refine ⟨by simp [k1], by simp [k2], fun i c hi => ?_⟩
    cases i with
    | zero =>
     simp only [List.getElem?_cons_zero, Option.some.injEq] at hi
     subst hi
     refine ⟨if b.den v = true then x else y, ?_, j⟩
     split <;> rfl
    | succ i =>
     simp only [List.getElem?_cons_succ] at hi
     obtain ⟨c0, i1, i2⟩ := k3 i c hi
     refine ⟨c0, ?_, i2⟩
     split at i1 <;> rename_i hb
     ·rw [if_pos hb]; exact i1
     ·rw [if_neg hb]; exact i1
   ·cases h
  ·cases h
 | [], y :: m, z, nv, n, ev, h, _ => by simp [joinMem] at h
 | x :: l, [], z, nv, n, ev, h, _ => by simp [joinMem] at h
theorem joinFm_rel {b : Bx} {f g z : Fm} {nv n : Nat} {ev : List Ev} (h : joinFm b f g nv = some (z, ev, n)) (he : ∀ e ∈ ev, e.holds P v) {a : Act} {w : World} {p : Mp} (hr : RelP v (if b.den v = true then f else g).sig a w p) : RelP v z.sig a w p := by
 unfold joinFm at h
 split at h
 case h_2 => cases h
 rename_i fr ev1 n1 h1
 split at h
 case h_2 => cases h
 rename_i mem ev2 n2 h2
 split at h
 case isFalse => cases h
 rename_i hgl
 simp only [Option.some.injEq, Prod.mk.injEq] at h
 obtain ⟨rfl, rfl, _⟩ := h
 obtain ⟨k1, k2, k3⟩ := joinFr_is h1 (fun e hm => he e (by simp [hm]))
 obtain ⟨j1, j2, j3⟩ := joinMem_is h2 (fun e hm => he e (by simp [hm]))
 refine hr.swap rfl rfl ?_ ?_ ?_ ?_ ?_
 ·show fr.length = _
  split
  ·exact k1
  ·exact k2
 ·show lkp f.gl = _
  split
  ·rfl
  ·rw [hgl]; rfl
 ·intro t u hu
  refine k3 t p u ?_
  split at hu <;> rename_i hb
  ·rw [if_pos hb]; exact hu
  ·rw [if_neg hb]; exact hu
 ·intro x c hc
  obtain ⟨c0, i1, i2, i4, i3⟩ := j3 x c hc
  refine ⟨c0, ?_, i2, i4, fun r n => i3 p w r n⟩
  split at i1 <;> rename_i hb
  ·rw [if_pos hb]; exact i1
  ·rw [if_neg hb]; exact i1
 ·intro x hx
  have hx' : mem[x]? = none := hx
  rw [List.getElem?_eq_none_iff] at hx'
  split
  ·exact List.getElem?_eq_none (by omega)
  ·exact List.getElem?_eq_none (by omega)
end
def codeSt (P : Program) : Nat → Bool → Code → St → Option (Ex × St)
 | 0, _, _, _ => none
 | n + 1, again, c, st =>
  match c with
  | .skip => some (.normal, st)
  | .region _ ops draw =>
   match draw with
   | true => match drawSt P ops st with | some st' => some (.normal, st') | none => none
   | false => match seqSt P ops ops.toList st with | some st' => some (.normal, st') | none => none
  | .seq a b => match codeSt P n false a st with
   | some (.normal, st') => codeSt P n false b st'
   | r => r
  | .cond c x y => match st.fm.sig.ev c with
   | .one (.sc (.bool (.lit true))) => codeSt P n false x st
   | .one (.sc (.bool (.lit false))) => codeSt P n false y st
   | .one (.sc (.bool b)) => match codeSt P n false x { st with ora := [], sums := [] } with
    | some (.normal, s1) => match codeSt P n false y { st with ora := [], sums := [], nv := s1.nv } with
     | some (.normal, s2) =>
      if s1.lev.length = st.lev.length ∧ s2.lev.length = st.lev.length then
       match joinFm b s1.fm s2.fm s2.nv with
       | some (fm, ev, nv) => some (.normal, { st with fm := fm, nv := nv, ev := st.ev ++ ((s1.ev.drop st.ev.length).map (.imp b true) ++ (s2.ev.drop st.ev.length).map (.imp b false) ++ ev) })
       | none => none
      else none
     | _ => none
    | _ => none
   | _ => none
  | .block id b => match codeSt P n false b st with
   | some (.exit i, st') => if i = id then some (.normal, st') else some (.exit i, st')
   | r => r
  | .loop b =>
   match again, st.sums with
   | false, some s :: r => match st.fm.loop s with
    | some fm => if s.ex = .normal then none else some (s.ex, { st with fm := fm, nv := s.nv, sums := r, lev := st.lev ++ [⟨b, st.fm, fm, s.ex⟩] })
    | none => none
   | false, none :: r => match codeSt P n false b { st with sums := r } with
    | some (.normal, st') => codeSt P n true (.loop b) st'
    | r => r
   | _, _ => match codeSt P n false b st with
    | some (.normal, st') => codeSt P n true (.loop b) st'
    | r => r
  | .exit id => some (.exit id, st)
  | .ret => some (.ret, st)
  | _ => none
section
variable {P : Program} {v : Env}
def grows (s t : St) : Prop := (∃ r, t.ev = s.ev ++ r) ∧ (∃ r, t.lev = s.lev ++ r)
theorem grows.refl (s : St) : grows s s := ⟨⟨[], by simp⟩, ⟨[], by simp⟩⟩
theorem grows.trans {a b c : St} (h : grows a b) (k : grows b c) : grows a c := by
 obtain ⟨⟨r1, h1⟩, ⟨r2, h2⟩⟩ := h
 obtain ⟨⟨r3, h3⟩, ⟨r4, h4⟩⟩ := k
 exact ⟨⟨r1 ++ r3, by rw [h3, h1, List.append_assoc]⟩, ⟨r2 ++ r4, by rw [h4, h2, List.append_assoc]⟩⟩
theorem codeSt_grows : ∀ (n : Nat) (again : Bool) (c : Code) (st st' : St) (e : Ex), codeSt P n again c st = some (e, st') → grows st st'
 | 0, _, _, _, _, _, h => by simp [codeSt] at h
 | n + 1, again, c, st, st', e, h => by
  unfold codeSt at h
  split at h
  ·simp only [Option.some.injEq, Prod.mk.injEq] at h; obtain ⟨_, rfl⟩ := h; exact grows.refl _
  ·split at h
   ·split at h
    ·rename_i st1 h1
     simp only [Option.some.injEq, Prod.mk.injEq] at h
     obtain ⟨_, rfl⟩ := h
     unfold drawSt at h1
     split at h1
     ·rename_i tr st2 htr
      split at h1
      ·simp only [Option.some.injEq] at h1
       subst h1
       obtain ⟨_, ⟨k1, k2⟩, _⟩ := trSt_spec _ _ _ _ htr
       exact ⟨k1, ⟨[], by simp [k2]⟩⟩
      ·cases h1
     ·cases h1
    ·cases h
   ·split at h
    ·rename_i st1 h1
     simp only [Option.some.injEq, Prod.mk.injEq] at h
     obtain ⟨_, rfl⟩ := h
     obtain ⟨k1, k2⟩ := seqSt_ev _ _ _ h1
     exact ⟨k1, ⟨[], by simp [k2]⟩⟩
    ·cases h
  ·split at h
   ·rename_i st1 h1
    exact (codeSt_grows n _ _ _ _ _ h1).trans (codeSt_grows n _ _ _ _ _ h)
   ·exact codeSt_grows n _ _ _ _ _ h
  ·split at h
   ·exact codeSt_grows n _ _ _ _ _ h
   ·exact codeSt_grows n _ _ _ _ _ h
   ·split at h
    ·split at h
     ·split at h
      ·split at h
       ·simp only [Option.some.injEq, Prod.mk.injEq] at h
        obtain ⟨_, rfl⟩ := h
        exact ⟨⟨_, rfl⟩, ⟨[], by simp⟩⟩
       ·cases h
      ·cases h
     ·cases h
    ·cases h
   ·cases h
  ·split at h
   ·rename_i i st1 h1
    have k := codeSt_grows n _ _ _ _ _ h1
    split at h <;> (simp only [Option.some.injEq, Prod.mk.injEq] at h; obtain ⟨_, rfl⟩ := h; exact k)
   ·exact codeSt_grows n _ _ _ _ _ h
  ·split at h
   ·split at h
    ·split at h
     ·cases h
     ·simp only [Option.some.injEq, Prod.mk.injEq] at h
      obtain ⟨_, rfl⟩ := h
      exact ⟨⟨[], by simp⟩, ⟨_, rfl⟩⟩
    ·cases h
   ·split at h
    ·rename_i st1 h1
     have k := codeSt_grows n _ _ _ _ _ h1
     exact grows.trans ⟨k.1, k.2⟩ (codeSt_grows n _ _ _ _ _ h)
    ·have k := codeSt_grows n _ _ _ _ _ h
     exact ⟨k.1, k.2⟩
   ·split at h
    ·rename_i st1 h1
     exact (codeSt_grows n _ _ _ _ _ h1).trans (codeSt_grows n _ _ _ _ _ h)
    ·exact codeSt_grows n _ _ _ _ _ h
  ·simp only [Option.some.injEq, Prod.mk.injEq] at h; obtain ⟨_, rfl⟩ := h; exact grows.refl _
  ·simp only [Option.some.injEq, Prod.mk.injEq] at h; obtain ⟨_, rfl⟩ := h; exact grows.refl _
  ·cases h
def okEv (P : Program) (v : Env) (s : St) : Prop := (∀ e ∈ s.ev, e.holds P v) ∧ ∀ l ∈ s.lev, l.holds P v
theorem okEv.of {s t : St} (h : grows s t) (k : okEv P v t) : okEv P v s := by
 obtain ⟨⟨r1, h1⟩, ⟨r2, h2⟩⟩ := h
 exact ⟨fun e he => k.1 e (by rw [h1]; simp [he]), fun l hl => k.2 l (by rw [h2]; simp [hl])⟩
theorem codeSt_wp : ∀ (n : Nat) (again : Bool) (c : Code) (st st' : St) (e : Ex), codeSt P n again c st = some (e, st') → okEv P v st' →
  ∀ (Q : Exit → Act → World → Prop) a w p, RelP v st.fm.sig a w p → (∀ a' w' q, RelP v st'.fm.sig a' w' q → Q e.to a' w') →
   c.wp P Q a w ∧ (again = true → ∀ b, c = .loop b → Code.rounds P b Q n a w)
 | 0, _, _, _, _, _, h => by simp [codeSt] at h
 | n + 1, again, c, st, st', e, h => by
  intro hev Q a w p hr hQ
  unfold codeSt at h
  have loopCase : ∀ (b : Code) (s1 : St), s1.fm = st.fm → c = .loop b → (match codeSt P n false b s1 with | some (.normal, st1) => codeSt P n true (.loop b) st1 | r => r) = some (e, st') → c.wp P Q a w ∧ (again = true → ∀ b', c = .loop b' → Code.rounds P b' Q (n + 1) a w) := by
   intro b s1 hs1 hc hh
   have key : Code.rounds P b Q (n + 1) a w := by
    rw [rounds_succ]
    split at hh
    ·rename_i st1 h1
     refine (codeSt_wp n false b s1 st1 .normal h1 (okEv.of (codeSt_grows n _ _ _ _ _ hh) hev) _ a w p (by rw [hs1]; exact hr) fun a' w' q hr' => ?_).1
     exact (codeSt_wp n true (.loop b) st1 st' e hh hev Q a' w' q hr' hQ).2 rfl b rfl
    ·rename_i hne
     refine (codeSt_wp n false b s1 st' e hh hev _ a w p (by rw [hs1]; exact hr) fun a' w' q hr' => ?_).1
     have := hQ a' w' q hr'
     cases e with
     | normal => exact absurd hh (hne st')
     | exit id => exact this
     | ret => exact this
   subst hc
   exact ⟨wp_loop_rounds (n + 1) key, fun _ b' hb => by cases hb; exact key⟩
  cases c with
  | skip =>
   simp only [Option.some.injEq, Prod.mk.injEq] at h
   obtain ⟨rfl, rfl⟩ := h
   exact ⟨wp_skip (hQ a w p hr), fun _ b hb => by cases hb⟩
  | region id ops draw =>
   cases draw with
   | true =>
    simp only at h
    split at h
    ·rename_i st1 h1
     simp only [Option.some.injEq, Prod.mk.injEq] at h
     obtain ⟨rfl, rfl⟩ := h
     exact ⟨drawSt_wp h1 hev.1 hr hQ, fun _ b hb => by cases hb⟩
    ·cases h
   | false =>
    simp only at h
    split at h
    ·rename_i st1 h1
     simp only [Option.some.injEq, Prod.mk.injEq] at h
     obtain ⟨rfl, rfl⟩ := h
     refine ⟨wp_region ?_, fun _ b hb => by cases hb⟩
     have := seqSt_wp ops.toList 0 st _ (fun j => by simp) h1 hev.1 a w p hr hQ
     rw [List.range_eq_range']
     simpa using this
    ·cases h
  | seq x y =>
   simp only at h
   split at h
   ·rename_i st1 h1
    refine ⟨wp_seq (codeSt_wp n false x st st1 .normal h1 (okEv.of (codeSt_grows n _ _ _ _ _ h) hev) _ a w p hr fun a' w' q hr' => ?_).1, fun _ b hb => by cases hb⟩
    exact (codeSt_wp n false y st1 st' e h hev Q a' w' q hr' hQ).1
   ·rename_i hne
    refine ⟨wp_seq (codeSt_wp n false x st st' e h hev _ a w p hr fun a' w' q hr' => ?_).1, fun _ b hb => by cases hb⟩
    have := hQ a' w' q hr'
    cases e with
    | normal => exact absurd h (hne st')
    | exit id => exact this
    | ret => exact this
  | cond cc x y =>
   have hc := hr.ev cc
   simp only at h
   split at h
   ·rename_i he
    rw [he] at hc
    exact ⟨wp_cond_true hc (codeSt_wp n false x st st' e h hev Q a w p hr hQ).1, fun _ b hb => by cases hb⟩
   ·rename_i he
    rw [he] at hc
    exact ⟨wp_cond_false hc (codeSt_wp n false y st st' e h hev Q a w p hr hQ).1, fun _ b hb => by cases hb⟩
   ·rename_i b _ _ he
    rw [he] at hc
    have hc' : a.eval cc = .bool (b.den v) := hc
    split at h
    case h_2 => cases h
    rename_i s1 h1
    split at h
    case h_2 => cases h
    rename_i s2 h2
    split at h
    case isFalse => cases h
    rename_i hlev
    split at h
    case h_2 => cases h
    rename_i fm ev nv hj
    simp only [Option.some.injEq, Prod.mk.injEq] at h
    obtain ⟨rfl, rfl⟩ := h
    obtain ⟨⟨r1, g1⟩, ⟨l1, g2⟩⟩ := codeSt_grows n _ _ _ _ _ h1
    obtain ⟨⟨r2, g3⟩, ⟨l2, g4⟩⟩ := codeSt_grows n _ _ _ _ _ h2
    simp only at g1 g2 g3 g4
    have hl1 : l1 = [] := by rw [g2] at hlev; simpa using hlev.1
    have hl2 : l2 = [] := by rw [g4] at hlev; simpa using hlev.2
    have hevj : ∀ e ∈ ev, e.holds P v := fun e hm => hev.1 e (by simp [hm])
    refine ⟨wp_cond_split hc' (fun hb => ?_) (fun hb => ?_), fun _ b hb => by cases hb⟩
    ·refine (codeSt_wp n false x _ s1 .normal h1 ⟨?_, ?_⟩ Q a w p hr fun a' w' q hr' => hQ a' w' q (joinFm_rel hj hevj (by rw [if_pos hb]; exact hr'))).1
     ·intro e hm
      rw [g1] at hm
      rcases List.mem_append.1 hm with hm | hm
      ·exact hev.1 e (by simp [hm])
      ·exact hev.1 (.imp b true e) (by simp [g1, hm]) hb
     ·intro l hm
      rw [g2, hl1, List.append_nil] at hm
      exact hev.2 l hm
    ·refine (codeSt_wp n false y _ s2 .normal h2 ⟨?_, ?_⟩ Q a w p hr fun a' w' q hr' => hQ a' w' q (joinFm_rel hj hevj (by rw [if_neg (by rw [hb]; simp)]; exact hr'))).1
     ·intro e hm
      rw [g3] at hm
      rcases List.mem_append.1 hm with hm | hm
      ·exact hev.1 e (by simp [hm])
      ·exact hev.1 (.imp b false e) (by simp [g3, hm]) hb
     ·intro l hm
      rw [g4, hl2, List.append_nil] at hm
      exact hev.2 l hm
   ·cases h
  | block id b =>
   refine ⟨wp_block ?_, fun _ b hb => by cases hb⟩
   simp only at h
   split at h
   ·rename_i i st1 h1
    split at h
    ·rename_i hi
     simp only [Option.some.injEq, Prod.mk.injEq] at h
     obtain ⟨rfl, rfl⟩ := h
     refine (codeSt_wp n false b st _ (.exit i) h1 hev _ a w p hr fun a' w' q hr' => ?_).1
     show (if i = id then _ else _)
     rw [if_pos hi]
     exact hQ a' w' q hr'
    ·rename_i hi
     simp only [Option.some.injEq, Prod.mk.injEq] at h
     obtain ⟨rfl, rfl⟩ := h
     refine (codeSt_wp n false b st _ (.exit i) h1 hev _ a w p hr fun a' w' q hr' => ?_).1
     show (if i = id then _ else _)
     rw [if_neg hi]
     exact hQ a' w' q hr'
   ·rename_i hne
    refine (codeSt_wp n false b st st' e h hev _ a w p hr fun a' w' q hr' => ?_).1
    have := hQ a' w' q hr'
    cases e with
    | normal => exact this
    | exit i => exact absurd h (hne i st')
    | ret => exact this
  | loop b =>
   simp only at h
   split at h
   ·rename_i s r hs
    split at h
    ·rename_i fm hfm
     split at h
     ·cases h
     ·rename_i hex
      simp only [Option.some.injEq, Prod.mk.injEq] at h
      obtain ⟨rfl, rfl⟩ := h
      have hl := hev.2 ⟨b, st.fm, fm, s.ex⟩ (by simp)
      refine ⟨wp_mono (hl a w p hr) fun e' a' w' ⟨he', q, hq⟩ => ?_, fun hag => by cases hag⟩
      subst he'
      have hq' := hQ a' w' q hq
      exact hq'
    ·cases h
   ·rename_i r hs
    exact loopCase b { st with sums := r } rfl rfl h
   ·exact loopCase b st rfl rfl h
  | exit id =>
   simp only [Option.some.injEq, Prod.mk.injEq] at h
   obtain ⟨rfl, rfl⟩ := h
   exact ⟨wp_exit (hQ a w p hr), fun _ b hb => by cases hb⟩
  | ret =>
   simp only [Option.some.injEq, Prod.mk.injEq] at h
   obtain ⟨rfl, rfl⟩ := h
   exact ⟨wp_ret (hQ a w p hr), fun _ b hb => by cases hb⟩
  | rangeFunc f ps x y => cases h
  | scope x => cases h
  | label l => cases h
  | goto l => cases h
  | refuse y => cases h
end
end Go.Sx
namespace Go.Sx
open Go Go.RowKit
section
variable {P : Program} {v : Env}
theorem row_of {t : TypeId} {b : Bool} (h : isAggT P t = some b) : b = true → ∃ d : TypeDesc, P.underlying t = some d ∧ d.isRow = true := by
 rintro rfl
 unfold isAggT at h
 cases hu : P.underlying t with
 | none => simp [hu] at h
 | some d => refine ⟨d, rfl, ?_⟩; cases d <;> simp_all
def resVar (P : Program) (m : Fm) (rt : TypeId) : ResultVar → Option (ERes × List Ev)
 | .tmp t => match m.fr.getD t .undef with
  | .one .nils => match bytesT P rt with | some e => some (.fresh e .nil (.lit 0) (.lit 0) true, []) | none => none
  | .one (.bsl x off len full) => match m.mem[x]? with
   | some b => match b.dead, b.own, b.nums with
    | false, true, some (.u8, l) => match full with
     | true => match leEv len (mkLen l) with | some ev => some (.fresh b.T (mkPart l (.lit 0) len) (.lit 0) len true, ev) | none => none
     | false => match leEv (.lit 0) off with | some ev => some (.fresh b.T l off len false, ev) | none => none
    | _, _, _ => none
   | none => none
  | .one a => if a.pure then some (.val a, []) else none
  | _ => none
 | .cell t ty => match m.fr.getD t .undef with
  | .one (.ptr x off) => match m.mem[x]? with
   | some b => match b.row with
    | none => match b.dead, isAggT P ty with
     | false, some true => match (P.info? ty).map (·.size) with
      | some sz => match scs ((b.cells.drop off).take sz) with | some ss => if ss.length = sz then some (.val (.agg ss), []) else none | none => none
      | none => none
     | false, some false => match b.cells[off]? with | some (.sc y) => some (.val (.sc y), []) | _ => none
     | _, _ => none
    | some _ => match b.dead, b.nums, isAggT P ty with
     | false, some (k, l), some true => match ((P.info? ty).map (·.size) : Option Nat) with
      | some n => match leEv (mkSum (.lit off) (.lit n)) (mkLen l) with | some ev => some (.val (.agg (arrA k l (.lit off) n)), ev) | none => none
      | none => none
     | _, _, _ => none
   | none => none
  | _ => none
def resVars (P : Program) (m : Fm) : List TypeId → List ResultVar → Option (List ERes × List Ev)
 | [], [] => some ([], [])
 | t :: ts, r :: l => match resVar P m t r, resVars P m ts l with | some (a, e), some (as, e') => some (a :: as, e ++ e') | _, _ => none
 | _, _ => none
def resSem (a : Act) : ResultVar → Sem Value
 | .tmp t => pure (a.tmps.getD t undef)
 | .cell s t => do loadVar t (← asAddr (a.tmps.getD s undef))
theorem resVar_run {m : Fm} {rt : TypeId} {r : ResultVar} {x : ERes} {ev : List Ev} (h : resVar P m rt r = some (x, ev)) (he : ∀ e ∈ ev, e.holds P v) {a : Act} {w : World} {p : Mp} (hr : RelP v m.sig a w p) :
  ∃ u, (resSem a r).run P w = .ok u w ∧ (x.den v).Is v.w.heap.size w u := by
 cases r with
 | tmp t =>
  simp only [resVar] at h
  have hf := hr.frame t
  split at h
  ·rename_i hy
   split at h
   ·rename_i e hb
    simp only [Option.some.injEq, Prod.mk.injEq] at h
    obtain ⟨rfl, rfl⟩ := h
    have hf' : AV.Is v p (.one .nils) (a.tmps.getD t undef) := by rw [← hy]; exact hf
    refine ⟨_, rfl, ?_⟩
    rw [show a.tmps.getD t undef = .slice none 0 0 from hf']
    exact ⟨none, 0, by simp [I.den], by simp [I.den], Nat.zero_le _, .inl rfl⟩
   ·cases h
  ·rename_i y off len full hy
   have hf' : AV.Is v p (.one (.bsl y off len full)) (a.tmps.getD t undef) := by rw [← hy]; exact hf
   obtain ⟨ba, n, c, l1, l2, l3, l4, l5⟩ := hf'
   split at h
   case h_2 => cases h
   rename_i b hm
   split at h
   case h_2 => cases h
   rename_i l hb hown hn
   refine ⟨_, rfl, ?_⟩
   rw [l2]
   split at h
   ·split at h
    case h_2 => cases h
    rename_i ev' hev
    simp only [Option.some.injEq, Prod.mk.injEq] at h
    obtain ⟨rfl, rfl⟩ := h
    have hle := leEv_ok hev he
    rw [mkLen_den, l1] at hle
    have hrow : ((mkPart l (.lit 0) len).ldn v) = (l.ldn v).take n := by rw [mkPart_ldn, l1]; simp [I.den]
    have hlen : ((l.ldn v).take n).length = n := by rw [List.length_take]; omega
    refine ⟨ba, c, by rw [l1, Int.toNat_natCast], by rw [l1, Int.toNat_natCast]; exact l3, l4, ?_⟩
    rcases l5 with l5 | ⟨r, N, q, p1, p2, p3, p4⟩
    ·exact .inl l5
    ·obtain ⟨rfl, rfl⟩ := p4 rfl
     obtain ⟨_, hB⟩ := hr.at hm p1
     obtain ⟨cs, fz, k1, k2, k3, k4, k5, k6⟩ := nums_cell hB hb hn
     obtain ⟨k7, rfl, k8⟩ := k6 hown
     refine .inr ⟨r, cs, by simpa [I.den] using p3, k7, k1, ?_, k8, fun _ => ⟨by simp [I.den], k2.symm⟩⟩
     rw [hrow, hlen]
     have := congrArg (List.take n) k3
     rw [List.take_take, Nat.min_eq_left (by omega), ← List.map_take] at this
     exact this
   ·split at h
    case h_2 => cases h
    rename_i ev' hev
    simp only [Option.some.injEq, Prod.mk.injEq] at h
    obtain ⟨rfl, rfl⟩ := h
    have hle := leEv_ok hev he
    simp only [I.den] at hle
    refine ⟨ba, c, by rw [l1, Int.toNat_natCast], by rw [l1, Int.toNat_natCast]; exact l3, l4, ?_⟩
    rcases l5 with l5 | ⟨r, N, q, p1, p2, p3, p4⟩
    ·exact .inl l5
    ·obtain ⟨_, hB⟩ := hr.at hm p1
     obtain ⟨cs, fz, k1, k2, k3, k4, k5, k6⟩ := nums_cell hB hb hn
     obtain ⟨k7, rfl, k8⟩ := k6 hown
     exact .inr ⟨r, cs, by rw [p3, p2, Int.toNat_natCast], k7, k1, k3, k8, fun hf => by cases hf⟩
  ·rename_i y _ _ hy
   split at h
   ·rename_i hp
    simp only [Option.some.injEq, Prod.mk.injEq] at h
    obtain ⟨rfl, rfl⟩ := h
    have hf' : AV.Is v p (.one y) (a.tmps.getD t undef) := by rw [← hy]; exact hf
    exact ⟨_, rfl, A.is_val hp hf'⟩
   ·cases h
  ·cases h
 | cell t ty =>
  simp only [resVar] at h
  have hf := hr.frame t
  split at h
  ·rename_i y off hy
   have hf' : AV.Is v p (.one (.ptr y off)) (a.tmps.getD t undef) := by rw [← hy]; exact hf
   obtain ⟨r, n, hp, e⟩ := hf'
   split at h
   case h_2 => cases h
   rename_i b hm
   obtain ⟨hlt, hB⟩ := hr.at (show m.sig.mem y = some b from hm) hp
   split at h
   ·rename_i hw
    split at h
    ·rename_i hb ha
     split at h
     ·rename_i sz hi
      split at h
      ·rename_i ss hss
       split at h
       ·rename_i hl
        subst hl
        simp only [Option.some.injEq, Prod.mk.injEq] at h
        obtain ⟨rfl, rfl⟩ := h
        obtain ⟨d, hu, hd2⟩ := row_of ha rfl
        refine ⟨_, ?_, rfl⟩
        simp only [resSem, e, asAddr, Sem.run_bind, Sem.run_pure, Result.andThen_ok]
        exact run_loadVar_mid w r off ty (ss.map (Sc.den v)) d (range_of hB hb hw hss) hu hd2 (by simpa using hi)
       ·cases h
      ·cases h
     ·cases h
    ·rename_i hb ha
     split at h
     ·rename_i z hc
      simp only [Option.some.injEq, Prod.mk.injEq] at h
      obtain ⟨rfl, rfl⟩ := h
      obtain ⟨u, hu, hz⟩ := cell_of hB hb hw hc
      refine ⟨u, ?_, hz⟩
      simp only [resSem, e, asAddr, Sem.run_bind, Sem.run_pure, Result.andThen_ok, loadVar, run_isAgg ha, Bool.false_eq_true, if_false, run_load, hu]
     ·cases h
    ·cases h
   ·split at h
    ·rename_i k l hb hn ha
     split at h
     ·rename_i sz hi
      split at h
      ·rename_i ev' hev
       simp only [Option.some.injEq, Prod.mk.injEq] at h
       obtain ⟨rfl, rfl⟩ := h
       obtain ⟨d, hu, hd2⟩ := row_of ha rfl
       obtain ⟨cs, fz, _, _, _, _, hc, _⟩ := nums_cell hB hb hn
       have hle := leEv_ok hev he
       rw [mkLen_den, mkSum_den] at hle
       simp only [I.den] at hle
       have hrg : w.rangeAt r off ((arrA k l (.lit off) sz).map (Sc.den v)) := by
        intro j u hj
        unfold arrA at hj
        simp only [List.getElem?_map, List.map_map] at hj
        rcases Nat.lt_or_ge j sz with hjn | hjn
        ·simp only [List.getElem?_range hjn, Option.map_some, Option.some.injEq, Function.comp] at hj
         subst hj
         have hq : off + j < (l.ldn v).length := by omega
         have := hc (off + j) _ (getD_some hq)
         rw [this]
         simp only [Sc.den, mkGet_den, mkSum_den, I.den]
         rw [show ((off : Int) + (j : Nat)).toNat = off + j by omega]
        ·rw [List.getElem?_eq_none (by simpa using hjn)] at hj
         cases hj
       refine ⟨_, ?_, rfl⟩
       simp only [resSem, e, asAddr, Sem.run_bind, Sem.run_pure, Result.andThen_ok]
       exact run_loadVar_mid w r off ty ((arrA k l (.lit off) sz).map (Sc.den v)) d hrg hu hd2 (by simpa [arrA] using hi)
      ·cases h
     ·cases h
    ·cases h
  ·cases h
theorem resVars_run {m : Fm} {a : Act} {w : World} {p : Mp} (hr : RelP v m.sig a w p) : ∀ (ts : List TypeId) (l : List ResultVar) (xs : List ERes) (ev : List Ev), resVars P m ts l = some (xs, ev) → (∀ e ∈ ev, e.holds P v) →
  ∃ us, (l.mapM (resSem a)).run P w = .ok us w ∧ resIs v.w.heap.size w (xs.map (ERes.den v)) us
 | [], [], xs, ev, h, _ => by simp only [resVars, Option.some.injEq, Prod.mk.injEq] at h; obtain ⟨rfl, _⟩ := h; exact ⟨[], rfl, rfl⟩
 | t :: ts, r :: l, xs, ev, h, he => by
  simp only [resVars] at h
  split at h
  ·rename_i x e1 xs' e2 h1 h2
   simp only [Option.some.injEq, Prod.mk.injEq] at h
   obtain ⟨rfl, rfl⟩ := h
   obtain ⟨u, k1, k2⟩ := resVar_run h1 (fun e hm => he e (by simp [hm])) hr
   obtain ⟨us, j1, j2⟩ := resVars_run hr ts l xs' e2 h2 (fun e hm => he e (by simp [hm]))
   refine ⟨u :: us, ?_, u, us, rfl, k2, j2⟩
   rw [List.mapM_cons]
   simp only [Sem.run_bind, k1, Result.andThen_ok, j1, Sem.run_pure]
  ·cases h
 | [], _ :: _, _, _, h, _ => by simp [resVars] at h
 | _ :: _, [], _, _, h, _ => by simp [resVars] at h
structure Ran where
 res : List ERes
 ev : List Ev
 lev : List LEv
def initFr (fn : Func) (args : List A) : List AV := args.map .one ++ List.replicate (fn.ntmps - args.length) .undef
def numbered : Nat → List (Nat × Blk) → List (Nat × Nat)
 | _, [] => []
 | k, (g, _) :: l => (g, k) :: numbered (k + 1) l
def initFm (fn : Func) (args : List A) (gs : List (Nat × Blk)) : Fm := ⟨initFr fn args, gs.map (·.2), numbered 0 gs⟩
def GsOk (L : Laid) (gs : List (Nat × Blk)) : Prop := (gs.map (·.1)).Nodup ∧ (∀ x ∈ gs, x.2.own = false ∧ x.2.more = false ∧ x.2.row = none ∧ x.1 < L.K) ∧
 ∀ w, L.G w → ∀ x ∈ gs, ∃ cs fz, w.heap[x.1]? = some (.cells cs x.2.T fz) ∧ ∀ v, listIs v (fun _ => none) x.2.cells cs.toList
theorem GsOk.nil (L : Laid) : GsOk L [] := ⟨List.Pairwise.nil, by simp, by simp⟩
def A.handed : A → Bool
 | .sc _ | .agg _ | .nils | .imm _ _ | .immP _ => true
 | _ => false
theorem A.handed_mp {a : A} (h : a.handed = true) {p q : Mp} {u : Value} (k : a.Is v p u) : a.Is v q u := by
 cases a <;> simp [A.handed] at h <;> exact k
def runFn (P : Program) (fuel : Nat) (fn : Func) (args : List A) (nv : Nat) (ora : List (Option Bool)) (sums : List (Option LSum)) (gs : List (Nat × Blk) := []) : Option Ran :=
 if args.all A.handed then
  match fn.body with
  | some c => match codeSt P fuel false c ⟨initFm fn args gs, nv, ora, sums, [], []⟩ with
   | some (.exit _, _) => none
   | some (_, st) => match resVars P st.fm fn.resultTypes.toList fn.results.toList with
    | some (xs, ev) => some ⟨xs, st.ev ++ ev, st.lev⟩
    | none => none
   | none => none
  | none => none
 else none
theorem numbered_lkp : ∀ (l : List (Nat × Blk)) (k g x : Nat), lkp (numbered k l) g = some x → ∃ j b, x = k + j ∧ l[j]? = some (g, b)
 | [], k, g, x, h => by simp [numbered, lkp] at h
 | (a, b) :: l, k, g, x, h => by
  simp only [numbered, lkp] at h
  split at h
  ·rename_i e
   simp only [Option.some.injEq] at h
   exact ⟨0, b, by omega, by rw [e]; rfl⟩
  ·obtain ⟨j, c, h1, h2⟩ := numbered_lkp l (k + 1) g x h
   exact ⟨j + 1, c, by omega, by simpa using h2⟩
theorem init_rel {fn : Func} {args : List A} {us : List Value} {gs : List (Nat × Blk)} (hp : ∀ a ∈ args, a.handed = true) (hargs : listIs v (fun _ => none) args us) (hgs : GsOk v.L gs) (hK : v.L.K ≤ v.w.heap.size) (hG : v.L.G v.w) :
  RelP v (initFm fn args gs).sig { tmps := us.toArray ++ Array.replicate (fn.ntmps - us.toArray.size) undef, defers := [] } v.w (fun x => (gs[x]?).map fun gb => (gb.1, gb.2.cells.length)) := by
 obtain ⟨hnd, hown, hw⟩ := hgs
 have hul := hargs.length
 have hmem : ∀ x b, (initFm fn args gs).sig.mem x = some b → ∃ g, gs[x]? = some (g, b) := by
  intro x b hx
  have hx' : (gs.map (·.2))[x]? = some b := hx
  rw [List.getElem?_map] at hx'
  cases hq : gs[x]? with
  | none => rw [hq] at hx'; cases hx'
  | some gb =>
   rw [hq] at hx'
   simp only [Option.map_some, Option.some.injEq] at hx'
   exact ⟨gb.1, by rw [← hx']⟩
 refine ⟨rfl, by simp [Fm.sig, initFm, initFr, hul], Nat.le_refl _, Below.refl _ _, ?_, ?_, ?_, ?_, fun t => ?_, hK, hG⟩
 ·intro x y r n m b c hx _ hy _ hpx hpy
  obtain ⟨g, h1⟩ := hmem x b hx
  obtain ⟨g', h2⟩ := hmem y c hy
  simp only [h1, h2, Option.map_some, Option.some.injEq, Prod.mk.injEq] at hpx hpy
  have e1 : (gs.map (·.1))[x]? = some r := by rw [List.getElem?_map, h1]; simp [hpx.1]
  have e2 : (gs.map (·.1))[y]? = some r := by rw [List.getElem?_map, h2]; simp [hpy.1]
  exact (List.getElem?_inj (List.getElem?_eq_some_iff.1 e1).1 hnd).1 (e1.trans e2.symm)
 ·intro x b hx
  obtain ⟨g, h1⟩ := hmem x b hx
  have hin : (g, b) ∈ gs := List.mem_of_getElem? h1
  obtain ⟨o1, o2, o4, o3⟩ := hown _ hin
  obtain ⟨cs, fz, c1, c2⟩ := hw v.w hG _ hin
  have hl := (c2 v).length
  refine .inr ⟨g, b.cells.length, by simp [h1], Nat.lt_of_lt_of_le o3 hK, fun _ => ⟨cs, fz, c1, by simpa using hl, ?_, fun ho => by rw [o1] at ho; cases ho⟩⟩
  have o4' : b.row = none := o4
  unfold Blk.holds
  rw [o4']
  refine ⟨fun _ => by simpa using hl, ?_⟩
  rw [List.take_of_length_le (Nat.le_of_eq hl)]
  exact (c2 v).mono fun x r hx => by cases hx
 ·intro x hx
  have hx' : (gs.map (·.2))[x]? = none := hx
  rw [List.getElem?_eq_none_iff, List.length_map] at hx'
  rw [List.getElem?_eq_none hx']
  rfl
 ·intro g x hg
  obtain ⟨j, b, h1, h2⟩ := numbered_lkp gs 0 g x hg
  rw [Nat.zero_add] at h1
  subst h1
  exact ⟨b.cells.length, by simp [h2]⟩
 ·simp only [Fm.sig, initFm, initFr]
  rcases Nat.lt_or_ge t args.length with h | h
  ·have h1 : (args.map AV.one ++ List.replicate (fn.ntmps - args.length) AV.undef).getD t .undef = .one args[t] := by
    rw [List.getD_eq_getElem?_getD, List.getElem?_append_left (by simpa using h)]
    simp [h]
   rw [h1]
   obtain ⟨u, hu1, hu2⟩ := hargs.get t args[t] (List.getElem?_eq_getElem h)
   have h2 : (us.toArray ++ Array.replicate (fn.ntmps - us.toArray.size) undef).getD t undef = u := by
    have hlt : t < us.length := by omega
    rw [Array.getD_eq_getD_getElem?, Array.getElem?_append_left (by simpa using hlt)]
    simp [hu1]
   rw [h2]
   exact A.handed_mp (hp _ (List.getElem_mem h)) hu2
  ·have h1 : (args.map AV.one ++ List.replicate (fn.ntmps - args.length) AV.undef).getD t .undef = .undef := by
    rw [List.getD_eq_getElem?_getD, List.getElem?_append_right (by simpa using h)]
    simp [List.getElem?_replicate]
    split <;> rfl
   rw [h1]
   trivial
theorem calls_of_runS {f : FuncId} {fn : Func} {fuel nv : Nat} {args : List A} {ora : List (Option Bool)} {sums : List (Option LSum)} {gs : List (Nat × Blk)} {r : Ran} (hf : P.funcs[f]? = some fn) (h : runFn P fuel fn args nv ora sums gs = some r)
  (hev : ∀ e ∈ r.ev, e.holds P v) (hlev : ∀ l ∈ r.lev, l.holds P v) (hgs : GsOk v.L gs) (hK : v.L.K ≤ v.w.heap.size) (hG : v.L.G v.w) (us : List Value) (hargs : listIs v (fun _ => none) args us) :
  Calls P f us.toArray v.w fun e w' => ∃ vs, e = .returned (retOf vs) ∧ resIs v.w.heap.size w' (r.res.map (ERes.den v)) vs ∧ Below v.w.heap.size v.w w' := by
 unfold runFn at h
 split at h
 case isFalse => cases h
 rename_i hp
 split at h
 case h_2 => cases h
 rename_i c hb
 refine calls_of_wp hf hb ?_
 have hhand : ∀ a ∈ args, a.handed = true := by simpa using hp
 have main : ∀ (e : Ex) (st : St), codeSt P fuel false c ⟨initFm fn args gs, nv, ora, sums, [], []⟩ = some (e, st) → (e = .normal ∨ e = .ret) → (∃ xs ev, resVars P st.fm fn.resultTypes.toList fn.results.toList = some (xs, ev) ∧ r = ⟨xs, st.ev ++ ev, st.lev⟩) →
   c.wp P (bodyPost P fn fun e w' => ∃ vs, e = .returned (retOf vs) ∧ resIs v.w.heap.size w' (r.res.map (ERes.den v)) vs ∧ Below v.w.heap.size v.w w') { tmps := us.toArray ++ Array.replicate (fn.ntmps - us.toArray.size) undef, defers := [] } v.w := by
  rintro e st hc he ⟨xs, ev, hx, rfl⟩
  refine (codeSt_wp (v := v) fuel false c _ st e hc ⟨fun e hm => hev e (by simp [hm]), hlev⟩ _ _ v.w _ (init_rel hhand hargs hgs hK hG) fun a' w' q hr => ?_).1
  obtain ⟨vs, h1, h2⟩ := resVars_run hr _ _ _ _ hx (fun e hm => hev e (by simp [hm]))
  have hres : (results fn a'.tmps).run P w' = .ok (retOf vs) w' := by
   unfold results
   have hm : (fn.results.mapM (resSem a')).run P w' = .ok vs.toArray w' := by
    rw [Array.mapM_eq_mapM_toList]
    simp only [Sem.run_map, h1, Result.andThen_ok]
   have hm' := hm
   rw [Sem.run_bind]
   refine Eq.trans (congrArg (fun z => Result.andThen z _) hm') ?_
   simp only [Result.andThen_ok, Sem.run_pure]
   congr 1
   match vs with
   | [] => rfl
   | [x] => rfl
   | x :: y :: l => rfl
  have hd := hr.defers
  have hbel := hr.below
  rcases he with rfl | rfl
  ·exact ⟨hd, _, hres, vs, rfl, h2, hbel⟩
  ·exact ⟨hd, _, hres, vs, rfl, h2, hbel⟩
 split at h
 ·cases h
 ·rename_i e st hne hc
  split at h
  ·rename_i xs ev hx
   simp only [Option.some.injEq] at h
   refine main e st hc ?_ ⟨xs, ev, hx, h.symm⟩
   cases e with
   | normal => exact .inl rfl
   | exit id => exact (hne id rfl).elim
   | ret => exact .inr rfl
  ·cases h
 ·cases h
theorem listIs_pures {p : Mp} : ∀ {l : List A}, (∀ a ∈ l, a.pure = true) → listIs v p l (l.map (A.val v)) := fun h => pures_is p h
theorem calls_of_runG {f : FuncId} {fn : Func} {fuel nv : Nat} {args : List A} {ora : List (Option Bool)} {sums : List (Option LSum)} {gs : List (Nat × Blk)} {res : List A} {ev : List Ev} {lev : List LEv} (hf : P.funcs[f]? = some fn) (h : runFn P fuel fn args nv ora sums gs = some ⟨res.map .val, ev, lev⟩)
  (hp : args.all A.pure = true) (hev : ∀ e ∈ ev, e.holds P v) (hlev : ∀ l ∈ lev, l.holds P v) (hgs : GsOk v.L gs) (hK : v.L.K ≤ v.w.heap.size) (hG : v.L.G v.w) :
  Calls P f (args.map (A.val v)).toArray v.w fun e w' => e = .returned ((resA res).val v) ∧ Below v.w.heap.size v.w w' := by
 refine (calls_of_runS hf h hev hlev hgs hK hG _ (listIs_pures (by simpa using hp))).mono fun e w' ⟨vs, h1, h2, h3⟩ => ?_
 subst h1
 rw [resIs_vals h2, retOf_val]
 exact ⟨rfl, h3⟩
theorem enter_of {f : FuncId} {fn : Func} {args : Array Value} {w : World} (hf : P.funcs[f]? = some fn) (hname : (fn.name == "runtime.NumGoroutine") = false) (hb : fn.body.isNone = false) : (callFunc f args).run P w = .ok (.enter f args) w := by
 have h1 : fn.name ≠ "runtime.NumGoroutine" := by simpa using hname
 have h2 : fn.body ≠ none := by intro e; rw [e] at hb; cases hb
 simp [callFunc, hf, h1, h2]
theorem callG_of {L : Laid} {f : FuncId} {fn : Func} {args : Array Value} {u : Value} (hf : P.funcs[f]? = some fn) (hname : (fn.name == "runtime.NumGoroutine") = false) (hb : fn.body.isNone = false)
  (h : ∀ w, L.K ≤ w.heap.size → L.G w → Calls P f args w fun e w' => e = .returned u ∧ Below w.heap.size w w') : CallG P L f args u := fun w hK hG =>
 .inr ⟨f, args, enter_of hf hname hb, h w hK hG⟩
theorem callP_of {f : FuncId} {fn : Func} {args : Array Value} {u : Value} (hf : P.funcs[f]? = some fn) (hname : (fn.name == "runtime.NumGoroutine") = false) (hb : fn.body.isNone = false)
  (h : ∀ w, Calls P f args w fun e w' => e = .returned u ∧ Below w.heap.size w w') : CallP P f args u := fun w =>
 .inr ⟨f, args, enter_of hf hname hb, h w⟩
theorem callS_of {L : Laid} {f : FuncId} {fn : Func} {args : List SArg} {res : List SRes} (hf : P.funcs[f]? = some fn) (hname : (fn.name == "runtime.NumGoroutine") = false) (hb : fn.body.isNone = false)
  (h : ∀ w us, L.K ≤ w.heap.size → L.G w → argsIs w args us → Calls P f us.toArray w fun e w' => ∃ vs, e = .returned (retOf vs) ∧ resIs w.heap.size w' res vs ∧ Below w.heap.size w w') : CallS P L f args res := fun w us hK hG ha =>
 ⟨enter_of hf hname hb, h w us hK hG ha⟩
theorem CallS.g {L : Laid} {f : FuncId} {args : List SArg} {res : List SRes} (h : CallS P L0 f args res) : CallS P L f args res := fun w us _ _ ha => h w us (Nat.zero_le _) trivial ha
end
end Go.Sx
namespace Go.Sx
open Go Go.RowKit
def allHold (P : Program) (v : Env) : List Ev → Prop
 | [] => True
 | e :: l => e.holds P v ∧ allHold P v l
theorem evs_of {P : Program} {v : Env} : ∀ {l : List Ev}, allHold P v l → ∀ e ∈ l, e.holds P v
 | [], _ => by simp
 | e :: l, h => by
  intro e' he
  rcases List.mem_cons.1 he with rfl | he
  ·exact h.1
  ·exact evs_of h.2 e' he
theorem calls_eq {P : Program} {f : FuncId} {args : Array Value} {w : World} {u u' : Value} (h : Calls P f args w fun e w' => e = .returned u ∧ Below w.heap.size w w') (hu : u = u') :
  Calls P f args w fun e w' => e = .returned u' ∧ Below w.heap.size w w' := by rw [← hu]; exact h
section
variable {P : Program} {v : Env} {x y : I} {a b : Int}
theorem dec_le_t (hx : x.den v = a) (hy : y.den v = b) (h : a ≤ b) : (Ev.dec (.cmp .leq x y) true).holds P v := by show cmpD _ _ _ = true; rw [hx, hy]; exact decide_eq_true h
theorem dec_lt_t (hx : x.den v = a) (hy : y.den v = b) (h : a < b) : (Ev.dec (.cmp .lss x y) true).holds P v := by show cmpD _ _ _ = true; rw [hx, hy]; exact decide_eq_true h
theorem dec_lt_f (hx : x.den v = a) (hy : y.den v = b) (h : ¬ a < b) : (Ev.dec (.cmp .lss x y) false).holds P v := by show cmpD _ _ _ = false; rw [hx, hy]; exact decide_eq_false h
theorem dec_ge_t (hx : x.den v = a) (hy : y.den v = b) (h : a ≥ b) : (Ev.dec (.cmp .geq x y) true).holds P v := by show cmpD _ _ _ = true; rw [hx, hy]; exact decide_eq_true h
theorem dec_ge_f (hx : x.den v = a) (hy : y.den v = b) (h : ¬ a ≥ b) : (Ev.dec (.cmp .geq x y) false).holds P v := by show cmpD _ _ _ = false; rw [hx, hy]; exact decide_eq_false h
theorem dec_gt_t (hx : x.den v = a) (hy : y.den v = b) (h : a > b) : (Ev.dec (.cmp .gtr x y) true).holds P v := by show cmpD _ _ _ = true; rw [hx, hy]; exact decide_eq_true h
theorem dec_gt_f (hx : x.den v = a) (hy : y.den v = b) (h : ¬ a > b) : (Ev.dec (.cmp .gtr x y) false).holds P v := by show cmpD _ _ _ = false; rw [hx, hy]; exact decide_eq_false h
theorem dec_eq_t (hx : x.den v = a) (hy : y.den v = b) (h : a = b) : (Ev.dec (.cmp .eql x y) true).holds P v := by show cmpD _ _ _ = true; rw [hx, hy]; exact beq_iff_eq.2 h
theorem dec_eq_f (hx : x.den v = a) (hy : y.den v = b) (h : ¬ a = b) : (Ev.dec (.cmp .eql x y) false).holds P v := by show cmpD _ _ _ = false; rw [hx, hy]; exact beq_eq_false_iff_ne.2 h
theorem dec_ne_t (hx : x.den v = a) (hy : y.den v = b) (h : ¬ a = b) : (Ev.dec (.cmp .neq x y) true).holds P v := by show cmpD _ _ _ = true; rw [hx, hy]; exact bne_iff_ne.2 h
theorem dec_ne_f (hx : x.den v = a) (hy : y.den v = b) (h : a = b) : (Ev.dec (.cmp .neq x y) false).holds P v := by show cmpD _ _ _ = false; rw [hx, hy, h]; exact bne_self_eq_false b
end
theorem runS_eq {P : Program} {f : FuncId} {us : Array Value} {B : Nat} {w : World} {res res' : List SRes} (h : Calls P f us w fun e w' => ∃ vs, e = .returned (retOf vs) ∧ resIs B w' res vs ∧ Below B w w') (e : res = res') :
  Calls P f us w fun e w' => ∃ vs, e = .returned (retOf vs) ∧ resIs B w' res' vs ∧ Below B w w' := by rw [← e]; exact h
end Go.Sx
namespace Go.Sx
open Go Go.RowKit
def rn (ren : List (Option Nat)) (y x : Nat) : Prop := ren.getD y none = some x
def scTo (v v' : Env) : Sc → Sc → Prop
 | .int k e, .int k' e' => k = k' ∧ e.den v = e'.den v'
 | .bool b, .bool b' => b.den v = b'.den v' ∧ True
 | _, _ => False
def scsTo (v v' : Env) : List Sc → List Sc → Prop
 | [], [] => True
 | x :: l, y :: m => scTo v v' x y ∧ scsTo v v' l m
 | _, _ => False
def nlTo (v v' : Env) : Option Bx → Option Bx → Prop
 | _, none => True
 | some b, some b' => b.den v = b'.den v' ∧ True
 | none, some _ => False
def aTo (v v' : Env) (ren : List (Option Nat)) : A → A → Prop
 | .sc s, .sc s' => scTo v v' s s'
 | .agg l, .agg m => scsTo v v' l m
 | .ptr x o, .ptr y o' => rn ren y x ∧ o = o'
 | .slc x o l c, .slc y o' l' c' => rn ren y x ∧ o = o' ∧ l = l' ∧ c = c'
 | .nils, .nils => True
 | .fn f l, .fn g m => f = g ∧ scsTo v v' l m
 | .bsl x o l f, .bsl y o' l' f' => rn ren y x ∧ (f' = true → f = true) ∧ o.den v = o'.den v' ∧ l.den v = l'.den v'
 | .nils, .bsl _ _ l _ => l.den v' = 0 ∧ True
 | .bptr x i, .bptr y j => rn ren y x ∧ i.den v = j.den v'
 | .imm l nl, .imm l' nl' => l.ldn v = l'.ldn v' ∧ nlTo v v' nl nl'
 | .immp e, .immp e' => e.den v = e'.den v' ∧ True
 | .immP n, .immP n' => v.pp n = v'.pp n' ∧ True
 | .immPp n i, .immPp n' i' => v.pp n = v'.pp n' ∧ i.den v = i'.den v'
 | _, _ => False
def asTo (v v' : Env) (ren : List (Option Nat)) : List A → List A → Prop
 | [], [] => True
 | x :: l, y :: m => aTo v v' ren x y ∧ asTo v v' ren l m
 | _, _ => False
def avTo (v v' : Env) (ren : List (Option Nat)) : AV → AV → Prop
 | _, .undef => True
 | .one a, .one b => aTo v v' ren a b
 | .tup l, .tup m => asTo v v' ren l m
 | _, _ => False
def frTo (v v' : Env) (ren : List (Option Nat)) : List AV → List AV → Prop
 | [], [] => True
 | x :: l, y :: m => avTo v v' ren x y ∧ frTo v v' ren l m
 | _, _ => False
def rowTo (v v' : Env) : Option (IntKind × I) → IntKind → I → Prop
 | some (k', l'), k, l => k' = k ∧ l'.ldn v = l.ldn v'
 | none, _, _ => False
def blkTo (v v' : Env) (ren : List (Option Nat)) (b c : Blk) : Prop :=
 b.T = c.T ∧ b.own = c.own ∧ b.dead = c.dead ∧
  match c.row with
  | none => b.row = none ∧ b.more = c.more ∧ asTo v v' ren b.cells c.cells
  | some (k, l) => rowTo v v' b.nums k l
def blkAt (v v' : Env) (ren : List (Option Nat)) (fm : List Blk) (r : Option Nat) (c : Blk) : Prop :=
 match r with
 | none => c.row.isSome = true
 | some x => match fm[x]? with
  | some b => match c.dead with
   | true => c.row.isSome = true
   | false => blkTo v v' ren b c
  | none => False
def memTo (v v' : Env) (ren : List (Option Nat)) (fm : List Blk) : List (Option Nat) → List Blk → Prop
 | [], [] => True
 | r :: rs, c :: cs => blkAt v v' ren fm r c ∧ memTo v v' ren fm rs cs
 | _, _ => False
def renB (ren : List (Option Nat)) (g : Fm) : Bool := decide ((ren.filterMap id).Nodup) && g.gl.all fun z => decide (ren.getD z.2 none = some z.2)
def Fm.to (v v' : Env) (ren : List (Option Nat)) (f g : Fm) : Prop := frTo v v' ren f.fr g.fr ∧ memTo v v' ren f.mem ren g.mem ∧ f.gl = g.gl ∧ renB ren g = true ∧ v'.L = v.L ∧ v'.w = v.w
section
variable {P : Program} {v v' : Env}
theorem scTo_den {x y : Sc} (h : scTo v v' x y) : x.den v = y.den v' := by
 cases x <;> cases y <;> simp only [scTo] at h
 ·obtain ⟨rfl, h⟩ := h; simp only [Sc.den, h]
 ·simp only [Sc.den, h.1]
theorem scsTo_den : ∀ {l m : List Sc}, scsTo v v' l m → l.map (Sc.den v) = m.map (Sc.den v')
 | [], [], _ => rfl
 | x :: l, y :: m, ⟨h1, h2⟩ => by simp only [List.map_cons, scTo_den h1, scsTo_den h2]
 | [], _ :: _, h => h.elim
 | _ :: _, [], h => h.elim
theorem nlTo_ok {nl nl' : Option Bx} (h : nlTo v v' nl nl') {b' : Bx} (hb : nl' = some b') : ∃ b, nl = some b ∧ b.den v = b'.den v' := by
 subst hb
 cases nl with
 | none => simp only [nlTo] at h
 | some b => exact ⟨b, rfl, h.1⟩
def Mp.ren (p : Mp) (ren : List (Option Nat)) : Mp := fun y => (ren.getD y none).bind p
theorem Mp.ren_rn {p : Mp} {ren : List (Option Nat)} {y x : Nat} (h : rn ren y x) : p.ren ren y = p x := by
 unfold Mp.ren
 rw [show ren.getD y none = some x from h]
 rfl
theorem aTo_is {ren : List (Option Nat)} (hw : v'.w = v.w) {a b : A} (h : aTo v v' ren a b) {p : Mp} {u : Value} (k : a.Is v p u) : b.Is v' (p.ren ren) u := by
 cases a <;> cases b <;> simp only [aTo] at h
 ·rw [show u = _ from k]; exact scTo_den h
 ·rw [show u = _ from k]; show _ = _; rw [scsTo_den h]
 ·obtain ⟨h1, rfl⟩ := h
  obtain ⟨r, m, k1, k2⟩ := k
  exact ⟨r, m, by rw [Mp.ren_rn h1]; exact k1, k2⟩
 ·obtain ⟨h1, rfl, rfl, rfl⟩ := h
  obtain ⟨r, m, k1, k2⟩ := k
  exact ⟨r, m, by rw [Mp.ren_rn h1]; exact k1, k2⟩
 ·exact k
 ·rw [show u = _ from k]
  exact ⟨none, 0, 0, h.1, rfl, Nat.le_refl _, Nat.zero_le _, .inl rfl⟩
 ·obtain ⟨rfl, h⟩ := h
  rw [show u = _ from k]; show _ = _; rw [scsTo_den h]
 ·obtain ⟨h1, h2, h3, h4⟩ := h
  obtain ⟨bb, n, c, k1, k2, k3, k4, k5⟩ := k
  refine ⟨bb, n, c, by rw [← h4]; exact k1, k2, k3, k4, ?_⟩
  rcases k5 with k5 | ⟨r, N, o, j1, j2, j3, j4⟩
  ·exact .inl k5
  ·exact .inr ⟨r, N, o, by rw [Mp.ren_rn h1]; exact j1, by rw [← h3]; exact j2, j3, fun hf => j4 (h2 hf)⟩
 ·obtain ⟨h1, h2⟩ := h
  obtain ⟨r, N, o, j1, j2, j3⟩ := k
  exact ⟨r, N, o, by rw [Mp.ren_rn h1]; exact j1, by rw [← h2]; exact j2, j3⟩
 ·obtain ⟨h1, h2⟩ := h
  obtain ⟨k1, k2⟩ := k
  refine ⟨by rw [hw, ← h1]; exact k1, fun b' hb' => ?_⟩
  obtain ⟨b, hb, e⟩ := nlTo_ok h2 hb'
  rw [← e]
  exact k2 b hb
 ·obtain ⟨r, o, k1, k2⟩ := k
  exact ⟨r, o, k1, by rw [hw, ← h.1]; exact k2⟩
 ·show ReadsP v'.w u (v'.pp _)
  rw [hw, ← h.1]
  exact k
 ·obtain ⟨h1, h2⟩ := h
  obtain ⟨r, o, y, k1, k2, k3⟩ := k
  exact ⟨r, o, y, k1, by rw [hw]; exact k2, by rw [hw, ← h1, ← h2]; exact k3⟩
theorem asTo_is {ren : List (Option Nat)} (hw : v'.w = v.w) {p : Mp} : ∀ {l m : List A} {us : List Value}, asTo v v' ren l m → listIs v p l us → listIs v' (p.ren ren) m us
 | [], [], _, _, k => k
 | x :: l, y :: m, us, ⟨h1, h2⟩, ⟨u, us', e, k1, k2⟩ => ⟨u, us', e, aTo_is hw h1 k1, asTo_is hw h2 k2⟩
 | [], _ :: _, _, h, _ => h.elim
 | _ :: _, [], _, h, _ => h.elim
theorem asTo_length {ren : List (Option Nat)} : ∀ {l m : List A}, asTo v v' ren l m → l.length = m.length
 | [], [], _ => rfl
 | _ :: _, _ :: _, ⟨_, h2⟩ => by simp [asTo_length h2]
 | [], _ :: _, h => h.elim
 | _ :: _, [], h => h.elim
theorem avTo_is {ren : List (Option Nat)} (hw : v'.w = v.w) {a b : AV} (h : avTo v v' ren a b) {p : Mp} {u : Value} (k : a.Is v p u) : b.Is v' (p.ren ren) u := by
 cases b with
 | undef => trivial
 | one b => cases a <;> simp only [avTo] at h; exact aTo_is hw h k
 | tup m =>
  cases a <;> simp only [avTo] at h
  obtain ⟨us, e, k⟩ := k
  exact ⟨us, e, asTo_is hw h k⟩
 | when c w b => cases a <;> simp only [avTo] at h
theorem frTo_is {ren : List (Option Nat)} (hw : v'.w = v.w) {p : Mp} : ∀ {l m : List AV}, frTo v v' ren l m → l.length = m.length ∧ ∀ (t : Nat) (u : Value), (l.getD t .undef).Is v p u → (m.getD t .undef).Is v' (p.ren ren) u
 | [], [], _ => ⟨rfl, fun _ _ _ => trivial⟩
 | x :: l, y :: m, ⟨h1, h2⟩ => by
  obtain ⟨k1, k2⟩ := frTo_is hw (p := p) h2
  refine ⟨by simp [k1], fun t u hu => ?_⟩
  cases t with
  | zero => exact avTo_is hw h1 hu
  | succ t => exact k2 t u hu
 | [], _ :: _, h => h.elim
 | _ :: _, [], h => h.elim
theorem memTo_is {ren : List (Option Nat)} {fm : List Blk} : ∀ {rs : List (Option Nat)} {m : List Blk}, memTo v v' ren fm rs m → rs.length = m.length ∧ ∀ (y : Nat) (c : Blk), m[y]? = some c → blkAt v v' ren fm (rs.getD y none) c
 | [], [], _ => ⟨rfl, fun y c hc => by simp at hc⟩
 | r :: rs, c :: m, ⟨h1, h2⟩ => by
  obtain ⟨k1, k2⟩ := memTo_is h2
  refine ⟨by simp [k1], fun y c' hc => ?_⟩
  cases y with
  | zero => simp only [List.getElem?_cons_zero, Option.some.injEq] at hc; subst hc; exact h1
  | succ y => simp only [List.getElem?_cons_succ] at hc; exact k2 y c' hc
 | [], _ :: _, h => h.elim
 | _ :: _, [], h => h.elim
theorem lkp_all {f : Nat → Bool} : ∀ {l : List (Nat × Nat)}, (l.all fun x => f x.2) = true → ∀ {g x : Nat}, lkp l g = some x → f x = true
 | [], _, g, x, h => by simp [lkp] at h
 | (a, b) :: l, hl, g, x, h => by
  simp only [List.all_cons, Bool.and_eq_true] at hl
  simp only [lkp] at h
  split at h
  ·simp only [Option.some.injEq] at h; subst h; exact hl.1
  ·exact lkp_all hl.2 h
theorem ren_inj : ∀ {ren : List (Option Nat)}, (ren.filterMap id).Nodup → ∀ {y z x : Nat}, ren.getD y none = some x → ren.getD z none = some x → y = z
 | [], _, y, z, x, h, _ => by simp at h
 | r :: rs, hn, y, z, x, h, k => by
  have hmem : ∀ {y : Nat} {x : Nat}, rs.getD y none = some x → x ∈ rs.filterMap id := by
   intro y x h
   rw [List.getD_eq_getElem?_getD] at h
   cases hq : rs[y]? with
   | none => rw [hq] at h; cases h
   | some o =>
    rw [hq] at h
    simp only [Option.getD_some] at h
    subst h
    exact List.mem_filterMap.2 ⟨some x, List.mem_of_getElem? hq, rfl⟩
  have hn2 : (rs.filterMap id).Nodup := by
   cases r with
   | none => simpa using hn
   | some a => simp only [List.filterMap_cons, id] at hn; exact (List.nodup_cons.1 hn).2
  cases y with
  | zero =>
   cases z with
   | zero => rfl
   | succ z =>
    simp only [List.getD_cons_zero] at h
    simp only [List.getD_cons_succ] at k
    subst h
    simp only [List.filterMap_cons, id] at hn
    exact absurd (hmem k) (List.nodup_cons.1 hn).1
  | succ y =>
   cases z with
   | zero =>
    simp only [List.getD_cons_zero] at k
    simp only [List.getD_cons_succ] at h
    subst k
    simp only [List.filterMap_cons, id] at hn
    exact absurd (hmem h) (List.nodup_cons.1 hn).1
   | succ z =>
    simp only [List.getD_cons_succ] at h k
    rw [ren_inj hn2 h k]
theorem to_rel {ren : List (Option Nat)} {f g : Fm} (h : Fm.to v v' ren f g) {a : Act} {w : World} {p : Mp} (hr : RelP v f.sig a w p) : RelP v' g.sig a w (p.ren ren) := by
 obtain ⟨h1, h2, h3, h4, h5, h6⟩ := h
 obtain ⟨k1, k2⟩ := frTo_is h6 (p := p) h1
 obtain ⟨m1, m2⟩ := memTo_is h2
 unfold renB at h4
 rw [Bool.and_eq_true, decide_eq_true_eq] at h4
 obtain ⟨hnd, hgl⟩ := h4
 -- a memory that is not dead and has a block
 have live : ∀ y c r n, g.mem[y]? = some c → c.dead = false → p.ren ren y = some (r, n) → ∃ x b, ren.getD y none = some x ∧ f.mem[x]? = some b ∧ b.dead = false ∧ p x = some (r, n) ∧ blkTo v v' ren b c := by
  intro y c r n hc hd hp
  have hb := m2 y c hc
  unfold Mp.ren at hp
  cases hx : ren.getD y none with
  | none => rw [hx] at hp; cases hp
  | some x =>
   rw [hx] at hp hb
   simp only [blkAt] at hb
   cases hq : f.mem[x]? with
   | none => rw [hq] at hb; exact hb.elim
   | some b =>
    rw [hq] at hb
    simp only [hd] at hb
    exact ⟨x, b, rfl, hq, by rw [hb.2.2.1]; exact hd, hp, hb⟩
 refine ⟨hr.defers, by rw [hr.size]; exact k1, by rw [h6]; exact hr.base, by rw [h6]; exact hr.below, ?_, ?_, ?_, ?_, fun t => k2 t _ (hr.frame t), by rw [h5, h6]; exact hr.gk, by rw [h5, h6]; exact hr.g0⟩
 ·intro y z r n m b c hb hbd hc hcd hpy hpz
  obtain ⟨x1, b1, e1, e2, e3, e4, _⟩ := live y b r n hb hbd hpy
  obtain ⟨x2, b2, i1, i2, i3, i4, _⟩ := live z c r m hc hcd hpz
  have := hr.inj x1 x2 r n m b1 b2 e2 e3 i2 i3 e4 i4
  subst this
  exact ren_inj hnd e1 i1
 ·intro y c hc
  have hc' : g.mem[y]? = some c := hc
  have hb := m2 y c hc'
  cases hx : ren.getD y none with
  | none =>
   rw [hx] at hb
   exact .inl ⟨hb, by unfold Mp.ren; rw [hx]; rfl⟩
  | some x =>
   rw [hx] at hb
   simp only [blkAt] at hb
   cases hq : f.mem[x]? with
   | none => rw [hq] at hb; exact hb.elim
   | some b =>
    rw [hq] at hb
    have hpx : p.ren ren y = p x := Mp.ren_rn hx
    cases hd : c.dead with
    | true =>
     simp only [hd] at hb
     rcases hr.mem x b hq with ⟨j1, j2⟩ | ⟨r, n, j1, j2, j3⟩
     ·exact .inl ⟨hb, by rw [hpx]; exact j2⟩
     ·exact .inr ⟨r, n, by rw [hpx]; exact j1, j2, fun hdd => by rw [hd] at hdd; cases hdd⟩
    | false =>
     simp only [hd] at hb
     obtain ⟨b1, b2, b3, b4⟩ := hb
     rcases hr.mem x b hq with ⟨j1, j2⟩ | ⟨r, n, j1, j2, j3⟩
     ·refine .inl ⟨?_, by rw [hpx]; exact j2⟩
      cases hrow : c.row with
      | some kl => rfl
      | none => simp only [hrow] at b4; rw [b4.1] at j1; cases j1
     ·refine .inr ⟨r, n, by rw [hpx]; exact j1, j2, fun _ => ?_⟩
      obtain ⟨cs, fz, i1, i2, i3, i4⟩ := j3 (by rw [b3]; exact hd)
      refine ⟨cs, fz, by rw [← b1]; exact i1, i2, ?_, fun ho => by rw [h6]; exact i4 (by rw [b2]; exact ho)⟩
      unfold Blk.holds
      cases hrow : c.row with
      | none =>
       simp only [hrow] at b4 ⊢
       obtain ⟨b5, b6, b7⟩ := b4
       unfold Blk.holds at i3
       rw [b5] at i3
       have hl := asTo_length b7
       exact ⟨fun hm => by rw [i3.1 (by rw [b6]; exact hm)]; exact hl, by rw [← hl]; exact asTo_is h6 b7 i3.2⟩
      | some kl =>
       obtain ⟨k, l⟩ := kl
       simp only [hrow] at b4 ⊢
       cases hn : b.nums with
       | none => rw [hn] at b4; exact b4.elim
       | some kl' =>
        obtain ⟨k', l'⟩ := kl'
        rw [hn] at b4
        obtain ⟨rfl, b5⟩ := b4
        rw [← b5]
        exact i3.nums hn
 ·intro y hy
  have hy' : g.mem[y]? = none := hy
  rw [List.getElem?_eq_none_iff] at hy'
  unfold Mp.ren
  rw [List.getD_eq_getElem?_getD, List.getElem?_eq_none (by omega)]
  rfl
 ·intro gg x hx
  have hx' := of_decide_eq_true (lkp_all (f := fun x => decide (ren.getD x none = some x)) hgl (show lkp g.gl gg = some x from hx))
  obtain ⟨n, hn⟩ := hr.glob gg x (show lkp f.gl gg = some x by rw [h3]; exact hx)
  exact ⟨n, by rw [Mp.ren_rn hx']; exact hn⟩
def Round (P : Program) (body : Code) (head : Fm) (u : Env) (e : Ex) (g : Fm) (u' : Env) : Prop :=
 ∃ u2 r0 r1, Fm.to u u2 r0 head head ∧ ∃ fuel nv ora sums st, codeSt P fuel false body ⟨head, nv, ora, sums, [], []⟩ = some (e, st) ∧ okEv P u2 st ∧ Fm.to u2 u' r1 st.fm g
theorem Round.mk {P : Program} {body : Code} {head g : Fm} {u u' : Env} {e : Ex} (u2 : Env) (r0 r1 : List (Option Nat)) (fuel nv : Nat) (ora : List (Option Bool)) (sums : List (Option LSum)) (st : St) (h1 : Fm.to u u2 r0 head head) (h2 : codeSt P fuel false body ⟨head, nv, ora, sums, [], []⟩ = some (e, st))
  (h3 : okEv P u2 st) (h4 : Fm.to u2 u' r1 st.fm g) : Round P body head u e g u' := ⟨u2, r0, r1, h1, fuel, nv, ora, sums, st, h2, h3, h4⟩
theorem round_wp {body : Code} {head g : Fm} {u u' : Env} {e : Ex} (h : Round P body head u e g u') {Q : Exit → Act → World → Prop} {a : Act} {w : World} {p : Mp} (hr : RelP u head.sig a w p)
  (hQ : ∀ a' w' q, RelP u' g.sig a' w' q → Q e.to a' w') : body.wp P Q a w := by
 obtain ⟨u2, r0, r1, h0, fuel, nv, ora, sums, st, h1, h2, h3⟩ := h
 exact (codeSt_wp fuel false body _ st e h1 h2 Q a w _ (to_rel h0 hr) fun a' w' q hr' => hQ a' w' _ (to_rel h3 hr')).1
theorem loop_rounds {body : Code} {pre head post : Fm} {ex : Ex} {n : Nat} {v : Env} (u : Nat → Env) {r0 r1 : List (Option Nat)} (start : Fm.to v (u 0) r0 pre head) (round : ∀ k, k < n → Round P body head (u k) .normal head (u (k + 1)))
  (u' : Env) (last : Round P body head (u n) ex post u') (fin : Fm.to u' v r1 post post) (hex : ex ≠ .normal) : LEv.holds P v ⟨body, pre, post, ex⟩ := by
 intro a w p hr
 have key : ∀ m k, k + m = n → ∀ a w p, RelP (u k) head.sig a w p → Code.rounds P body (fun e a' w' => e = ex.to ∧ ∃ q, RelP v post.sig a' w' q) (m + 1) a w := by
  intro m
  induction m with
  | zero =>
   intro k hk a w p hr
   rw [rounds_succ]
   have : k = n := by omega
   subst this
   refine round_wp last hr fun a' w' q hr' => ?_
   have hpost := to_rel fin hr'
   cases ex with
   | normal => exact absurd rfl hex
   | exit id => exact ⟨rfl, _, hpost⟩
   | ret => exact ⟨rfl, _, hpost⟩
  | succ m ih =>
   intro k hk a w p hr
   rw [rounds_succ]
   exact round_wp (round k (by omega)) hr fun a' w' q hr' => ih (k + 1) (by omega) a' w' q hr'
 exact wp_loop_rounds (n + 1) (key n 0 (by omega) a w _ (to_rel start hr))
end
def loopsOf : Code → List Code
 | .seq a b => loopsOf a ++ loopsOf b
 | .cond _ a b => loopsOf a ++ loopsOf b
 | .block _ a => loopsOf a
 | .loop a => a :: loopsOf a
 | .scope a => loopsOf a
 | _ => []
def loopOf (fn : Func) (i : Nat) : Code := match fn.body with | some c => (loopsOf c).getD i .skip | none => .skip
def allL (P : Program) (v : Env) : List LEv → Prop
 | [] => True
 | l :: r => l.holds P v ∧ allL P v r
theorem levs_of {P : Program} {v : Env} : ∀ {l : List LEv}, allL P v l → ∀ e ∈ l, e.holds P v
 | [], _ => by simp
 | e :: l, h => by
  intro e' he
  rcases List.mem_cons.1 he with rfl | he
  ·exact h.1
  ·exact levs_of h.2 e' he
end Go.Sx
