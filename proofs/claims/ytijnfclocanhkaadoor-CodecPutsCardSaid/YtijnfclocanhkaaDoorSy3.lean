/- Symbolic operations: what each does to a symbolic state, and that it is so. -/
import Derived.Test.YtijnfclocanhkaaDoorSy2
import Derived.Laws.StructEq
set_option linter.unusedVariables false
set_option linter.unusedSimpArgs false
namespace Go.Sx
open Go Go.RowKit

/-- what is handed to a call that takes slices, and what comes back: in expressions -/
inductive EArg where
  | val (a : A)
  | bytes (l : I)
  | parts (ls : List I)
  | partsV (n : Nat)
  deriving DecidableEq, Repr, Inhabited
inductive ERes where
  | val (a : A)
  | fresh (T : TypeId) (l off len : I) (full : Bool)
  deriving DecidableEq, Repr, Inhabited

/-- .. and in values -/
inductive SArg where
  | val (u : Value)
  | bytes (bs : List Int)
  | parts (ls : List (List Int))
inductive SRes where
  | val (u : Value)
  | fresh (T : TypeId) (l : List Int) (off len : Nat) (full : Bool)

def SArg.Is (w : World) : SArg → Value → Prop
  | .val u, x => x = u
  | .bytes bs, x => Reads w x bs
  | .parts ls, x => ReadsP w x ls

/-- new memory (no block below B) that begins with these numbers, and a slice of it (full: the whole, to grow) -/
def SRes.Is (B : Nat) (w : World) : SRes → Value → Prop
  | .val u, x => x = u
  | .fresh T l off len full, x => ∃ b c, x = .slice b len c ∧ len ≤ c ∧ c ≤ maxLen ∧ (c = 0 ∨ ∃ r cs, b = some ⟨r, off, none⟩ ∧ B ≤ r ∧ w.heap[r]? = some (.cells cs T (0, 0)) ∧ cs.toList.take l.length = l.map (Value.int .u8) ∧
      (∀ u ∈ cs.toList, u.oneCell' = true) ∧ (full = true → off = 0 ∧ c = cs.size))

def argsIs (w : World) : List SArg → List Value → Prop
  | [], us => us = []
  | a :: as, us => ∃ u r, us = u :: r ∧ a.Is w u ∧ argsIs w as r
def resIs (B : Nat) (w : World) : List SRes → List Value → Prop
  | [], us => us = []
  | a :: as, us => ∃ u r, us = u :: r ∧ a.Is B w u ∧ resIs B w as r

def retOf : List Value → Value
  | [x] => x
  | l => .tuple l.toArray

/-- called with these, it returns those, and makes but new memory -/
def CallS (P : Program) (L : Laid) (f : FuncId) (args : List SArg) (res : List SRes) : Prop := ∀ (w : World) (us : List Value), L.K ≤ w.heap.size → L.G w → argsIs w args us →
  (callFunc f us.toArray).run P w = .ok (.enter f us.toArray) w ∧ Calls P f us.toArray w fun e w' => ∃ vs, e = .returned (retOf vs) ∧ resIs w.heap.size w' res vs ∧ Below w.heap.size w w'

/-- it turns a slice of bytes about, in place -/
def Reverser (P : Program) (f : FuncId) : Prop := ∀ (w : World) (b : Option Addr) (c : Nat) (bs : List Int), bs.length ≤ c → c ≤ maxLen →
  (callFunc f #[.slice b bs.length c]).run P w = .ok (.enter f #[.slice b bs.length c]) w ∧
  (c = 0 → Calls P f #[.slice b bs.length c] w fun e w' => e = .returned (.tuple #[]) ∧ Below w.heap.size w w') ∧
  ∀ r cs T, b = some ⟨r, 0, none⟩ → w.heap[r]? = some (.cells cs T (0, 0)) → cs.toList.take bs.length = bs.map (Value.int .u8) → 
    Calls P f #[.slice b bs.length c] w fun e w' => e = .returned (.tuple #[]) ∧ ∃ q, w' = (w.drewN q).setRow r (bs.reverse.map (Value.int .u8) ++ cs.toList.drop bs.length).toArray

inductive Ev where
  | dec (b : Bx) (val : Bool)
  | call (f : FuncId) (args : List A) (res : AV)
  | sel (n : Nat) (b : Bx) (x y : I)
  | selB (n : Nat) (b x y : Bx)
  | selL (n : Nat) (b : Bx) (x y : I)
  | callS (f : FuncId) (args : List EArg) (res : List ERes)
  | rev (f : FuncId)
  | imp (b : Bx) (want : Bool) (e : Ev)
  deriving DecidableEq, Repr, Inhabited

def A.val (v : Env) : A → Value
  | .sc s => s.den v
  | .agg l => .agg (l.map (Sc.den v)).toArray
  | .nils => .slice none 0 0
  | _ => undef
def A.pure : A → Bool
  | .sc _ | .agg _ | .nils => true
  | _ => false
def AV.val (v : Env) : AV → Value
  | .one a => a.val v
  | .tup l => .tuple (l.map (A.val v)).toArray
  | _ => Go.undef

/-- the call returns u and makes but new memory -/
def CallP (P : Program) (f : FuncId) (args : Array Value) (u : Value) : Prop := ∀ w : World,
  (∃ w', (callFunc f args).run P w = .ok (.value u) w' ∧ Below w.heap.size w w') ∨
  (∃ g args', (callFunc f args).run P w = .ok (.enter g args') w ∧ Calls P g args' w fun e w' => e = .returned u ∧ Below w.heap.size w w')

/-- the same, of the worlds where the package variables are as they were laid -/
def CallG (P : Program) (L : Laid) (f : FuncId) (args : Array Value) (u : Value) : Prop := ∀ w : World, L.K ≤ w.heap.size → L.G w →
  (∃ w', (callFunc f args).run P w = .ok (.value u) w' ∧ Below w.heap.size w w') ∨
  (∃ g args', (callFunc f args).run P w = .ok (.enter g args') w ∧ Calls P g args' w fun e w' => e = .returned u ∧ Below w.heap.size w w')

def EArg.den (v : Env) : EArg → SArg
  | .val a => .val (a.val v)
  | .bytes l => .bytes (l.ldn v)
  | .parts ls => .parts (ls.map (I.ldn v))
  | .partsV n => .parts (v.pp n)
def ERes.den (v : Env) : ERes → SRes
  | .val a => .val (a.val v)
  | .fresh T l off len full => .fresh T (l.ldn v) (off.den v).toNat (len.den v).toNat full

theorem CallP.g {P : Program} {L : Laid} {f : FuncId} {args : Array Value} {u : Value} (h : CallP P f args u) : CallG P L f args u := fun w _ _ => h w

def Ev.holds (P : Program) (v : Env) : Ev → Prop
  | .dec b c => b.den v = c
  | .call f args res => CallG P v.L f (args.map (A.val v)).toArray (res.val v)
  | .sel n b x y => v.i n = if b.den v = true then x.den v else y.den v
  | .selB n b x y => v.b n = if b.den v = true then x.den v else y.den v
  | .selL n b x y => v.l n = if b.den v = true then x.ldn v else y.ldn v
  | .callS f args res => CallS P v.L f (args.map (EArg.den v)) (res.map (ERes.den v))
  | .rev f => Reverser P f
  | .imp b want e => b.den v = want → e.holds P v

structure Out where
  val : AV
  mems : List (Nat × Blk)
  ev : List Ev
  nv : Nat
  ora : List (Option Bool)
  deriving DecidableEq, Repr, Inhabited

def Sig.after (s : Sig) (dst : Option Nat) (o : Out) : Sig := (o.mems.foldl (fun s xb => s.setM xb.1 xb.2) s).put dst o.val

/-- operation o, from symbolic state s, does what 'out' tells -/
def Does (P : Program) (v : Env) (s : Sig) (o : Oper) (out : Out) : Prop :=
  ∀ (a : Act) (w : World) (p : Mp), RelP v s a w p → ∀ (K : Act → World → Prop) (Q : Exit → Act → World → Prop),
    (∀ a' w' q, RelP v (s.after o.dst out) a' w' q → K a' w') → o.wp P a w K Q

section
variable {P : Program} {v : Env} {s : Sig} {o : Oper}

theorem does_value {x : AV} {ev : List Ev} {nv : Nat} {ora : List (Option Bool)} (hd : ∀ d, o.dst = some d → d < s.n)
    (h : ∀ a w p, RelP v s a w p → ∃ u, (execOp a.eval o).run P w = .ok (.value u) w ∧ x.Is v p u) : Does P v s o ⟨x, [], ev, nv, ora⟩ := by
  intro a w p hr K Q hK
  obtain ⟨u, h1, h2⟩ := h a w p hr
  unfold Oper.wp
  rw [h1, Oper.upon_value]
  exact hK _ _ _ (hr.put hd h2)

/-! ### oracle -/
def decB (b : Bx) (ora : List (Option Bool)) : Bx × List Ev × List (Option Bool) :=
  match b with
  | .lit c => (.lit c, [], ora)
  | b => match ora with
    | some c :: r => (.lit c, [.dec b c], r)
    | none :: r => (b, [], r)
    | [] => (b, [], [])

theorem decB_den (b : Bx) (ora : List (Option Bool)) (h : ∀ e ∈ (decB b ora).2.1, e.holds P v) : (decB b ora).1.den v = b.den v := by
  unfold decB at *
  split
  · rfl
  · split
    · rename_i c r
      have := h (.dec b c) (by simp_all)
      simpa [Bx.den] using this.symm
    · rfl
    · rfl

def decSc (s : Sc) (ora : List (Option Bool)) : Sc × List Ev × List (Option Bool) :=
  match s with
  | .bool b => let r := decB b ora; (.bool r.1, r.2.1, r.2.2)
  | s => (s, [], ora)

theorem decSc_den (s : Sc) (ora : List (Option Bool)) (h : ∀ e ∈ (decSc s ora).2.1, e.holds P v) : (decSc s ora).1.den v = s.den v := by
  cases s with
  | int k e => rfl
  | bool b => simp only [decSc, Sc.den] at *; rw [decB_den b ora h]

def decScs : List Sc → List (Option Bool) → List Sc × List Ev × List (Option Bool)
  | [], ora => ([], [], ora)
  | s :: l, ora => let r := decSc s ora; let q := decScs l r.2.2; (r.1 :: q.1, r.2.1 ++ q.2.1, q.2.2)

theorem decScs_den : ∀ (l : List Sc) (ora : List (Option Bool)), (∀ e ∈ (decScs l ora).2.1, e.holds P v) → (decScs l ora).1.map (Sc.den v) = l.map (Sc.den v)
  | [], _, _ => rfl
  | s :: l, ora, h => by
    simp only [decScs, List.map_cons] at *
    rw [decSc_den s ora (fun e he => h e (by simp [he])), decScs_den l _ (fun e he => h e (by simp [he]))]

def decA (a : A) (ora : List (Option Bool)) : A × List Ev × List (Option Bool) :=
  match a with
  | .sc s => let r := decSc s ora; (.sc r.1, r.2.1, r.2.2)
  | .agg l => let r := decScs l ora; (.agg r.1, r.2.1, r.2.2)
  | a => (a, [], ora)

theorem decA_val (a : A) (ora : List (Option Bool)) (h : ∀ e ∈ (decA a ora).2.1, e.holds P v) : (decA a ora).1.val v = a.val v := by
  cases a with
  | sc s => simp only [decA, A.val] at *; rw [decSc_den s ora h]
  | agg l => simp only [decA, A.val] at *; rw [decScs_den l ora h]
  | _ => rfl

theorem decA_pure (a : A) (ora : List (Option Bool)) (h : a.pure = true) : (decA a ora).1.pure = true := by cases a <;> simp_all [decA, A.pure]

def decAs : List A → List (Option Bool) → List A × List Ev × List (Option Bool)
  | [], ora => ([], [], ora)
  | s :: l, ora => let r := decA s ora; let q := decAs l r.2.2; (r.1 :: q.1, r.2.1 ++ q.2.1, q.2.2)

theorem decAs_val : ∀ (l : List A) (ora : List (Option Bool)), (∀ e ∈ (decAs l ora).2.1, e.holds P v) → (decAs l ora).1.map (A.val v) = l.map (A.val v)
  | [], _, _ => rfl
  | s :: l, ora, h => by
    simp only [decAs, List.map_cons] at *
    rw [decA_val s ora (fun e he => h e (by simp [he])), decAs_val l _ (fun e he => h e (by simp [he]))]

theorem decAs_pure : ∀ (l : List A) (ora : List (Option Bool)), (∀ a ∈ l, a.pure = true) → ∀ a ∈ (decAs l ora).1, a.pure = true
  | [], _, _ => by simp [decAs]
  | s :: l, ora, h => by
    intro a ha
    simp only [decAs, List.mem_cons] at ha
    rcases ha with rfl | ha
    · exact decA_pure s ora (h s (by simp))
    · exact decAs_pure l _ (fun a ha => h a (by simp [ha])) a ha

theorem A.pure_is {a : A} (h : a.pure = true) (p : Mp) : a.Is v p (a.val v) := by cases a <;> simp_all [A.pure, A.Is, A.val]
theorem A.is_val {a : A} (h : a.pure = true) {p : Mp} {u : Value} (k : a.Is v p u) : u = a.val v := by cases a <;> simp_all [A.pure, A.Is, A.val]
theorem pures_is (p : Mp) : ∀ {l : List A}, (∀ a ∈ l, a.pure = true) → listIs v p l (l.map (A.val v))
  | [], _ => rfl
  | a :: l, h => ⟨_, _, rfl, A.pure_is (h a (by simp)) p, pures_is p fun a ha => h a (by simp [ha])⟩

/-! ### move, pick, extract, not, convert -/

theorem does_move {x : Operand} (hd : ∀ d, o.dst = some d → d < s.n) (ho : o.op = .move x ∨ o.op = .assign x) (nv ora) : Does P v s o ⟨s.ev x, [], [], nv, ora⟩ := by
  refine does_value hd fun a w p h => ⟨a.eval x, ?_, h.ev x⟩
  rcases ho with ho | ho <;> (unfold execOp; rw [ho]; rfl)

theorem does_pick {c x y : Operand} {t : Bool} (hd : ∀ d, o.dst = some d → d < s.n) (ho : o.op = .pick c x y) (hc : s.ev c = .one (.sc (.bool (.lit t)))) (nv ora) :
    Does P v s o ⟨if t then s.ev x else s.ev y, [], [], nv, ora⟩ := by
  refine does_value hd fun a w p h => ⟨if t then a.eval x else a.eval y, ?_, ?_⟩
  · have := h.ev c
    rw [hc] at this
    have hc' : a.eval c = .bool t := this
    unfold execOp
    rw [ho]
    simp [hc', asBool]
  · cases t
    · exact h.ev y
    · exact h.ev x

/-- the bool that is there when b is want -/
def boolAt (b : Bx) (want : Bool) : AV → Option Bx
  | .one (.sc (.bool x)) => some x
  | .when b' want' (.sc (.bool x)) => if b' = b ∧ want' = want then some x else none
  | _ => none

theorem boolAt_is {b : Bx} {want : Bool} {x : AV} {y : Bx} (h : boolAt b want x = some y) {p : Mp} {u : Value} (hb : b.den v = want) (k : x.Is v p u) : u = .bool (y.den v) := by
  unfold boolAt at h
  split at h
  · simp only [Option.some.injEq] at h; subst h; exact k
  · split at h
    · rename_i hc
      obtain ⟨rfl, rfl⟩ := hc
      simp only [Option.some.injEq] at h
      subst h
      exact k hb
    · cases h
  · cases h

theorem does_pick_sym {c x y : Operand} {b bx bY : Bx} (hd : ∀ d, o.dst = some d → d < s.n) (ho : o.op = .pick c x y) (hc : s.ev c = .one (.sc (.bool b))) (hx : boolAt b true (s.ev x) = some bx) (hy : boolAt b false (s.ev y) = some bY) (nv ora) :
    Does P v s o ⟨.one (.sc (.bool (Bx.ite b bx bY).fold)), [], [], nv, ora⟩ := by
  refine does_value hd fun a w p h => ⟨.bool ((Bx.ite b bx bY).den v), ?_, by show _ = _; simp [Sc.den, Bx.den_fold]⟩
  have := h.ev c
  rw [hc] at this
  have hc' : a.eval c = .bool (b.den v) := this
  unfold execOp
  rw [ho]
  simp only [hc', asBool, Sem.run_bind, Sem.run_pure, Result.andThen_ok, Bx.den]
  cases hb : b.den v with
  | true => simp [boolAt_is hx hb (h.ev x)]
  | false => simp [boolAt_is hy hb (h.ev y)]

theorem does_extract {x : Operand} {i : Nat} {l : List A} {y : A} (hd : ∀ d, o.dst = some d → d < s.n) (ho : o.op = .extract x i) (hx : s.ev x = .tup l) (hy : l[i]? = some y) (nv ora) :
    Does P v s o ⟨.one y, [], [], nv, ora⟩ := by
  refine does_value hd fun a w p h => ?_
  have := h.ev x
  rw [hx] at this
  obtain ⟨us, e, hl⟩ := this
  obtain ⟨u, h1, h2⟩ := hl.get i y hy
  refine ⟨u, ?_, h2⟩
  have h1' : us[i]? = some u := by simpa using h1
  unfold execOp
  rw [ho]
  simp [e, Instr.extract, h1']

theorem does_nilCheck {x : Operand} {y off : Nat} (hd : ∀ d, o.dst = some d → d < s.n) (ho : o.op = .nilCheck x) (hx : s.ev x = .one (.ptr y off)) (nv ora) :
    Does P v s o ⟨.one (.ptr y off), [], [], nv, ora⟩ := by
  refine does_value hd fun a w p h => ?_
  have := h.ev x
  rw [hx] at this
  obtain ⟨r, n, hp, e⟩ := this
  refine ⟨_, ?_, r, n, hp, rfl⟩
  unfold execOp
  rw [ho]
  simp [e]

def unA (op : UnOp) : Sc → Option Sc
  | .bool b => match op with | .not => some (.bool (Bx.not b).fold) | _ => none
  | .int k e => match op with
    | .neg => some (.int k (I.sub k (.lit 0) e).fold)
    | .xor => some (.int k (I.bit .xor k (.lit (if k.signed then -1 else k.max)) e).fold)
    | _ => none

theorem unA_run {op : UnOp} {x y : Sc} (h : unA op x = some y) (w : World) : (Op.unary op (x.den v)).run P w = .ok (y.den v) w := by
  cases x with
  | bool b => cases op <;> simp [unA] at h; subst h; simp [Sc.den, Op.unary, Bx.den_fold, Bx.den]
  | int k e =>
    cases op <;> simp [unA] at h
    · subst h; simp [Sc.den, Op.unary, I.den_fold, I.den, Op.intArith]
    · subst h; simp [Sc.den, Op.unary, I.den_fold, I.den, intBits_xor]

theorem does_unOp {op : UnOp} {t : TypeId} {x : Operand} {y z : Sc} (hd : ∀ d, o.dst = some d → d < s.n) (ho : o.op = .unOp op t x) (hx : s.ev x = .one (.sc y)) (hz : unA op y = some z) (nv ora) :
    Does P v s o ⟨.one (.sc z), [], [], nv, ora⟩ := by
  refine does_value hd fun a w p h => ⟨z.den v, ?_, rfl⟩
  have := h.ev x
  rw [hx] at this
  have e : a.eval x = y.den v := this
  unfold execOp
  rw [ho]
  simp [e, unA_run hz]

theorem does_convert {src dst : TypeId} {x : Operand} {k k' : IntKind} {e : I} (hd : ∀ d, o.dst = some d → d < s.n) (ho : o.op = .convert src dst x) (hx : s.ev x = .one (.sc (.int k e)))
    (hs : (P.underlying src).isSome = true) (hk : P.underlying dst = some (.int k')) (nv ora) : Does P v s o ⟨.one (.sc (.int k' (I.conv k' e).fold)), [], [], nv, ora⟩ := by
  refine does_value hd fun a w p h => ⟨.int k' (k'.wrap (e.den v)), ?_, by show Value.int k' _ = Sc.den v _; simp [Sc.den, I.den_fold, I.den]⟩
  have := h.ev x
  rw [hx] at this
  have e' : a.eval x = .int k (e.den v) := this
  have hki : P.intKind dst = k' := by simp [Program.intKind, hk]
  have hr := run_convert_int (P := P) w src dst k (e.den v) hs (by rw [hki]; exact hk)
  unfold execOp
  rw [ho]
  rw [hki] at hr
  simp [e', hr]

/-! ### comparing and reckoning -/

def intA (op : BinOp) (k : IntKind) (x y : I) : Option Sc :=
  match op with
  | .add => some (.int k (I.add k x y).fold)
  | .sub => some (.int k (I.sub k x y).fold)
  | .mul => some (.int k (I.mul k x y).fold)
  | .quo => match y with | .lit n => if n = 0 then none else some (.int k (I.quo k x y).fold) | _ => none
  | .rem => match y with | .lit n => if n = 0 then none else some (.int k (I.rem x y).fold) | _ => none
  | .and => some (.int k (I.bit .and k x y).fold)
  | .or => some (.int k (I.bit .or k x y).fold)
  | .xor => some (.int k (I.bit .xor k x y).fold)
  | .andNot => some (.int k (I.bit .andNot k x y).fold)
  | .shl => none
  | .shr => none
  | op => some (.bool (Bx.cmp op x y).fold)

theorem intA_run {op : BinOp} {k : IntKind} {x y : I} {z : Sc} (h : intA op k x y = some z) (t : TypeId) (w : World) :
    (binOp op t (.int k (x.den v)) (.int k (y.den v))).run P w = .ok (z.den v) w := by
  cases op <;> simp only [intA, Option.some.injEq] at h
  case quo =>
    split at h
    · split at h
      · cases h
      · simp only [Option.some.injEq] at h; subst h; simp [binOp_quo, Op.intDiv, Sc.den, I.den_fold, I.den, *]
    · cases h
  case rem =>
    split at h
    · split at h
      · cases h
      · simp only [Option.some.injEq] at h; subst h; simp [binOp_rem, Op.intDiv, Sc.den, I.den_fold, I.den, *]
    · cases h
  case shl => cases h
  case shr => cases h
  all_goals
    subst h
    first
      | (simp [binOp_add, binOp_sub, binOp_mul, Op.intArith, Sc.den, I.den_fold, I.den]; done)
      | (simp [binOp_and, binOp_or, binOp_xor, binOp_andNot, intBits_and, intBits_or, intBits_xor, intBits_andNot, Sc.den, I.den_fold, I.den]; done)
      | (simp [binOp_eql, binOp_neq, binOp_lss, binOp_leq, binOp_gtr, binOp_geq, Sc.den, Bx.den_fold, Bx.den, cmpD]; done)

def shEv (y : I) : Option (List Ev) :=
  match y with
  | .lit n => if n < 0 then none else some []
  | y => some [Ev.dec (.cmp .lss y (.lit 0)) false]

theorem shEv_ok {y : I} {ev : List Ev} (h : shEv y = some ev) (he : ∀ e ∈ ev, e.holds P v) : ¬ (y.den v < 0) := by
  unfold shEv at h
  split at h
  · split at h
    · cases h
    · rename_i hn; exact hn
  · simp only [Option.some.injEq] at h
    subst h
    have := he _ (List.mem_singleton.2 rfl)
    simp only [Ev.holds, Bx.den, cmpD, I.den] at this
    exact of_decide_eq_false this

def shA (op : BinOp) (k : IntKind) (x : I) (y : I) : Option (Sc × List Ev) :=
  match op, shEv y with
  | .shl, some e => some (.int k (I.shl k x y).fold, e)
  | .shr, some e => some (.int k (I.shr k x y).fold, e)
  | _, _ => none

theorem shA_run {op : BinOp} {k k' : IntKind} {x y : I} {z : Sc} {ev : List Ev} (h : shA op k x y = some (z, ev)) (he : ∀ e ∈ ev, e.holds P v) (t : TypeId) (w : World) :
    (binOp op t (.int k (x.den v)) (.int k' (y.den v))).run P w = .ok (z.den v) w := by
  unfold shA at h
  split at h
  · rename_i e hev
    simp only [Option.some.injEq, Prod.mk.injEq] at h
    obtain ⟨rfl, rfl⟩ := h
    have hy := shEv_ok hev he
    simp [binOp_shl, Op.shift, hy, Sc.den, I.den_fold, I.den]
  · rename_i e hev
    simp only [Option.some.injEq, Prod.mk.injEq] at h
    obtain ⟨rfl, rfl⟩ := h
    have hy := shEv_ok hev he
    simp [binOp_shr, Op.shift, hy, Sc.den, I.den_fold, I.den]
  · cases h

/-- a part of an aggregate -/
def partL (P : Program) (t : TypeId) (l : List Sc) (off : Nat) : List Sc := (l.drop off).take (P.cellsOf t)

def isAggT (P : Program) (t : TypeId) : Option Bool :=
  match P.underlying t with
  | some (.struct _) | some (.array _ _) => some true
  | some _ => some false
  | none => none

theorem run_isAgg {t : TypeId} {b : Bool} (h : isAggT P t = some b) (w : World) : (isAgg t).run P w = .ok b w := by
  unfold isAggT at h
  unfold isAgg
  cases hu : P.underlying t with
  | none => simp [hu] at h
  | some d =>
    rw [Sem.run_bind, run_underlying hu]
    cases d <;> simp_all

/-- the value of type t of these cells -/
def valL (P : Program) (v : Env) (t : TypeId) (l : List Sc) : Value :=
  match isAggT P t with
  | some true => .agg (l.map (Sc.den v)).toArray
  | _ => match l with | [x] => x.den v | _ => undef

theorem run_partL {t : TypeId} {l : List Sc} {off : Nat} {i : TypeInfo} {b : Bool} (hi : P.info? t = some i) (hb : isAggT P t = some b) (hl : off + P.cellsOf t ≤ l.length) (h1 : b = false → P.cellsOf t = 1) (w : World) :
    (part t (l.map (Sc.den v)).toArray off).run P w = .ok (valL P v t (partL P t l off)) w := by
  unfold part
  rw [Sem.run_bind, run_isAgg hb]
  cases b with
  | true =>
    simp only [Result.andThen_ok, if_true, Sem.run_bind, run_sizeOf w hi, Sem.run_pure]
    congr 1
    simp only [valL, hb, partL]
    congr 1
    apply Array.ext'
    simp [List.map_drop, List.map_take]
  | false =>
    have h1' := h1 rfl
    have hlt : off < l.length := by omega
    have hg : (l.map (Sc.den v)).toArray[off]? = some (l[off].den v) := by simp [hlt]
    have hp : partL P t l off = [l[off]] := by
      unfold partL
      rw [h1', List.drop_eq_getElem_cons hlt]
      rfl
    simp only [Result.andThen_ok, Bool.false_eq_true, if_false, hg, Sem.run_pure, valL, hb, hp]

/-- are these two equal? -/
def eqI (P : Program) (e : TypeId) (rec : List Sc → List Sc → Option Bx) (xs ys : List Sc) : List Nat → Option Bx
  | [] => some (.lit true)
  | i :: is =>
    if i * P.cellsOf e + P.cellsOf e ≤ xs.length ∧ i * P.cellsOf e + P.cellsOf e ≤ ys.length then
      match rec (partL P e xs (i * P.cellsOf e)) (partL P e ys (i * P.cellsOf e)), eqI P e rec xs ys is with
      | some a, some b => some (Bx.and a b).fold
      | _, _ => none
    else none

def eqF (P : Program) (rec : TypeId → List Sc → List Sc → Option Bx) (xs ys : List Sc) : List Field → Option Bx
  | [] => some (.lit true)
  | f :: fs =>
    if f.name ≠ "_" ∧ f.offset + P.cellsOf f.type ≤ xs.length ∧ f.offset + P.cellsOf f.type ≤ ys.length ∧ (isAggT P f.type = some true ∨ isAggT P f.type = some false ∧ P.cellsOf f.type = 1) ∧ (P.info? f.type).isSome then
      match rec f.type (partL P f.type xs f.offset) (partL P f.type ys f.offset), eqF P rec xs ys fs with
      | some a, some b => some (Bx.and a b).fold
      | _, _ => none
    else none

def eqT (P : Program) : Nat → TypeId → List Sc → List Sc → Option Bx
  | 0, _, _, _ => none
  | d + 1, t, xs, ys =>
    match P.underlying t with
    | some .bool => match xs, ys with | [.bool a], [.bool b] => some (Bx.beq a b).fold | _, _ => none
    | some (.int _) => match xs, ys with | [.int k a], [.int k' b] => if k = k' then some (Bx.cmp .eql a b).fold else none | _, _ => none
    | some (.array n e) =>
      if (isAggT P e = some true ∨ isAggT P e = some false ∧ P.cellsOf e = 1) ∧ (P.info? e).isSome then eqI P e (eqT P d e) xs ys (List.range n) else none
    | some (.struct _) => if P.stoodInHeld t then none else eqF P (eqT P d) xs ys (P.fieldsOf t).toList
    | _ => none

theorem run_eqI (d : Nat) {e : TypeId} (he : (isAggT P e = some true ∨ isAggT P e = some false ∧ P.cellsOf e = 1)) {i : TypeInfo} (hi : P.info? e = some i)
    (ih : ∀ xs ys b, eqT P d e xs ys = some b → ∀ w, (Op.equalIn d e (valL P v e xs) (valL P v e ys)).run P w = .ok (b.den v) w) (xs ys : List Sc) :
    ∀ (is : List Nat) (b : Bx), eqI P e (eqT P d e) xs ys is = some b → ∀ w, (Op.eqItems d e (P.cellsOf e) (xs.map (Sc.den v)).toArray (ys.map (Sc.den v)).toArray is).run P w = .ok (b.den v) w
  | [], b, h, w => by
    simp only [eqI, Option.some.injEq] at h
    subst h
    simp [Op.eqItems, Bx.den]
  | j :: is, b, h, w => by
    simp only [eqI] at h
    split at h
    · rename_i hlen
      split at h
      · rename_i x y hx hy
        simp only [Option.some.injEq] at h
        subst h
        obtain ⟨bb, hb, hb1⟩ : ∃ bb, isAggT P e = some bb ∧ (bb = false → P.cellsOf e = 1) := by
          rcases he with he | ⟨he, h1⟩
          · exact ⟨true, he, by simp⟩
          · exact ⟨false, he, fun _ => h1⟩
        simp only [Op.eqItems, Sem.run_bind, run_partL hi hb hlen.1 hb1, run_partL hi hb hlen.2 hb1, Result.andThen_ok, ih _ _ _ hx]
        rw [Bx.den_fold]
        simp only [Bx.den]
        cases hxv : x.den v
        · simp
        · simp [run_eqI d he hi ih xs ys is y hy]
      · cases h
    · cases h

theorem run_eqF (d : Nat) (ih : ∀ t xs ys b, eqT P d t xs ys = some b → ∀ w, (Op.equalIn d t (valL P v t xs) (valL P v t ys)).run P w = .ok (b.den v) w) (xs ys : List Sc) :
    ∀ (fs : List Field) (b : Bx), eqF P (eqT P d) xs ys fs = some b → ∀ w, (Op.eqFields d (xs.map (Sc.den v)).toArray (ys.map (Sc.den v)).toArray fs).run P w = .ok (b.den v) w
  | [], b, h, w => by
    simp only [eqF, Option.some.injEq] at h
    subst h
    simp [Op.eqFields, Bx.den]
  | f :: fs, b, h, w => by
    simp only [eqF] at h
    split at h
    · rename_i hc
      obtain ⟨hn, hlx, hly, he, hinf⟩ := hc
      obtain ⟨i, hi⟩ := Option.isSome_iff_exists.1 hinf
      split at h
      · rename_i x y hx hy
        simp only [Option.some.injEq] at h
        subst h
        obtain ⟨bb, hb, hb1⟩ : ∃ bb, isAggT P f.type = some bb ∧ (bb = false → P.cellsOf f.type = 1) := by
          rcases he with he | ⟨he, h1⟩
          · exact ⟨true, he, by simp⟩
          · exact ⟨false, he, fun _ => h1⟩
        simp only [Op.eqFields, hn, ne_eq, not_false_eq_true, if_true, Sem.run_bind, run_partL hi hb hlx hb1, run_partL hi hb hly hb1, Result.andThen_ok, ih _ _ _ _ hx]
        rw [Bx.den_fold]
        simp only [Bx.den]
        cases hxv : x.den v
        · simp
        · simp [run_eqF d ih xs ys fs y hy]
      · cases h
    · cases h

theorem run_eqT : ∀ (d : Nat) (t : TypeId) (xs ys : List Sc) (b : Bx), eqT P d t xs ys = some b → ∀ w, (Op.equalIn d t (valL P v t xs) (valL P v t ys)).run P w = .ok (b.den v) w
  | 0, _, _, _, _, h, _ => by simp [eqT] at h
  | d + 1, t, xs, ys, b, h, w => by
    simp only [eqT] at h
    split at h
    · rename_i hu
      split at h
      · simp only [Option.some.injEq] at h
        subst h
        simp only [valL, isAggT, hu, Sc.den]
        rw [run_equalIn_bool w d t _ _ hu, Bx.den_fold]
        rfl
      · cases h
    · rename_i kk hu
      split at h
      · split at h
        · rename_i hk
          simp only [Option.some.injEq] at h
          subst h
          subst hk
          simp only [valL, isAggT, hu, Sc.den]
          rw [run_equalIn_int w d t _ _ _ _ hu, Bx.den_fold]
          rfl
        · cases h
      · cases h
    · rename_i n e hu
      split at h
      · rename_i hc
        obtain ⟨he, hinf⟩ := hc
        obtain ⟨i, hi⟩ := Option.isSome_iff_exists.1 hinf
        simp only [valL, isAggT, hu]
        rw [run_equalIn_array w d _ _ hu hi]
        exact run_eqI d he hi (fun xs ys b hb w => run_eqT d e xs ys b hb w) xs ys _ b h w
      · cases h
    · rename_i fs hu
      split at h
      · cases h
      · rename_i hst
        have hfs : P.fieldsOf t = fs := by simp [Program.fieldsOf, hu]
        simp only [valL, isAggT, hu]
        rw [run_equalIn_struct w d t _ _ (by rw [hfs]; exact hu) (by simpa using hst)]
        exact run_eqF d (fun t xs ys b hb w => run_eqT d t xs ys b hb w) xs ys _ b h w
    · cases h

end
end Go.Sx
