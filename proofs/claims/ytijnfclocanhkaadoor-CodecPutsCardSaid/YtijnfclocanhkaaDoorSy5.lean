/- Symbolic operations: comparing values, calls; one function for all operations. -/
import Derived.Test.YtijnfclocanhkaaDoorSyU
set_option linter.unusedVariables false
set_option linter.unusedSimpArgs false
namespace Go.Sx
open Go Go.RowKit

section
variable {P : Program} {v : Env} {s : Sig} {o : Oper}

/-! ### binary operations -/
def eqA (P : Program) (t : TypeId) (x y : A) : Option Bx :=
  match x, y with
  | .sc (.bool a), .sc (.bool b) => match P.underlying t with | some .bool => some (Bx.beq a b).fold | _ => none
  | .agg xs, .agg ys => if P.eqGuardType P.depth t = false ∧ isAggT P t = some true then eqT P 10000 t xs ys else none
  | .slc _ _ _ _, .nils => match P.underlying t with | some (.slice _) => some (.lit false) | _ => none
  | .nils, .nils => match P.underlying t with | some (.slice _) => some (.lit true) | _ => none
  | .imm _ (some nl), .nils => match P.underlying t with | some (.slice _) => some nl | _ => none
  | _, _ => none

def binA (P : Program) (op : BinOp) (t : TypeId) (x y : A) : Option (A × List Ev) :=
  match x, y with
  | .sc (.int k a), .sc (.int k' b) =>
    match op with
    | .shl => (shA .shl k a b).map fun r => (.sc r.1, r.2)
    | .shr => (shA .shr k a b).map fun r => (.sc r.1, r.2)
    | op => if k = k' then (intA op k a b).map fun r => (.sc r, []) else none
  | x, y =>
    match op with
    | .eql => (eqA P t x y).map fun b => (.sc (.bool b), [])
    | .neq => (eqA P t x y).map fun b => (.sc (.bool (Bx.not b).fold), [])
    | _ => none

theorem equal_slice_nil {t e : TypeId} (hu : P.underlying t = some (.slice e)) (d : Nat) (a : Addr) (n c : Nat) (w : World) : (Op.equalIn (d + 1) t (.slice (some a) n c) (.slice none 0 0)).run P w = .ok false w := by
  simp only [Op.equalIn, Sem.run_bind, run_underlying hu, Result.andThen_ok]
  rfl
theorem equal_nil_nil {t e : TypeId} (hu : P.underlying t = some (.slice e)) (d : Nat) (w : World) : (Op.equalIn (d + 1) t (.slice none 0 0) (.slice none 0 0)).run P w = .ok true w := by
  simp only [Op.equalIn, Sem.run_bind, run_underlying hu, Result.andThen_ok]
  rfl

theorem equal_any_nil {t e : TypeId} (hu : P.underlying t = some (.slice e)) (d : Nat) (b : Option Addr) (n c : Nat) (w : World) : (Op.equalIn (d + 1) t (.slice b n c) (.slice none 0 0)).run P w = .ok b.isNone w := by
  cases b with
  | none => simp only [Op.equalIn, Sem.run_bind, run_underlying hu, Result.andThen_ok]; rfl
  | some a => simp only [Op.equalIn, Sem.run_bind, run_underlying hu, Result.andThen_ok]; rfl

theorem eqA_run {t : TypeId} {x y : A} {b : Bx} (h : eqA P t x y = some b) (p : Mp) (u u' : Value) (hx : x.Is v p u) (hy : y.Is v p u') (xo yo : Operand) (op : BinOp) (hop : op = .eql ∨ op = .neq) (w : World) :
    (eqGuard op t xo yo u u').run P w = .ok () w ∧ (Op.equal t u u').run P w = .ok (b.den v) w ∧ (∀ z : Bool, binOp op t u u' = (if op = .eql then (do pure (.bool (← Op.equal t u u'))) else (do pure (.bool (!(← Op.equal t u u')))) : Sem Value)) := by
  unfold eqA at h
  split at h
  · rename_i a b'
    rw [show u = .bool (a.den v) from hx, show u' = .bool (b'.den v) from hy]
    split at h
    · rename_i hu
      simp only [Option.some.injEq] at h
      subst h
      refine ⟨by rw [eqGuard_at_bool]; rfl, ?_, fun _ => ?_⟩
      · rw [Bx.den_fold]
        exact run_equalIn_bool w 9999 t _ _ hu
      · rcases hop with rfl | rfl <;> rfl
    · cases h
  · rename_i xs ys
    split at h
    · rename_i hg
      rw [show u = .agg _ from hx, show u' = .agg _ from hy]
      have hr := run_eqT (v := v) 10000 t _ _ b h w
      simp only [valL, hg.2] at hr
      refine ⟨?_, hr, fun _ => ?_⟩
      · rcases hop with rfl | rfl <;> simp [eqGuard, hg.1]
      · rcases hop with rfl | rfl <;> rfl
    · cases h
  · rename_i m off len cap
    split at h
    · rename_i e hu
      simp only [Option.some.injEq] at h
      subst h
      obtain ⟨r, n, _, _, rfl, _⟩ := hx
      rw [show u' = .slice none 0 0 from hy]
      refine ⟨by rw [eqGuard_at_slice]; rfl, ?_, fun _ => ?_⟩
      · exact equal_slice_nil hu 9999 _ _ _ w
      · rcases hop with rfl | rfl <;> rfl
    · cases h
  · split at h
    · rename_i e hu
      simp only [Option.some.injEq] at h
      subst h
      rw [show u = .slice none 0 0 from hx, show u' = .slice none 0 0 from hy]
      refine ⟨by rw [eqGuard_at_slice]; rfl, ?_, fun _ => ?_⟩
      · exact equal_nil_nil hu 9999 w
      · rcases hop with rfl | rfl <;> rfl
    · cases h
  · rename_i l nl
    split at h
    · rename_i e hu
      simp only [Option.some.injEq] at h
      subst h
      obtain ⟨⟨ba, c, rfl, _⟩, hnl⟩ := hx
      rw [show u' = .slice none 0 0 from hy]
      refine ⟨by rw [eqGuard_at_slice]; rfl, ?_, fun _ => ?_⟩
      · have := equal_any_nil hu 9999 ba (l.ldn v).length c w
        rw [← hnl _ rfl]
        cases ba <;> exact this
      · rcases hop with rfl | rfl <;> rfl
    · cases h
  · cases h

theorem eqGuard_other {op : BinOp} (h1 : op ≠ .eql) (h2 : op ≠ .neq) (t : TypeId) (x y : Operand) (u u' : Value) : eqGuard op t x y u u' = pure () := by
  cases op <;> first | rfl | contradiction

theorem binA_run {op : BinOp} {t : TypeId} {x y z : A} {ev : List Ev} (h : binA P op t x y = some (z, ev)) (he : ∀ e ∈ ev, e.holds P v) (p : Mp) (u u' : Value) (hx : x.Is v p u) (hy : y.Is v p u') (xo yo : Operand) (w : World) :
    ∃ r, (do eqGuard op t xo yo u u'; binOp op t u u' : Sem Value).run P w = .ok r w ∧ z.Is v p r := by
  have hother : ∀ (b : Bx), eqA P t x y = some b → (op = .eql ∧ z = .sc (.bool b)) ∨ (op = .neq ∧ z = .sc (.bool (Bx.not b).fold)) →
      ∃ r, (do eqGuard op t xo yo u u'; binOp op t u u' : Sem Value).run P w = .ok r w ∧ z.Is v p r := by
    intro b hb hz
    rcases hz with ⟨rfl, rfl⟩ | ⟨rfl, rfl⟩
    · obtain ⟨h1, h2, h3⟩ := eqA_run (v := v) hb p u u' hx hy xo yo .eql (.inl rfl) w
      have h4 := h3 true
      simp only [if_true] at h4
      exact ⟨.bool (b.den v), by simp only [Sem.run_bind, h1, Result.andThen_ok, h4, h2, Sem.run_pure], rfl⟩
    · obtain ⟨h1, h2, h3⟩ := eqA_run (v := v) hb p u u' hx hy xo yo .neq (.inr rfl) w
      have h4 := h3 true
      simp only [reduceCtorEq, if_false] at h4
      exact ⟨.bool (!(b.den v)), by simp only [Sem.run_bind, h1, Result.andThen_ok, h4, h2, Sem.run_pure], by show _ = _; simp [Sc.den, Bx.den_fold, Bx.den]⟩
  unfold binA at h
  split at h
  · rename_i k a k' b
    rw [show u = .int k (a.den v) from hx, show u' = .int k' (b.den v) from hy]
    split at h
    · simp only [Option.map_eq_some_iff] at h
      obtain ⟨⟨r, ev'⟩, hr, hz⟩ := h
      simp only [Prod.mk.injEq] at hz
      obtain ⟨rfl, rfl⟩ := hz
      exact ⟨r.den v, by simp only [Sem.run_bind, eqGuard_shl, Sem.run_pure, Result.andThen_ok, shA_run hr he], rfl⟩
    · simp only [Option.map_eq_some_iff] at h
      obtain ⟨⟨r, ev'⟩, hr, hz⟩ := h
      simp only [Prod.mk.injEq] at hz
      obtain ⟨rfl, rfl⟩ := hz
      exact ⟨r.den v, by simp only [Sem.run_bind, eqGuard_shr, Sem.run_pure, Result.andThen_ok, shA_run hr he], rfl⟩
    · split at h
      · rename_i hk
        subst hk
        simp only [Option.map_eq_some_iff] at h
        obtain ⟨r, hr, hz⟩ := h
        simp only [Prod.mk.injEq] at hz
        obtain ⟨rfl, rfl⟩ := hz
        exact ⟨r.den v, by simp only [Sem.run_bind, eqGuard_at_int, Sem.run_pure, Result.andThen_ok, intA_run hr], rfl⟩
      · cases h
  · split at h
    · simp only [Option.map_eq_some_iff] at h
      obtain ⟨b, hb, hz⟩ := h
      simp only [Prod.mk.injEq] at hz
      obtain ⟨rfl, rfl⟩ := hz
      exact hother b hb (.inl ⟨rfl, rfl⟩)
    · simp only [Option.map_eq_some_iff] at h
      obtain ⟨b, hb, hz⟩ := h
      simp only [Prod.mk.injEq] at hz
      obtain ⟨rfl, rfl⟩ := hz
      exact hother b hb (.inr ⟨rfl, rfl⟩)
    · cases h

theorem decA_is {a : A} {ora : List (Option Bool)} (h : ∀ e ∈ (decA a ora).2.1, e.holds P v) {p : Mp} {u : Value} (k : a.Is v p u) : (decA a ora).1.Is v p u := by
  cases a with
  | sc s => simp only [decA] at *; show u = _; rw [decSc_den s ora h]; exact k
  | agg l => simp only [decA] at *; show u = _; rw [decScs_den l ora h]; exact k
  | _ => exact k

theorem does_binOp {op : BinOp} {t yt : TypeId} {x y : Operand} {a b c : A} {ev : List Ev} {ora : List (Option Bool)} (hd : ∀ d, o.dst = some d → d < s.n) (ho : o.op = .binOp op t x y yt) (hx : s.ev x = .one a) (hy : s.ev y = .one b)
    (h : binA P op t a b = some (c, ev)) (he : ∀ e ∈ ev ++ (decA c ora).2.1, e.holds P v) (nv) : Does P v s o ⟨.one (decA c ora).1, [], ev ++ (decA c ora).2.1, nv, (decA c ora).2.2⟩ := by
  refine does_value hd fun ac w p hr => ?_
  have hxx := hr.ev x
  rw [hx] at hxx
  have hyy := hr.ev y
  rw [hy] at hyy
  obtain ⟨r, h1, h2⟩ := binA_run h (fun e hm => he e (by simp [hm])) p _ _ hxx hyy x y w
  refine ⟨r, ?_, decA_is (fun e hm => he e (by simp [hm])) h2⟩
  unfold execOp
  rw [ho]
  simp only [Sem.run_bind] at h1 ⊢
  simp only [h1, Result.andThen_ok, Sem.run_pure]

/-! ### calls -/
def freshScs (nv : Nat) : List Sc → List Sc × Nat
  | [] => ([], nv)
  | .int k _ :: l => let r := freshScs (nv + 1) l; (.int k (.var nv) :: r.1, r.2)
  | .bool _ :: l => let r := freshScs (nv + 1) l; (.bool (.var nv) :: r.1, r.2)

def freshA (P : Program) (nv : Nat) (t : TypeId) : Option (A × Nat) :=
  match zeroA P t with
  | some (.sc (.int k _)) => some (.sc (.int k (.var nv)), nv + 1)
  | some (.sc (.bool _)) => some (.sc (.bool (.var nv)), nv + 1)
  | some (.agg l) => let r := freshScs nv l; some (.agg r.1, r.2)
  | _ => none

def freshAs (P : Program) (nv : Nat) : List TypeId → Option (List A × Nat)
  | [] => some ([], nv)
  | t :: l => match freshA P nv t with
    | some (a, n) => match freshAs P n l with | some (r, m) => some (a :: r, m) | none => none
    | none => none

theorem freshA_pure {nv m : Nat} {t : TypeId} {a : A} (h : freshA P nv t = some (a, m)) : a.pure = true := by
  unfold freshA at h
  split at h <;> simp at h <;> (obtain ⟨rfl, _⟩ := h; rfl)

theorem freshAs_pure : ∀ {l : List TypeId} {nv m : Nat} {r : List A}, freshAs P nv l = some (r, m) → ∀ a ∈ r, a.pure = true
  | [], nv, m, r, h => by simp [freshAs] at h; obtain ⟨rfl, _⟩ := h; simp
  | t :: l, nv, m, r, h => by
    simp only [freshAs] at h
    cases h1 : freshA P nv t with
    | none => simp [h1] at h
    | some q =>
      obtain ⟨a, n⟩ := q
      simp only [h1] at h
      cases h2 : freshAs P n l with
      | none => simp [h2] at h
      | some q2 =>
        obtain ⟨r2, m2⟩ := q2
        simp only [h2, Option.some.injEq, Prod.mk.injEq] at h
        obtain ⟨rfl, rfl⟩ := h
        intro b hb
        cases hb with
        | head => exact freshA_pure h1
        | tail _ hb => exact freshAs_pure h2 b hb

/-- the result of a call: what the contract says (ev), and as it is known behind the oracle -/
def resA (l : List A) : AV := match l with | [a] => .one a | l => .tup l

theorem resA_is {l : List A} (h : ∀ a ∈ l, a.pure = true) (p : Mp) : (resA l).Is v p ((resA l).val v) := by
  unfold resA
  split
  · exact A.pure_is (h _ (by simp)) p
  · exact ⟨_, rfl, by simpa using pures_is p h⟩

theorem resA_val {l m : List A} (h : l.map (A.val v) = m.map (A.val v)) : (resA l).val v = (resA m).val v := by
  have hl : l.length = m.length := by simpa using congrArg List.length h
  unfold resA
  match l, m, hl with
  | [], [], _ => rfl
  | [a], [b], _ => simpa [AV.val] using h
  | a :: b :: l, c :: d :: m, _ => simp only [AV.val, h]

def argsA (s : Sig) : List Operand → Option (List A)
  | [] => some []
  | x :: l => match s.ev x, argsA s l with | .one a, some r => if a.pure then some (a :: r) else none | _, _ => none

theorem argsA_is {a : Act} {w : World} {p : Mp} (h : RelP v s a w p) : ∀ (l : List Operand) (r : List A), argsA s l = some r → l.map a.eval = r.map (A.val v)
  | [], r, hr => by simp only [argsA, Option.some.injEq] at hr; subst hr; rfl
  | x :: l, r, hr => by
    simp only [argsA] at hr
    split at hr
    · rename_i y r' hy hr'
      split at hr
      · rename_i hp
        simp only [Option.some.injEq] at hr
        subst hr
        have := h.ev x
        rw [hy] at this
        simp only [List.map_cons, A.is_val hp this, argsA_is h l r' hr']
      · cases hr
    · cases hr

theorem does_call {c : Call} {f : FuncId} {as r : List A} {m nv : Nat} {ts : List TypeId} {ora : List (Option Bool)} (hd : ∀ d, o.dst = some d → d < s.n) (ho : o.op = .call c) (hf : c.callee = .value (.func f)) (has : argsA s c.args.toList = some as)
    (hr : freshAs P nv ts = some (r, m)) (he : ∀ e ∈ Ev.call f as (resA r) :: (decAs r ora).2.1, e.holds P v) :
    Does P v s o ⟨resA (decAs r ora).1, [], Ev.call f as (resA r) :: (decAs r ora).2.1, m, (decAs r ora).2.2⟩ := by
  intro a w p h K Q hK
  have hcall : CallG P v.L f (as.map (A.val v)).toArray ((resA r).val v) := he _ (List.mem_cons_self ..)
  have hval : (resA (decAs r ora).1).val v = (resA r).val v := resA_val (decAs_val r ora fun e hm => he e (List.mem_cons_of_mem _ hm))
  have hpure := decAs_pure r ora (freshAs_pure hr)
  have hargs : c.args.map a.eval = (as.map (A.val v)).toArray := by
    apply Array.ext'
    simpa using argsA_is h _ _ has
  have hrun : (execOp a.eval o).run P w = (callFunc f (as.map (A.val v)).toArray).run P w := by
    unfold execOp
    rw [ho]
    simp [resolve, hf, hargs, Deferred.ofValue, Act.eval, invoke]
  have hK' : ∀ w', Below w.heap.size w w' → K (a.put o.dst ((resA r).val v)) w' := fun w' hb => by
    refine hK _ _ _ ((h.world hb).put hd ?_)
    rw [← hval]
    exact resA_is hpure p
  unfold Oper.wp
  rw [hrun]
  rcases hcall w h.laid.1 h.laid.2 with ⟨w', h1, h2⟩ | ⟨g, args', h1, h2⟩
  · rw [h1, Oper.upon_value]
    exact hK' w' h2
  · rw [h1, Oper.upon_enter]
    refine h2.mono fun e w' ⟨h3, h4⟩ => ?_
    subst h3
    exact hK' w' h4

theorem does_callFn {c : Call} {g : Nat} {f : FuncId} {recv : List Sc} {as r : List A} {m nv : Nat} {ts : List TypeId} {ora : List (Option Bool)} (hd : ∀ d, o.dst = some d → d < s.n) (ho : o.op = .call c) (hf : c.callee = .value (.tmp g)) (hfn : s.fr g = .one (.fn f recv)) (has : argsA s c.args.toList = some as)
    (hr : freshAs P nv ts = some (r, m)) (he : ∀ e ∈ Ev.call f (.agg recv :: as) (resA r) :: (decAs r ora).2.1, e.holds P v) :
    Does P v s o ⟨resA (decAs r ora).1, [], Ev.call f (.agg recv :: as) (resA r) :: (decAs r ora).2.1, m, (decAs r ora).2.2⟩ := by
  intro a w p h K Q hK
  have hcall : CallG P v.L f ((A.agg recv :: as).map (A.val v)).toArray ((resA r).val v) := he _ (List.mem_cons_self ..)
  have hval : (resA (decAs r ora).1).val v = (resA r).val v := resA_val (decAs_val r ora fun e hm => he e (List.mem_cons_of_mem _ hm))
  have hpure := decAs_pure r ora (freshAs_pure hr)
  have hargs : c.args.map a.eval = (as.map (A.val v)).toArray := by
    apply Array.ext'
    simpa using argsA_is h _ _ has
  have hg := h.frame g
  rw [hfn] at hg
  have hg' : a.tmps.getD g undef = .func (.func f) #[.agg (recv.map (Sc.den v)).toArray] #[] := hg
  have hall : #[Value.agg (recv.map (Sc.den v)).toArray] ++ (as.map (A.val v)).toArray = ((A.agg recv :: as).map (A.val v)).toArray := by
    apply Array.ext'
    simp [A.val]
  have hrun : (execOp a.eval o).run P w = (callFunc f ((A.agg recv :: as).map (A.val v)).toArray).run P w := by
    unfold execOp
    rw [ho]
    simp only [resolve, hf, hargs, Act.eval, hg', Deferred.ofValue, Sem.run_bind, Sem.run_pure, Result.andThen_ok, invoke, hall, Array.append_empty]
  have hK' : ∀ w', Below w.heap.size w w' → K (a.put o.dst ((resA r).val v)) w' := fun w' hb => by
    refine hK _ _ _ ((h.world hb).put hd ?_)
    rw [← hval]
    exact resA_is hpure p
  unfold Oper.wp
  rw [hrun]
  rcases hcall w h.laid.1 h.laid.2 with ⟨w', h1, h2⟩ | ⟨g, args', h1, h2⟩
  · rw [h1, Oper.upon_value]
    exact hK' w' h2
  · rw [h1, Oper.upon_enter]
    refine h2.mono fun e w' ⟨h3, h4⟩ => ?_
    subst h3
    exact hK' w' h4

theorem does_makeFunc {f : FuncId} {x : Operand} {first captured : Array Operand} {l : List Sc} (hd : ∀ d, o.dst = some d → d < s.n) (ho : o.op = .makeFunc (.func f) first captured) (hfi : first = #[x]) (hca : captured = #[]) (hx : s.ev x = .one (.agg l)) (nv ora) :
    Does P v s o ⟨.one (.fn f l), [], [], nv, ora⟩ := by
  refine does_value hd fun a w p h => ⟨.func (.func f) #[.agg (l.map (Sc.den v)).toArray] #[], ?_, rfl⟩
  have := h.ev x
  rw [hx] at this
  have ex : a.eval x = .agg (l.map (Sc.den v)).toArray := this
  unfold execOp
  rw [ho]
  simp [hfi, hca, ex, Instr.makeFunc]

theorem does_len {c : Call} {x : Operand} {t e : TypeId} {m off n : Nat} {cap : Option Nat} (hd : ∀ d, o.dst = some d → d < s.n) (ho : o.op = .call c) (hf : c.callee = .builtin .len) (hx : c.args = #[x]) (ht : c.argTypes[0]? = some t) (hu : P.underlying t = some (.slice e))
    (he : s.ev x = .one (.slc m off n cap)) (nv ora) : Does P v s o ⟨.one (.sc (.int .i64 (.lit n))), [], [], nv, ora⟩ := by
  refine does_value hd fun a w p h => ⟨.int .i64 n, ?_, rfl⟩
  have hxx := h.ev x
  rw [he] at hxx
  obtain ⟨r, n', hp, hn, ex, hcap⟩ := hxx
  unfold execOp
  rw [ho]
  simp [resolve, hf, hx, ex, invoke, builtin, Builtin.len_, ht, run_underlying hu, goInt]

theorem does_len_nil {c : Call} {x : Operand} {t e : TypeId} (hd : ∀ d, o.dst = some d → d < s.n) (ho : o.op = .call c) (hf : c.callee = .builtin .len) (hx : c.args = #[x]) (ht : c.argTypes[0]? = some t) (hu : P.underlying t = some (.slice e))
    (he : s.ev x = .one .nils) (nv ora) : Does P v s o ⟨.one (.sc (.int .i64 (.lit 0))), [], [], nv, ora⟩ := by
  refine does_value hd fun a w p h => ⟨.int .i64 0, ?_, rfl⟩
  have hxx := h.ev x
  rw [he] at hxx
  have ex : a.eval x = .slice none 0 0 := hxx
  unfold execOp
  rw [ho]
  simp [resolve, hf, hx, ex, invoke, builtin, Builtin.len_, ht, run_underlying hu, goInt]

end
end Go.Sx
