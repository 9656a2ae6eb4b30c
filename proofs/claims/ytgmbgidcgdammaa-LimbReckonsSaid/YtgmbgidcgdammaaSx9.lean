/- Symbolic runs of code and of functions. -/
import Derived.Test.YtgmbgidcgdammaaSx8
import Derived.Scope
namespace Go.Sx
open Go Go.RowKit

inductive Ex where
  | normal
  | exit (id : Nat)
  | ret
  deriving DecidableEq, Repr, Inhabited

def Ex.to : Ex → Exit
  | .normal => .normal
  | .exit id => .exit id
  | .ret => .ret

def putAll (l : List AV) : List (Nat × AV) → Option (List AV)
  | [] => some l
  | (d, x) :: r => if d < l.length then putAll (l.set d x) r else none

/-- the state behind a loop, by its summary -/
def Fm.loop (m : Fm) (s : LSum) : Option Fm :=
  match putAll m.fr s.fr, setMems m.mem s.mem with
  | some f, some l => some ⟨f, l, m.gl⟩
  | _, _ => none

def codeSt (P : Program) : Nat → Bool → Code → St → Option (Ex × St)
  | 0, _, _, _ => none
  | n + 1, again, c, st =>
    match c with
    | .skip => some (.normal, st)
    | .region _ ops draw =>
      match draw with
      | true => match drawSt P ops st with | some st' => some (.normal, st') | none => none
      | false => match seqSt P ops ops.toList st with | some st' => some (.normal, st') | none => none
    | .seq a b => match codeSt P n false a st with
      | some (.normal, st') => codeSt P n false b st'
      | r => r
    | .cond c x y => match st.fm.sig.ev c with
      | .one (.sc (.bool (.lit true))) => codeSt P n false x st
      | .one (.sc (.bool (.lit false))) => codeSt P n false y st
      | _ => none
    | .block id b => match codeSt P n false b st with
      | some (.exit i, st') => if i = id then some (.normal, st') else some (.exit i, st')
      | r => r
    | .loop b =>
      match again, st.sums with
      | false, some s :: r => match st.fm.loop s with
        | some fm => some (.exit s.id, { st with fm := fm, nv := s.nv, sums := r, lev := st.lev ++ [⟨b, st.fm, fm, s.id⟩] })
        | none => none
      | false, none :: r => match codeSt P n false b { st with sums := r } with
        | some (.normal, st') => codeSt P n true (.loop b) st'
        | r => r
      | _, _ => match codeSt P n false b st with
        | some (.normal, st') => codeSt P n true (.loop b) st'
        | r => r
    | .exit id => some (.exit id, st)
    | .ret => some (.ret, st)
    | _ => none

section
variable {P : Program} {v : Env} {B : Nat} {w0 : World}

def grows (s t : St) : Prop := (∃ r, t.ev = s.ev ++ r) ∧ (∃ r, t.lev = s.lev ++ r)
theorem grows.refl (s : St) : grows s s := ⟨⟨[], by simp⟩, ⟨[], by simp⟩⟩
theorem grows.trans {a b c : St} (h : grows a b) (k : grows b c) : grows a c := by
  obtain ⟨⟨r1, h1⟩, ⟨r2, h2⟩⟩ := h
  obtain ⟨⟨r3, h3⟩, ⟨r4, h4⟩⟩ := k
  exact ⟨⟨r1 ++ r3, by rw [h3, h1, List.append_assoc]⟩, ⟨r2 ++ r4, by rw [h4, h2, List.append_assoc]⟩⟩

theorem codeSt_grows : ∀ (n : Nat) (again : Bool) (c : Code) (st st' : St) (e : Ex), codeSt P n again c st = some (e, st') → grows st st'
  | 0, _, _, _, _, _, h => by simp [codeSt] at h
  | n + 1, again, c, st, st', e, h => by
    unfold codeSt at h
    split at h
    · simp only [Option.some.injEq, Prod.mk.injEq] at h; obtain ⟨_, rfl⟩ := h; exact grows.refl _
    · split at h
      · split at h
        · rename_i st1 h1
          simp only [Option.some.injEq, Prod.mk.injEq] at h
          obtain ⟨_, rfl⟩ := h
          unfold drawSt at h1
          split at h1
          · rename_i tr st2 htr
            split at h1
            · simp only [Option.some.injEq] at h1
              subst h1
              obtain ⟨_, ⟨k1, k2⟩, _⟩ := trSt_spec _ _ _ _ htr
              exact ⟨k1, ⟨[], by simp [k2]⟩⟩
            · cases h1
          · cases h1
        · cases h
      · split at h
        · rename_i st1 h1
          simp only [Option.some.injEq, Prod.mk.injEq] at h
          obtain ⟨_, rfl⟩ := h
          obtain ⟨k1, k2⟩ := seqSt_ev _ _ _ h1
          exact ⟨k1, ⟨[], by simp [k2]⟩⟩
        · cases h
    · split at h
      · rename_i st1 h1
        exact (codeSt_grows n _ _ _ _ _ h1).trans (codeSt_grows n _ _ _ _ _ h)
      · exact codeSt_grows n _ _ _ _ _ h
    · split at h
      · exact codeSt_grows n _ _ _ _ _ h
      · exact codeSt_grows n _ _ _ _ _ h
      · cases h
    · split at h
      · rename_i i st1 h1
        have k := codeSt_grows n _ _ _ _ _ h1
        split at h <;> (simp only [Option.some.injEq, Prod.mk.injEq] at h; obtain ⟨_, rfl⟩ := h; exact k)
      · exact codeSt_grows n _ _ _ _ _ h
    · split at h
      · split at h
        · simp only [Option.some.injEq, Prod.mk.injEq] at h
          obtain ⟨_, rfl⟩ := h
          exact ⟨⟨[], by simp⟩, ⟨_, rfl⟩⟩
        · cases h
      · split at h
        · rename_i st1 h1
          have k := codeSt_grows n _ _ _ _ _ h1
          exact grows.trans ⟨k.1, k.2⟩ (codeSt_grows n _ _ _ _ _ h)
        · have k := codeSt_grows n _ _ _ _ _ h
          exact ⟨k.1, k.2⟩
      · split at h
        · rename_i st1 h1
          exact (codeSt_grows n _ _ _ _ _ h1).trans (codeSt_grows n _ _ _ _ _ h)
        · exact codeSt_grows n _ _ _ _ _ h
    · simp only [Option.some.injEq, Prod.mk.injEq] at h; obtain ⟨_, rfl⟩ := h; exact grows.refl _
    · simp only [Option.some.injEq, Prod.mk.injEq] at h; obtain ⟨_, rfl⟩ := h; exact grows.refl _
    · cases h

def okEv (P : Program) (v : Env) (s : St) : Prop := (∀ e ∈ s.ev, e.holds P v) ∧ ∀ l ∈ s.lev, l.holds P v
theorem okEv.of {s t : St} (h : grows s t) (k : okEv P v t) : okEv P v s := by
  obtain ⟨⟨r1, h1⟩, ⟨r2, h2⟩⟩ := h
  exact ⟨fun e he => k.1 e (by rw [h1]; simp [he]), fun l hl => k.2 l (by rw [h2]; simp [hl])⟩

theorem codeSt_wp : ∀ (n : Nat) (again : Bool) (c : Code) (st st' : St) (e : Ex), codeSt P n again c st = some (e, st') → okEv P v st' →
    ∀ (Q : Exit → Act → World → Prop) a w p, RelP v B w0 st.fm.sig a w p → (∀ a' w' q, RelP v B w0 st'.fm.sig a' w' q → Q e.to a' w') →
      c.wp P Q a w ∧ (again = true → ∀ b, c = .loop b → Code.rounds P b Q n a w)
  | 0, _, _, _, _, _, h => by simp [codeSt] at h
  | n + 1, again, c, st, st', e, h => by
    intro hev Q a w p hr hQ
    unfold codeSt at h
    have loopCase : ∀ (b : Code) (s1 : St), s1.fm = st.fm → c = .loop b → (match codeSt P n false b s1 with | some (.normal, st1) => codeSt P n true (.loop b) st1 | r => r) = some (e, st') → c.wp P Q a w ∧ (again = true → ∀ b', c = .loop b' → Code.rounds P b' Q (n + 1) a w) := by
      intro b s1 hs1 hc hh
      have key : Code.rounds P b Q (n + 1) a w := by
        rw [rounds_succ]
        split at hh
        · rename_i st1 h1
          refine (codeSt_wp n false b s1 st1 .normal h1 (okEv.of (codeSt_grows n _ _ _ _ _ hh) hev) _ a w p (by rw [hs1]; exact hr) fun a' w' q hr' => ?_).1
          exact (codeSt_wp n true (.loop b) st1 st' e hh hev Q a' w' q hr' hQ).2 rfl b rfl
        · rename_i hne
          refine (codeSt_wp n false b s1 st' e hh hev _ a w p (by rw [hs1]; exact hr) fun a' w' q hr' => ?_).1
          have := hQ a' w' q hr'
          cases e with
          | normal => exact absurd hh (hne st')
          | exit id => exact this
          | ret => exact this
      subst hc
      exact ⟨wp_loop_rounds (n + 1) key, fun _ b' hb => by cases hb; exact key⟩
    cases c with
    | skip =>
      simp only [Option.some.injEq, Prod.mk.injEq] at h
      obtain ⟨rfl, rfl⟩ := h
      exact ⟨wp_skip (hQ a w p hr), fun _ b hb => by cases hb⟩
    | region id ops draw =>
      cases draw with
      | true =>
        simp only at h
        split at h
        · rename_i st1 h1
          simp only [Option.some.injEq, Prod.mk.injEq] at h
          obtain ⟨rfl, rfl⟩ := h
          exact ⟨drawSt_wp h1 hev.1 hr hQ, fun _ b hb => by cases hb⟩
        · cases h
      | false =>
        simp only at h
        split at h
        · rename_i st1 h1
          simp only [Option.some.injEq, Prod.mk.injEq] at h
          obtain ⟨rfl, rfl⟩ := h
          refine ⟨wp_region ?_, fun _ b hb => by cases hb⟩
          have := seqSt_wp ops.toList 0 st _ (fun j => by simp) h1 hev.1 a w p hr hQ
          rw [List.range_eq_range']
          simpa using this
        · cases h
    | seq x y =>
      simp only at h
      split at h
      · rename_i st1 h1
        refine ⟨wp_seq (codeSt_wp n false x st st1 .normal h1 (okEv.of (codeSt_grows n _ _ _ _ _ h) hev) _ a w p hr fun a' w' q hr' => ?_).1, fun _ b hb => by cases hb⟩
        exact (codeSt_wp n false y st1 st' e h hev Q a' w' q hr' hQ).1
      · rename_i hne
        refine ⟨wp_seq (codeSt_wp n false x st st' e h hev _ a w p hr fun a' w' q hr' => ?_).1, fun _ b hb => by cases hb⟩
        have := hQ a' w' q hr'
        cases e with
        | normal => exact absurd h (hne st')
        | exit id => exact this
        | ret => exact this
    | cond cc x y =>
      have hc := hr.ev cc
      simp only at h
      split at h
      · rename_i he
        rw [he] at hc
        exact ⟨wp_cond_true hc (codeSt_wp n false x st st' e h hev Q a w p hr hQ).1, fun _ b hb => by cases hb⟩
      · rename_i he
        rw [he] at hc
        exact ⟨wp_cond_false hc (codeSt_wp n false y st st' e h hev Q a w p hr hQ).1, fun _ b hb => by cases hb⟩
      · cases h
    | block id b =>
      refine ⟨wp_block ?_, fun _ b hb => by cases hb⟩
      simp only at h
      split at h
      · rename_i i st1 h1
        split at h
        · rename_i hi
          simp only [Option.some.injEq, Prod.mk.injEq] at h
          obtain ⟨rfl, rfl⟩ := h
          refine (codeSt_wp n false b st _ (.exit i) h1 hev _ a w p hr fun a' w' q hr' => ?_).1
          show (if i = id then _ else _)
          rw [if_pos hi]
          exact hQ a' w' q hr'
        · rename_i hi
          simp only [Option.some.injEq, Prod.mk.injEq] at h
          obtain ⟨rfl, rfl⟩ := h
          refine (codeSt_wp n false b st _ (.exit i) h1 hev _ a w p hr fun a' w' q hr' => ?_).1
          show (if i = id then _ else _)
          rw [if_neg hi]
          exact hQ a' w' q hr'
      · rename_i hne
        refine (codeSt_wp n false b st st' e h hev _ a w p hr fun a' w' q hr' => ?_).1
        have := hQ a' w' q hr'
        cases e with
        | normal => exact this
        | exit i => exact absurd h (hne i st')
        | ret => exact this
    | loop b =>
      simp only at h
      split at h
      · rename_i s r hs
        split at h
        · rename_i fm hfm
          simp only [Option.some.injEq, Prod.mk.injEq] at h
          obtain ⟨rfl, rfl⟩ := h
          have hl := hev.2 ⟨b, st.fm, fm, s.id⟩ (by simp)
          refine ⟨wp_mono (hl B w0 a w p hr) fun e' a' w' ⟨he', q, hq⟩ => ?_, fun hag => by cases hag⟩
          subst he'
          exact hQ a' w' q hq
        · cases h
      · rename_i r hs
        exact loopCase b { st with sums := r } rfl rfl h
      · exact loopCase b st rfl rfl h
    | exit id =>
      simp only [Option.some.injEq, Prod.mk.injEq] at h
      obtain ⟨rfl, rfl⟩ := h
      exact ⟨wp_exit (hQ a w p hr), fun _ b hb => by cases hb⟩
    | ret =>
      simp only [Option.some.injEq, Prod.mk.injEq] at h
      obtain ⟨rfl, rfl⟩ := h
      exact ⟨wp_ret (hQ a w p hr), fun _ b hb => by cases hb⟩
    | rangeFunc f ps x y => cases h
    | scope x => cases h
    | label l => cases h
    | goto l => cases h
    | refuse y => cases h

/-! ### functions of plain values -/
def resVar (P : Program) (m : Fm) : ResultVar → Option A
  | .tmp t => match m.fr.getD t .undef with | .one a => if a.pure then some a else none | _ => none
  | .cell t ty => match m.fr.getD t .undef with
    | .one (.ptr x off) => match m.mem[x]? with
      | some b => match b.dead, isAggT P ty with
        | false, some true => match (P.info? ty).map (·.size) with
          | some sz => match scs ((b.cells.drop off).take sz) with | some ss => if ss.length = sz then some (.agg ss) else none | none => none
          | none => none
        | false, some false => match b.cells[off]? with | some (.sc y) => some (.sc y) | _ => none
        | _, _ => none
      | none => none
    | _ => none

def resVars (P : Program) (m : Fm) : List ResultVar → Option (List A)
  | [] => some []
  | r :: l => match resVar P m r, resVars P m l with | some a, some as => some (a :: as) | _, _ => none

def resSem (a : Act) : ResultVar → Sem Value
  | .tmp t => pure (a.tmps.getD t undef)
  | .cell s t => do loadVar t (← asAddr (a.tmps.getD s undef))

theorem resVar_run {m : Fm} {r : ResultVar} {x : A} (h : resVar P m r = some x) {a : Act} {w : World} {p : Mp} (hr : RelP v B w0 m.sig a w p) :
    x.pure = true ∧ (resSem a r).run P w = .ok (x.val v) w := by
  cases r with
  | tmp t =>
    simp only [resVar] at h
    have hf := hr.frame t
    split at h
    · rename_i y hy
      split at h
      · rename_i hp
        simp only [Option.some.injEq] at h
        subst h
        have hf' : AV.Is v p (.one y) (a.tmps.getD t undef) := by rw [← hy]; exact hf
        exact ⟨hp, by rw [← A.is_val hp hf']; rfl⟩
      · cases h
    · cases h
  | cell t ty =>
    simp only [resVar] at h
    have hf := hr.frame t
    split at h
    · rename_i y off hy
      have hf' : AV.Is v p (.one (.ptr y off)) (a.tmps.getD t undef) := by rw [← hy]; exact hf
      obtain ⟨r, n, hp, e⟩ := hf'
      split at h
      · rename_i b hm
        obtain ⟨r', n', hp', hlt, hB⟩ := hr.mem y b hm
        rw [hp] at hp'
        simp only [Option.some.injEq, Prod.mk.injEq] at hp'
        obtain ⟨rfl, rfl⟩ := hp'
        split at h
        · rename_i hb ha
          split at h
          · rename_i sz hi
            split at h
            · rename_i ss hss
              split at h
              · rename_i hl
                subst hl
                simp only [Option.some.injEq] at h
                subst h
                have hd' : ∃ d : TypeDesc, P.underlying ty = some d ∧ d.isRow = true := by
                  unfold isAggT at ha
                  cases hu : P.underlying ty with
                  | none => simp [hu] at ha
                  | some d => refine ⟨d, rfl, ?_⟩; cases d <;> simp_all
                obtain ⟨d, hu, hd2⟩ := hd'
                refine ⟨rfl, ?_⟩
                simp only [resSem, e, asAddr, Sem.run_bind, Sem.run_pure, Result.andThen_ok]
                exact run_loadVar_mid w r off ty (ss.map (Sc.den v)) d (range_of hB hb hss) hu hd2 (by simpa using hi)
              · cases h
            · cases h
          · cases h
        · rename_i hb ha
          split at h
          · rename_i z hc
            simp only [Option.some.injEq] at h
            subst h
            obtain ⟨u, hu, hz⟩ := cell_of hB hb hc
            refine ⟨rfl, ?_⟩
            simp only [resSem, e, asAddr, Sem.run_bind, Sem.run_pure, Result.andThen_ok, loadVar, run_isAgg ha, Bool.false_eq_true, if_false, run_load, hu]
            rw [show u = z.den v from hz]
            rfl
          · cases h
        · cases h
      · cases h
    · cases h

theorem resVars_run {m : Fm} {a : Act} {w : World} {p : Mp} (hr : RelP v B w0 m.sig a w p) : ∀ (l : List ResultVar) (xs : List A), resVars P m l = some xs → (∀ x ∈ xs, x.pure = true) ∧ xs.length = l.length ∧
    (l.mapM (resSem a)).run P w = .ok (xs.map (A.val v)) w
  | [], xs, h => by simp only [resVars, Option.some.injEq] at h; subst h; exact ⟨by simp, rfl, rfl⟩
  | r :: l, xs, h => by
    simp only [resVars] at h
    split at h
    · rename_i x xs' h1 h2
      simp only [Option.some.injEq] at h
      subst h
      obtain ⟨k1, k2⟩ := resVar_run h1 hr
      obtain ⟨j1, j2, j3⟩ := resVars_run hr l xs' h2
      refine ⟨fun y hy => ?_, by simp [j2], ?_⟩
      · rcases List.mem_cons.1 hy with rfl | hy
        · exact k1
        · exact j1 y hy
      · rw [List.mapM_cons]
        simp only [Sem.run_bind, k2, Result.andThen_ok, j3, Sem.run_pure, List.map_cons]
    · cases h

structure Ran where
  res : AV
  ev : List Ev
  lev : List LEv

def initFr (fn : Func) (args : List A) : List AV := args.map .one ++ List.replicate (fn.ntmps - args.length) .undef

/-- a run of a function -/
def runFn (P : Program) (fuel : Nat) (fn : Func) (args : List A) (nv : Nat) (ora : List (Option Bool)) (sums : List (Option LSum)) : Option Ran :=
  if args.all A.pure then
    match fn.body with
    | some c => match codeSt P fuel false c ⟨⟨initFr fn args, [], []⟩, nv, ora, sums, [], []⟩ with
      | some (.exit _, _) => none
      | some (_, st) => match resVars P st.fm fn.results.toList with
        | some xs => some ⟨resA xs, st.ev, st.lev⟩
        | none => none
      | none => none
    | none => none
  else none

theorem init_rel {fn : Func} {args : List A} (hp : ∀ a ∈ args, a.pure = true) (w : World) :
    RelP v w.heap.size w (Fm.mk (initFr fn args) [] []).sig { tmps := (args.map (A.val v)).toArray ++ Array.replicate (fn.ntmps - (args.map (A.val v)).toArray.size) undef, defers := [] } w (fun _ => none) := by
  refine ⟨rfl, by simp [Fm.sig, initFr], Nat.le_refl _, Below.refl _ _, fun x y r n m b c hx => by simp [Fm.sig] at hx, fun x b hx => by simp [Fm.sig] at hx, fun _ _ => rfl, fun g x hg => by simp [Fm.sig, lkp] at hg, fun t => ?_⟩
  simp only [Fm.sig, initFr]
  rcases Nat.lt_or_ge t args.length with h | h
  · have h1 : (args.map AV.one ++ List.replicate (fn.ntmps - args.length) AV.undef).getD t .undef = .one args[t] := by
      rw [List.getD_eq_getElem?_getD, List.getElem?_append_left (by simpa using h)]
      simp [h]
    rw [h1]
    have h2 : ((args.map (A.val v)).toArray ++ Array.replicate (fn.ntmps - (args.map (A.val v)).toArray.size) undef).getD t undef = args[t].val v := by
      rw [Array.getD_eq_getD_getElem?, Array.getElem?_append_left (by simpa using h)]
      simp [h]
    rw [h2]
    exact A.pure_is (hp _ (List.getElem_mem h)) _
  · have h1 : (args.map AV.one ++ List.replicate (fn.ntmps - args.length) AV.undef).getD t .undef = .undef := by
      rw [List.getD_eq_getElem?_getD, List.getElem?_append_right (by simpa using h)]
      simp [List.getElem?_replicate]
      split <;> rfl
    rw [h1]
    trivial

theorem calls_of_run {f : FuncId} {fn : Func} {fuel nv : Nat} {args : List A} {ora : List (Option Bool)} {sums : List (Option LSum)} {r : Ran} (hf : P.funcs[f]? = some fn) (h : runFn P fuel fn args nv ora sums = some r)
    (hev : ∀ e ∈ r.ev, e.holds P v) (hlev : ∀ l ∈ r.lev, l.holds P v) (w : World) :
    Calls P f (args.map (A.val v)).toArray w fun e w' => e = .returned (r.res.val v) ∧ Below w.heap.size w w' := by
  unfold runFn at h
  split at h
  case isFalse => cases h
  rename_i hp
  split at h
  case h_2 => cases h
  rename_i c hb
  refine calls_of_wp hf hb ?_
  have hpure : ∀ a ∈ args, a.pure = true := by simpa using hp
  have fin : ∀ (e : Ex) (st : St), e ≠ .normal ∧ e ≠ .ret → False ∨ True := fun _ _ _ => .inr trivial
  have main : ∀ (e : Ex) (st : St), codeSt P fuel false c ⟨⟨initFr fn args, [], []⟩, nv, ora, sums, [], []⟩ = some (e, st) → (e = .normal ∨ e = .ret) → (∃ xs, resVars P st.fm fn.results.toList = some xs ∧ r = ⟨resA xs, st.ev, st.lev⟩) →
      c.wp P (bodyPost P fn fun e w' => e = .returned (r.res.val v) ∧ Below w.heap.size w w') { tmps := (args.map (A.val v)).toArray ++ Array.replicate (fn.ntmps - (args.map (A.val v)).toArray.size) undef, defers := [] } w := by
    rintro e st hc he ⟨xs, hx, rfl⟩
    refine (codeSt_wp (v := v) (B := w.heap.size) (w0 := w) fuel false c _ st e hc ⟨hev, hlev⟩ _ _ w _ (init_rel hpure w) fun a' w' q hr => ?_).1
    obtain ⟨h1, h2, h3⟩ := resVars_run hr _ _ hx
    have hres : (results fn a'.tmps).run P w' = .ok ((resA xs).val v) w' := by
      unfold results
      have hm : (fn.results.mapM (resSem a')).run P w' = .ok (xs.map (A.val v)).toArray w' := by
        rw [Array.mapM_eq_mapM_toList]
        simp only [Sem.run_map, h3, Result.andThen_ok]
      have hm' := hm
      rw [Sem.run_bind]
      refine Eq.trans (congrArg (fun z => Result.andThen z _) hm') ?_
      simp only [Result.andThen_ok, Sem.run_pure]
      congr 1
      match xs with
      | [] => rfl
      | [x] => rfl
      | x :: y :: l => rfl
    have hd := hr.defers
    have hbel := hr.below
    rcases he with rfl | rfl
    · exact ⟨hd, _, hres, rfl, hbel⟩
    · exact ⟨hd, _, hres, rfl, hbel⟩
  split at h
  · cases h
  · rename_i e st hne hc
    split at h
    · rename_i xs hx
      simp only [Option.some.injEq] at h
      refine main e st hc ?_ ⟨xs, hx, h.symm⟩
      cases e with
      | normal => exact .inl rfl
      | exit id => exact (hne id rfl).elim
      | ret => exact .inr rfl
    · cases h
  · cases h

/-- a contract as a call wants it -/
theorem callP_of {f : FuncId} {fn : Func} {args : Array Value} {u : Value} (hf : P.funcs[f]? = some fn) (hname : (fn.name == "runtime.NumGoroutine") = false) (hb : fn.body.isNone = false)
    (h : ∀ w, Calls P f args w fun e w' => e = .returned u ∧ Below w.heap.size w w') : CallP P f args u := fun w => by
  refine .inr ⟨f, args, ?_, h w⟩
  have h1 : fn.name ≠ "runtime.NumGoroutine" := by simpa using hname
  have h2 : fn.body ≠ none := by intro e; rw [e] at hb; cases hb
  simp [callFunc, hf, h1, h2]

end
end Go.Sx
