/- Symbolic runs of functions. -/
import Derived.Test.YtijnfclocanhkaaDoorSy9
set_option linter.unusedVariables false
set_option linter.unusedSimpArgs false
namespace Go.Sx
open Go Go.RowKit

section
variable {P : Program} {v : Env}

theorem row_of {t : TypeId} {b : Bool} (h : isAggT P t = some b) : b = true → ∃ d : TypeDesc, P.underlying t = some d ∧ d.isRow = true := by
  rintro rfl
  unfold isAggT at h
  cases hu : P.underlying t with
  | none => simp [hu] at h
  | some d => refine ⟨d, rfl, ?_⟩; cases d <;> simp_all

/-- what a function hands back -/
def resVar (P : Program) (m : Fm) (rt : TypeId) : ResultVar → Option (ERes × List Ev)
  | .tmp t => match m.fr.getD t .undef with
    | .one .nils => match bytesT P rt with | some e => some (.fresh e .nil (.lit 0) (.lit 0) true, []) | none => none
    | .one (.bsl x off len full) => match m.mem[x]? with
      | some b => match b.dead, b.own, b.nums with
        | false, true, some (.u8, l) => match full with
          | true => match leEv len (mkLen l) with | some ev => some (.fresh b.T (mkPart l (.lit 0) len) (.lit 0) len true, ev) | none => none
          | false => match leEv (.lit 0) off with | some ev => some (.fresh b.T l off len false, ev) | none => none
        | _, _, _ => none
      | none => none
    | .one a => if a.pure then some (.val a, []) else none
    | _ => none
  | .cell t ty => match m.fr.getD t .undef with
    | .one (.ptr x off) => match m.mem[x]? with
      | some b => match b.row with
        | none => match b.dead, isAggT P ty with
          | false, some true => match (P.info? ty).map (·.size) with
            | some sz => match scs ((b.cells.drop off).take sz) with | some ss => if ss.length = sz then some (.val (.agg ss), []) else none | none => none
            | none => none
          | false, some false => match b.cells[off]? with | some (.sc y) => some (.val (.sc y), []) | _ => none
          | _, _ => none
        | some _ => match b.dead, b.nums, isAggT P ty with
          | false, some (k, l), some true => match ((P.info? ty).map (·.size) : Option Nat) with
            | some n => match leEv (mkSum (.lit off) (.lit n)) (mkLen l) with | some ev => some (.val (.agg (arrA k l (.lit off) n)), ev) | none => none
            | none => none
          | _, _, _ => none
      | none => none
    | _ => none

def resVars (P : Program) (m : Fm) : List TypeId → List ResultVar → Option (List ERes × List Ev)
  | [], [] => some ([], [])
  | t :: ts, r :: l => match resVar P m t r, resVars P m ts l with | some (a, e), some (as, e') => some (a :: as, e ++ e') | _, _ => none
  | _, _ => none

def resSem (a : Act) : ResultVar → Sem Value
  | .tmp t => pure (a.tmps.getD t undef)
  | .cell s t => do loadVar t (← asAddr (a.tmps.getD s undef))

theorem resVar_run {m : Fm} {rt : TypeId} {r : ResultVar} {x : ERes} {ev : List Ev} (h : resVar P m rt r = some (x, ev)) (he : ∀ e ∈ ev, e.holds P v) {a : Act} {w : World} {p : Mp} (hr : RelP v m.sig a w p) :
    ∃ u, (resSem a r).run P w = .ok u w ∧ (x.den v).Is v.w.heap.size w u := by
  cases r with
  | tmp t =>
    simp only [resVar] at h
    have hf := hr.frame t
    split at h
    · rename_i hy
      split at h
      · rename_i e hb
        simp only [Option.some.injEq, Prod.mk.injEq] at h
        obtain ⟨rfl, rfl⟩ := h
        have hf' : AV.Is v p (.one .nils) (a.tmps.getD t undef) := by rw [← hy]; exact hf
        refine ⟨_, rfl, ?_⟩
        rw [show a.tmps.getD t undef = .slice none 0 0 from hf']
        exact ⟨none, 0, by simp [I.den], by simp [I.den], Nat.zero_le _, .inl rfl⟩
      · cases h
    · rename_i y off len full hy
      have hf' : AV.Is v p (.one (.bsl y off len full)) (a.tmps.getD t undef) := by rw [← hy]; exact hf
      obtain ⟨ba, n, c, l1, l2, l3, l4, l5⟩ := hf'
      split at h
      case h_2 => cases h
      rename_i b hm
      split at h
      case h_2 => cases h
      rename_i l hb hown hn
      refine ⟨_, rfl, ?_⟩
      rw [l2]
      split at h
      · split at h
        case h_2 => cases h
        rename_i ev' hev
        simp only [Option.some.injEq, Prod.mk.injEq] at h
        obtain ⟨rfl, rfl⟩ := h
        have hle := leEv_ok hev he
        rw [mkLen_den, l1] at hle
        have hrow : ((mkPart l (.lit 0) len).ldn v) = (l.ldn v).take n := by rw [mkPart_ldn, l1]; simp [I.den]
        have hlen : ((l.ldn v).take n).length = n := by rw [List.length_take]; omega
        refine ⟨ba, c, by rw [l1, Int.toNat_natCast], by rw [l1, Int.toNat_natCast]; exact l3, l4, ?_⟩
        rcases l5 with l5 | ⟨r, N, q, p1, p2, p3, p4⟩
        · exact .inl l5
        · obtain ⟨rfl, rfl⟩ := p4 rfl
          obtain ⟨_, hB⟩ := hr.at hm p1
          obtain ⟨cs, fz, k1, k2, k3, k4, k5, k6⟩ := nums_cell hB hb hn
          obtain ⟨k7, rfl, k8⟩ := k6 hown
          refine .inr ⟨r, cs, by simpa [I.den] using p3, k7, k1, ?_, k8, fun _ => ⟨by simp [I.den], k2.symm⟩⟩
          rw [hrow, hlen]
          have := congrArg (List.take n) k3
          rw [List.take_take, Nat.min_eq_left (by omega), ← List.map_take] at this
          exact this
      · split at h
        case h_2 => cases h
        rename_i ev' hev
        simp only [Option.some.injEq, Prod.mk.injEq] at h
        obtain ⟨rfl, rfl⟩ := h
        have hle := leEv_ok hev he
        simp only [I.den] at hle
        refine ⟨ba, c, by rw [l1, Int.toNat_natCast], by rw [l1, Int.toNat_natCast]; exact l3, l4, ?_⟩
        rcases l5 with l5 | ⟨r, N, q, p1, p2, p3, p4⟩
        · exact .inl l5
        · obtain ⟨_, hB⟩ := hr.at hm p1
          obtain ⟨cs, fz, k1, k2, k3, k4, k5, k6⟩ := nums_cell hB hb hn
          obtain ⟨k7, rfl, k8⟩ := k6 hown
          exact .inr ⟨r, cs, by rw [p3, p2, Int.toNat_natCast], k7, k1, k3, k8, fun hf => by cases hf⟩
    · rename_i y _ _ hy
      split at h
      · rename_i hp
        simp only [Option.some.injEq, Prod.mk.injEq] at h
        obtain ⟨rfl, rfl⟩ := h
        have hf' : AV.Is v p (.one y) (a.tmps.getD t undef) := by rw [← hy]; exact hf
        exact ⟨_, rfl, A.is_val hp hf'⟩
      · cases h
    · cases h
  | cell t ty =>
    simp only [resVar] at h
    have hf := hr.frame t
    split at h
    · rename_i y off hy
      have hf' : AV.Is v p (.one (.ptr y off)) (a.tmps.getD t undef) := by rw [← hy]; exact hf
      obtain ⟨r, n, hp, e⟩ := hf'
      split at h
      case h_2 => cases h
      rename_i b hm
      obtain ⟨hlt, hB⟩ := hr.at (show m.sig.mem y = some b from hm) hp
      split at h
      · rename_i hw
        split at h
        · rename_i hb ha
          split at h
          · rename_i sz hi
            split at h
            · rename_i ss hss
              split at h
              · rename_i hl
                subst hl
                simp only [Option.some.injEq, Prod.mk.injEq] at h
                obtain ⟨rfl, rfl⟩ := h
                obtain ⟨d, hu, hd2⟩ := row_of ha rfl
                refine ⟨_, ?_, rfl⟩
                simp only [resSem, e, asAddr, Sem.run_bind, Sem.run_pure, Result.andThen_ok]
                exact run_loadVar_mid w r off ty (ss.map (Sc.den v)) d (range_of hB hb hw hss) hu hd2 (by simpa using hi)
              · cases h
            · cases h
          · cases h
        · rename_i hb ha
          split at h
          · rename_i z hc
            simp only [Option.some.injEq, Prod.mk.injEq] at h
            obtain ⟨rfl, rfl⟩ := h
            obtain ⟨u, hu, hz⟩ := cell_of hB hb hw hc
            refine ⟨u, ?_, hz⟩
            simp only [resSem, e, asAddr, Sem.run_bind, Sem.run_pure, Result.andThen_ok, loadVar, run_isAgg ha, Bool.false_eq_true, if_false, run_load, hu]
          · cases h
        · cases h
      · split at h
        · rename_i k l hb hn ha
          split at h
          · rename_i sz hi
            split at h
            · rename_i ev' hev
              simp only [Option.some.injEq, Prod.mk.injEq] at h
              obtain ⟨rfl, rfl⟩ := h
              obtain ⟨d, hu, hd2⟩ := row_of ha rfl
              obtain ⟨cs, fz, _, _, _, _, hc, _⟩ := nums_cell hB hb hn
              have hle := leEv_ok hev he
              rw [mkLen_den, mkSum_den] at hle
              simp only [I.den] at hle
              have hrg : w.rangeAt r off ((arrA k l (.lit off) sz).map (Sc.den v)) := by
                intro j u hj
                unfold arrA at hj
                simp only [List.getElem?_map, List.map_map] at hj
                rcases Nat.lt_or_ge j sz with hjn | hjn
                · simp only [List.getElem?_range hjn, Option.map_some, Option.some.injEq, Function.comp] at hj
                  subst hj
                  have hq : off + j < (l.ldn v).length := by omega
                  have := hc (off + j) _ (getD_some hq)
                  rw [this]
                  simp only [Sc.den, mkGet_den, mkSum_den, I.den]
                  rw [show ((off : Int) + (j : Nat)).toNat = off + j by omega]
                · rw [List.getElem?_eq_none (by simpa using hjn)] at hj
                  cases hj
              refine ⟨_, ?_, rfl⟩
              simp only [resSem, e, asAddr, Sem.run_bind, Sem.run_pure, Result.andThen_ok]
              exact run_loadVar_mid w r off ty ((arrA k l (.lit off) sz).map (Sc.den v)) d hrg hu hd2 (by simpa [arrA] using hi)
            · cases h
          · cases h
        · cases h
    · cases h

theorem resVars_run {m : Fm} {a : Act} {w : World} {p : Mp} (hr : RelP v m.sig a w p) : ∀ (ts : List TypeId) (l : List ResultVar) (xs : List ERes) (ev : List Ev), resVars P m ts l = some (xs, ev) → (∀ e ∈ ev, e.holds P v) →
    ∃ us, (l.mapM (resSem a)).run P w = .ok us w ∧ resIs v.w.heap.size w (xs.map (ERes.den v)) us
  | [], [], xs, ev, h, _ => by simp only [resVars, Option.some.injEq, Prod.mk.injEq] at h; obtain ⟨rfl, _⟩ := h; exact ⟨[], rfl, rfl⟩
  | t :: ts, r :: l, xs, ev, h, he => by
    simp only [resVars] at h
    split at h
    · rename_i x e1 xs' e2 h1 h2
      simp only [Option.some.injEq, Prod.mk.injEq] at h
      obtain ⟨rfl, rfl⟩ := h
      obtain ⟨u, k1, k2⟩ := resVar_run h1 (fun e hm => he e (by simp [hm])) hr
      obtain ⟨us, j1, j2⟩ := resVars_run hr ts l xs' e2 h2 (fun e hm => he e (by simp [hm]))
      refine ⟨u :: us, ?_, u, us, rfl, k2, j2⟩
      rw [List.mapM_cons]
      simp only [Sem.run_bind, k1, Result.andThen_ok, j1, Sem.run_pure]
    · cases h
  | [], _ :: _, _, _, h, _ => by simp [resVars] at h
  | _ :: _, [], _, _, h, _ => by simp [resVars] at h

structure Ran where
  res : List ERes
  ev : List Ev
  lev : List LEv

def initFr (fn : Func) (args : List A) : List AV := args.map .one ++ List.replicate (fn.ntmps - args.length) .undef

/-- the package variables, numbered in their order -/
def numbered : Nat → List (Nat × Blk) → List (Nat × Nat)
  | _, [] => []
  | k, (g, _) :: l => (g, k) :: numbered (k + 1) l

def initFm (fn : Func) (args : List A) (gs : List (Nat × Blk)) : Fm := ⟨initFr fn args, gs.map (·.2), numbered 0 gs⟩

/-- the world holds these package variables -/
def GsOk (L : Laid) (gs : List (Nat × Blk)) : Prop := (gs.map (·.1)).Nodup ∧ (∀ x ∈ gs, x.2.own = false ∧ x.2.more = false ∧ x.2.row = none ∧ x.1 < L.K) ∧
  ∀ w, L.G w → ∀ x ∈ gs, ∃ cs fz, w.heap[x.1]? = some (.cells cs x.2.T fz) ∧ ∀ v, listIs v (fun _ => none) x.2.cells cs.toList

theorem GsOk.nil (L : Laid) : GsOk L [] := ⟨List.Pairwise.nil, by simp, by simp⟩

/-- what may be handed in -/
def A.handed : A → Bool
  | .sc _ | .agg _ | .nils | .imm _ _ | .immP _ => true
  | _ => false

theorem A.handed_mp {a : A} (h : a.handed = true) {p q : Mp} {u : Value} (k : a.Is v p u) : a.Is v q u := by
  cases a <;> simp [A.handed] at h <;> exact k

/-- a run of a function -/
def runFn (P : Program) (fuel : Nat) (fn : Func) (args : List A) (nv : Nat) (ora : List (Option Bool)) (sums : List (Option LSum)) (gs : List (Nat × Blk) := []) : Option Ran :=
  if args.all A.handed then
    match fn.body with
    | some c => match codeSt P fuel false c ⟨initFm fn args gs, nv, ora, sums, [], []⟩ with
      | some (.exit _, _) => none
      | some (_, st) => match resVars P st.fm fn.resultTypes.toList fn.results.toList with
        | some (xs, ev) => some ⟨xs, st.ev ++ ev, st.lev⟩
        | none => none
      | none => none
    | none => none
  else none

theorem numbered_lkp : ∀ (l : List (Nat × Blk)) (k g x : Nat), lkp (numbered k l) g = some x → ∃ j b, x = k + j ∧ l[j]? = some (g, b)
  | [], k, g, x, h => by simp [numbered, lkp] at h
  | (a, b) :: l, k, g, x, h => by
    simp only [numbered, lkp] at h
    split at h
    · rename_i e
      simp only [Option.some.injEq] at h
      exact ⟨0, b, by omega, by rw [e]; rfl⟩
    · obtain ⟨j, c, h1, h2⟩ := numbered_lkp l (k + 1) g x h
      exact ⟨j + 1, c, by omega, by simpa using h2⟩

theorem init_rel {fn : Func} {args : List A} {us : List Value} {gs : List (Nat × Blk)} (hp : ∀ a ∈ args, a.handed = true) (hargs : listIs v (fun _ => none) args us) (hgs : GsOk v.L gs) (hK : v.L.K ≤ v.w.heap.size) (hG : v.L.G v.w) :
    RelP v (initFm fn args gs).sig { tmps := us.toArray ++ Array.replicate (fn.ntmps - us.toArray.size) undef, defers := [] } v.w (fun x => (gs[x]?).map fun gb => (gb.1, gb.2.cells.length)) := by
  obtain ⟨hnd, hown, hw⟩ := hgs
  have hul := hargs.length
  have hmem : ∀ x b, (initFm fn args gs).sig.mem x = some b → ∃ g, gs[x]? = some (g, b) := by
    intro x b hx
    have hx' : (gs.map (·.2))[x]? = some b := hx
    rw [List.getElem?_map] at hx'
    cases hq : gs[x]? with
    | none => rw [hq] at hx'; cases hx'
    | some gb =>
      rw [hq] at hx'
      simp only [Option.map_some, Option.some.injEq] at hx'
      exact ⟨gb.1, by rw [← hx']⟩
  refine ⟨rfl, by simp [Fm.sig, initFm, initFr, hul], Nat.le_refl _, Below.refl _ _, ?_, ?_, ?_, ?_, fun t => ?_, hK, hG⟩
  · intro x y r n m b c hx _ hy _ hpx hpy
    obtain ⟨g, h1⟩ := hmem x b hx
    obtain ⟨g', h2⟩ := hmem y c hy
    simp only [h1, h2, Option.map_some, Option.some.injEq, Prod.mk.injEq] at hpx hpy
    have e1 : (gs.map (·.1))[x]? = some r := by rw [List.getElem?_map, h1]; simp [hpx.1]
    have e2 : (gs.map (·.1))[y]? = some r := by rw [List.getElem?_map, h2]; simp [hpy.1]
    exact (List.getElem?_inj (List.getElem?_eq_some_iff.1 e1).1 hnd).1 (e1.trans e2.symm)
  · intro x b hx
    obtain ⟨g, h1⟩ := hmem x b hx
    have hin : (g, b) ∈ gs := List.mem_of_getElem? h1
    obtain ⟨o1, o2, o4, o3⟩ := hown _ hin
    obtain ⟨cs, fz, c1, c2⟩ := hw v.w hG _ hin
    have hl := (c2 v).length
    refine .inr ⟨g, b.cells.length, by simp [h1], Nat.lt_of_lt_of_le o3 hK, fun _ => ⟨cs, fz, c1, by simpa using hl, ?_, fun ho => by rw [o1] at ho; cases ho⟩⟩
    have o4' : b.row = none := o4
    unfold Blk.holds
    rw [o4']
    refine ⟨fun _ => by simpa using hl, ?_⟩
    rw [List.take_of_length_le (Nat.le_of_eq hl)]
    exact (c2 v).mono fun x r hx => by cases hx
  · intro x hx
    have hx' : (gs.map (·.2))[x]? = none := hx
    rw [List.getElem?_eq_none_iff, List.length_map] at hx'
    rw [List.getElem?_eq_none hx']
    rfl
  · intro g x hg
    obtain ⟨j, b, h1, h2⟩ := numbered_lkp gs 0 g x hg
    rw [Nat.zero_add] at h1
    subst h1
    exact ⟨b.cells.length, by simp [h2]⟩
  · simp only [Fm.sig, initFm, initFr]
    rcases Nat.lt_or_ge t args.length with h | h
    · have h1 : (args.map AV.one ++ List.replicate (fn.ntmps - args.length) AV.undef).getD t .undef = .one args[t] := by
        rw [List.getD_eq_getElem?_getD, List.getElem?_append_left (by simpa using h)]
        simp [h]
      rw [h1]
      obtain ⟨u, hu1, hu2⟩ := hargs.get t args[t] (List.getElem?_eq_getElem h)
      have h2 : (us.toArray ++ Array.replicate (fn.ntmps - us.toArray.size) undef).getD t undef = u := by
        have hlt : t < us.length := by omega
        rw [Array.getD_eq_getD_getElem?, Array.getElem?_append_left (by simpa using hlt)]
        simp [hu1]
      rw [h2]
      exact A.handed_mp (hp _ (List.getElem_mem h)) hu2
    · have h1 : (args.map AV.one ++ List.replicate (fn.ntmps - args.length) AV.undef).getD t .undef = .undef := by
        rw [List.getD_eq_getElem?_getD, List.getElem?_append_right (by simpa using h)]
        simp [List.getElem?_replicate]
        split <;> rfl
      rw [h1]
      trivial

theorem calls_of_runS {f : FuncId} {fn : Func} {fuel nv : Nat} {args : List A} {ora : List (Option Bool)} {sums : List (Option LSum)} {gs : List (Nat × Blk)} {r : Ran} (hf : P.funcs[f]? = some fn) (h : runFn P fuel fn args nv ora sums gs = some r)
    (hev : ∀ e ∈ r.ev, e.holds P v) (hlev : ∀ l ∈ r.lev, l.holds P v) (hgs : GsOk v.L gs) (hK : v.L.K ≤ v.w.heap.size) (hG : v.L.G v.w) (us : List Value) (hargs : listIs v (fun _ => none) args us) :
    Calls P f us.toArray v.w fun e w' => ∃ vs, e = .returned (retOf vs) ∧ resIs v.w.heap.size w' (r.res.map (ERes.den v)) vs ∧ Below v.w.heap.size v.w w' := by
  unfold runFn at h
  split at h
  case isFalse => cases h
  rename_i hp
  split at h
  case h_2 => cases h
  rename_i c hb
  refine calls_of_wp hf hb ?_
  have hhand : ∀ a ∈ args, a.handed = true := by simpa using hp
  have main : ∀ (e : Ex) (st : St), codeSt P fuel false c ⟨initFm fn args gs, nv, ora, sums, [], []⟩ = some (e, st) → (e = .normal ∨ e = .ret) → (∃ xs ev, resVars P st.fm fn.resultTypes.toList fn.results.toList = some (xs, ev) ∧ r = ⟨xs, st.ev ++ ev, st.lev⟩) →
      c.wp P (bodyPost P fn fun e w' => ∃ vs, e = .returned (retOf vs) ∧ resIs v.w.heap.size w' (r.res.map (ERes.den v)) vs ∧ Below v.w.heap.size v.w w') { tmps := us.toArray ++ Array.replicate (fn.ntmps - us.toArray.size) undef, defers := [] } v.w := by
    rintro e st hc he ⟨xs, ev, hx, rfl⟩
    refine (codeSt_wp (v := v) fuel false c _ st e hc ⟨fun e hm => hev e (by simp [hm]), hlev⟩ _ _ v.w _ (init_rel hhand hargs hgs hK hG) fun a' w' q hr => ?_).1
    obtain ⟨vs, h1, h2⟩ := resVars_run hr _ _ _ _ hx (fun e hm => hev e (by simp [hm]))
    have hres : (results fn a'.tmps).run P w' = .ok (retOf vs) w' := by
      unfold results
      have hm : (fn.results.mapM (resSem a')).run P w' = .ok vs.toArray w' := by
        rw [Array.mapM_eq_mapM_toList]
        simp only [Sem.run_map, h1, Result.andThen_ok]
      have hm' := hm
      rw [Sem.run_bind]
      refine Eq.trans (congrArg (fun z => Result.andThen z _) hm') ?_
      simp only [Result.andThen_ok, Sem.run_pure]
      congr 1
      match vs with
      | [] => rfl
      | [x] => rfl
      | x :: y :: l => rfl
    have hd := hr.defers
    have hbel := hr.below
    rcases he with rfl | rfl
    · exact ⟨hd, _, hres, vs, rfl, h2, hbel⟩
    · exact ⟨hd, _, hres, vs, rfl, h2, hbel⟩
  split at h
  · cases h
  · rename_i e st hne hc
    split at h
    · rename_i xs ev hx
      simp only [Option.some.injEq] at h
      refine main e st hc ?_ ⟨xs, ev, hx, h.symm⟩
      cases e with
      | normal => exact .inl rfl
      | exit id => exact (hne id rfl).elim
      | ret => exact .inr rfl
    · cases h
  · cases h

theorem listIs_pures {p : Mp} : ∀ {l : List A}, (∀ a ∈ l, a.pure = true) → listIs v p l (l.map (A.val v)) := fun h => pures_is p h

/-- plain values in, plain values out -/
theorem calls_of_runG {f : FuncId} {fn : Func} {fuel nv : Nat} {args : List A} {ora : List (Option Bool)} {sums : List (Option LSum)} {gs : List (Nat × Blk)} {res : List A} {ev : List Ev} {lev : List LEv} (hf : P.funcs[f]? = some fn) (h : runFn P fuel fn args nv ora sums gs = some ⟨res.map .val, ev, lev⟩)
    (hp : args.all A.pure = true) (hev : ∀ e ∈ ev, e.holds P v) (hlev : ∀ l ∈ lev, l.holds P v) (hgs : GsOk v.L gs) (hK : v.L.K ≤ v.w.heap.size) (hG : v.L.G v.w) :
    Calls P f (args.map (A.val v)).toArray v.w fun e w' => e = .returned ((resA res).val v) ∧ Below v.w.heap.size v.w w' := by
  refine (calls_of_runS hf h hev hlev hgs hK hG _ (listIs_pures (by simpa using hp))).mono fun e w' ⟨vs, h1, h2, h3⟩ => ?_
  subst h1
  rw [resIs_vals h2, retOf_val]
  exact ⟨rfl, h3⟩

/-- a contract as a call wants it -/
theorem enter_of {f : FuncId} {fn : Func} {args : Array Value} {w : World} (hf : P.funcs[f]? = some fn) (hname : (fn.name == "runtime.NumGoroutine") = false) (hb : fn.body.isNone = false) : (callFunc f args).run P w = .ok (.enter f args) w := by
  have h1 : fn.name ≠ "runtime.NumGoroutine" := by simpa using hname
  have h2 : fn.body ≠ none := by intro e; rw [e] at hb; cases hb
  simp [callFunc, hf, h1, h2]

theorem callG_of {L : Laid} {f : FuncId} {fn : Func} {args : Array Value} {u : Value} (hf : P.funcs[f]? = some fn) (hname : (fn.name == "runtime.NumGoroutine") = false) (hb : fn.body.isNone = false)
    (h : ∀ w, L.K ≤ w.heap.size → L.G w → Calls P f args w fun e w' => e = .returned u ∧ Below w.heap.size w w') : CallG P L f args u := fun w hK hG =>
  .inr ⟨f, args, enter_of hf hname hb, h w hK hG⟩

theorem callP_of {f : FuncId} {fn : Func} {args : Array Value} {u : Value} (hf : P.funcs[f]? = some fn) (hname : (fn.name == "runtime.NumGoroutine") = false) (hb : fn.body.isNone = false)
    (h : ∀ w, Calls P f args w fun e w' => e = .returned u ∧ Below w.heap.size w w') : CallP P f args u := fun w =>
  .inr ⟨f, args, enter_of hf hname hb, h w⟩

theorem callS_of {L : Laid} {f : FuncId} {fn : Func} {args : List SArg} {res : List SRes} (hf : P.funcs[f]? = some fn) (hname : (fn.name == "runtime.NumGoroutine") = false) (hb : fn.body.isNone = false)
    (h : ∀ w us, L.K ≤ w.heap.size → L.G w → argsIs w args us → Calls P f us.toArray w fun e w' => ∃ vs, e = .returned (retOf vs) ∧ resIs w.heap.size w' res vs ∧ Below w.heap.size w w') : CallS P L f args res := fun w us hK hG ha =>
  ⟨enter_of hf hname hb, h w us hK hG ha⟩

/-- in a world of which nothing is known, then in any -/
theorem CallS.g {L : Laid} {f : FuncId} {args : List SArg} {res : List SRes} (h : CallS P L0 f args res) : CallS P L f args res := fun w us _ _ ha => h w us (Nat.zero_le _) trivial ha

end
end Go.Sx
