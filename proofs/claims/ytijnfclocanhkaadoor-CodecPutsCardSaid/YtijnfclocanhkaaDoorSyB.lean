/- Loops of symbolic runs, by what holds at their head. -/
import Derived.Test.YtijnfclocanhkaaDoorSyA
set_option linter.unusedVariables false
set_option linter.unusedSimpArgs false
namespace Go.Sx
open Go Go.RowKit

/-! ### a state under one environment is another under another; memory y of the other is memory ren[y] of the one -/
def rn (ren : List (Option Nat)) (y x : Nat) : Prop := ren.getD y none = some x

def scTo (v v' : Env) : Sc → Sc → Prop
  | .int k e, .int k' e' => k = k' ∧ e.den v = e'.den v'
  | .bool b, .bool b' => b.den v = b'.den v' ∧ True
  | _, _ => False
def scsTo (v v' : Env) : List Sc → List Sc → Prop
  | [], [] => True
  | x :: l, y :: m => scTo v v' x y ∧ scsTo v v' l m
  | _, _ => False
def nlTo (v v' : Env) : Option Bx → Option Bx → Prop
  | _, none => True
  | some b, some b' => b.den v = b'.den v' ∧ True
  | none, some _ => False
def aTo (v v' : Env) (ren : List (Option Nat)) : A → A → Prop
  | .sc s, .sc s' => scTo v v' s s'
  | .agg l, .agg m => scsTo v v' l m
  | .ptr x o, .ptr y o' => rn ren y x ∧ o = o'
  | .slc x o l c, .slc y o' l' c' => rn ren y x ∧ o = o' ∧ l = l' ∧ c = c'
  | .nils, .nils => True
  | .fn f l, .fn g m => f = g ∧ scsTo v v' l m
  | .bsl x o l f, .bsl y o' l' f' => rn ren y x ∧ (f' = true → f = true) ∧ o.den v = o'.den v' ∧ l.den v = l'.den v'
  | .nils, .bsl _ _ l _ => l.den v' = 0 ∧ True
  | .bptr x i, .bptr y j => rn ren y x ∧ i.den v = j.den v'
  | .imm l nl, .imm l' nl' => l.ldn v = l'.ldn v' ∧ nlTo v v' nl nl'
  | .immp e, .immp e' => e.den v = e'.den v' ∧ True
  | .immP n, .immP n' => v.pp n = v'.pp n' ∧ True
  | .immPp n i, .immPp n' i' => v.pp n = v'.pp n' ∧ i.den v = i'.den v'
  | _, _ => False
def asTo (v v' : Env) (ren : List (Option Nat)) : List A → List A → Prop
  | [], [] => True
  | x :: l, y :: m => aTo v v' ren x y ∧ asTo v v' ren l m
  | _, _ => False
def avTo (v v' : Env) (ren : List (Option Nat)) : AV → AV → Prop
  | _, .undef => True
  | .one a, .one b => aTo v v' ren a b
  | .tup l, .tup m => asTo v v' ren l m
  | _, _ => False
def frTo (v v' : Env) (ren : List (Option Nat)) : List AV → List AV → Prop
  | [], [] => True
  | x :: l, y :: m => avTo v v' ren x y ∧ frTo v v' ren l m
  | _, _ => False
def rowTo (v v' : Env) : Option (IntKind × I) → IntKind → I → Prop
  | some (k', l'), k, l => k' = k ∧ l'.ldn v = l.ldn v'
  | none, _, _ => False
def blkTo (v v' : Env) (ren : List (Option Nat)) (b c : Blk) : Prop :=
  b.T = c.T ∧ b.own = c.own ∧ b.dead = c.dead ∧
    match c.row with
    | none => b.row = none ∧ b.more = c.more ∧ asTo v v' ren b.cells c.cells
    | some (k, l) => rowTo v v' b.nums k l
def blkAt (v v' : Env) (ren : List (Option Nat)) (fm : List Blk) (r : Option Nat) (c : Blk) : Prop :=
  match r with
  | none => c.row.isSome = true
  | some x => match fm[x]? with
    | some b => match c.dead with
      | true => c.row.isSome = true
      | false => blkTo v v' ren b c
    | none => False
def memTo (v v' : Env) (ren : List (Option Nat)) (fm : List Blk) : List (Option Nat) → List Blk → Prop
  | [], [] => True
  | r :: rs, c :: cs => blkAt v v' ren fm r c ∧ memTo v v' ren fm rs cs
  | _, _ => False
def renB (ren : List (Option Nat)) (g : Fm) : Bool := decide ((ren.filterMap id).Nodup) && g.gl.all fun z => decide (ren.getD z.2 none = some z.2)
def Fm.to (v v' : Env) (ren : List (Option Nat)) (f g : Fm) : Prop := frTo v v' ren f.fr g.fr ∧ memTo v v' ren f.mem ren g.mem ∧ f.gl = g.gl ∧ renB ren g = true ∧ v'.L = v.L ∧ v'.w = v.w

section
variable {P : Program} {v v' : Env}

theorem scTo_den {x y : Sc} (h : scTo v v' x y) : x.den v = y.den v' := by
  cases x <;> cases y <;> simp only [scTo] at h
  · obtain ⟨rfl, h⟩ := h; simp only [Sc.den, h]
  · simp only [Sc.den, h.1]
theorem scsTo_den : ∀ {l m : List Sc}, scsTo v v' l m → l.map (Sc.den v) = m.map (Sc.den v')
  | [], [], _ => rfl
  | x :: l, y :: m, ⟨h1, h2⟩ => by simp only [List.map_cons, scTo_den h1, scsTo_den h2]
  | [], _ :: _, h => h.elim
  | _ :: _, [], h => h.elim

theorem nlTo_ok {nl nl' : Option Bx} (h : nlTo v v' nl nl') {b' : Bx} (hb : nl' = some b') : ∃ b, nl = some b ∧ b.den v = b'.den v' := by
  subst hb
  cases nl with
  | none => simp only [nlTo] at h
  | some b => exact ⟨b, rfl, h.1⟩

/-- the map of memories, by their other numbers -/
def Mp.ren (p : Mp) (ren : List (Option Nat)) : Mp := fun y => (ren.getD y none).bind p
theorem Mp.ren_rn {p : Mp} {ren : List (Option Nat)} {y x : Nat} (h : rn ren y x) : p.ren ren y = p x := by
  unfold Mp.ren
  rw [show ren.getD y none = some x from h]
  rfl

theorem aTo_is {ren : List (Option Nat)} (hw : v'.w = v.w) {a b : A} (h : aTo v v' ren a b) {p : Mp} {u : Value} (k : a.Is v p u) : b.Is v' (p.ren ren) u := by
  cases a <;> cases b <;> simp only [aTo] at h
  · rw [show u = _ from k]; exact scTo_den h
  · rw [show u = _ from k]; show _ = _; rw [scsTo_den h]
  · obtain ⟨h1, rfl⟩ := h
    obtain ⟨r, m, k1, k2⟩ := k
    exact ⟨r, m, by rw [Mp.ren_rn h1]; exact k1, k2⟩
  · obtain ⟨h1, rfl, rfl, rfl⟩ := h
    obtain ⟨r, m, k1, k2⟩ := k
    exact ⟨r, m, by rw [Mp.ren_rn h1]; exact k1, k2⟩
  · exact k
  · rw [show u = _ from k]
    exact ⟨none, 0, 0, h.1, rfl, Nat.le_refl _, Nat.zero_le _, .inl rfl⟩
  · obtain ⟨rfl, h⟩ := h
    rw [show u = _ from k]; show _ = _; rw [scsTo_den h]
  · obtain ⟨h1, h2, h3, h4⟩ := h
    obtain ⟨bb, n, c, k1, k2, k3, k4, k5⟩ := k
    refine ⟨bb, n, c, by rw [← h4]; exact k1, k2, k3, k4, ?_⟩
    rcases k5 with k5 | ⟨r, N, o, j1, j2, j3, j4⟩
    · exact .inl k5
    · exact .inr ⟨r, N, o, by rw [Mp.ren_rn h1]; exact j1, by rw [← h3]; exact j2, j3, fun hf => j4 (h2 hf)⟩
  · obtain ⟨h1, h2⟩ := h
    obtain ⟨r, N, o, j1, j2, j3⟩ := k
    exact ⟨r, N, o, by rw [Mp.ren_rn h1]; exact j1, by rw [← h2]; exact j2, j3⟩
  · obtain ⟨h1, h2⟩ := h
    obtain ⟨k1, k2⟩ := k
    refine ⟨by rw [hw, ← h1]; exact k1, fun b' hb' => ?_⟩
    obtain ⟨b, hb, e⟩ := nlTo_ok h2 hb'
    rw [← e]
    exact k2 b hb
  · obtain ⟨r, o, k1, k2⟩ := k
    exact ⟨r, o, k1, by rw [hw, ← h.1]; exact k2⟩
  · show ReadsP v'.w u (v'.pp _)
    rw [hw, ← h.1]
    exact k
  · obtain ⟨h1, h2⟩ := h
    obtain ⟨r, o, y, k1, k2, k3⟩ := k
    exact ⟨r, o, y, k1, by rw [hw]; exact k2, by rw [hw, ← h1, ← h2]; exact k3⟩

theorem asTo_is {ren : List (Option Nat)} (hw : v'.w = v.w) {p : Mp} : ∀ {l m : List A} {us : List Value}, asTo v v' ren l m → listIs v p l us → listIs v' (p.ren ren) m us
  | [], [], _, _, k => k
  | x :: l, y :: m, us, ⟨h1, h2⟩, ⟨u, us', e, k1, k2⟩ => ⟨u, us', e, aTo_is hw h1 k1, asTo_is hw h2 k2⟩
  | [], _ :: _, _, h, _ => h.elim
  | _ :: _, [], _, h, _ => h.elim

theorem asTo_length {ren : List (Option Nat)} : ∀ {l m : List A}, asTo v v' ren l m → l.length = m.length
  | [], [], _ => rfl
  | _ :: _, _ :: _, ⟨_, h2⟩ => by simp [asTo_length h2]
  | [], _ :: _, h => h.elim
  | _ :: _, [], h => h.elim

theorem avTo_is {ren : List (Option Nat)} (hw : v'.w = v.w) {a b : AV} (h : avTo v v' ren a b) {p : Mp} {u : Value} (k : a.Is v p u) : b.Is v' (p.ren ren) u := by
  cases b with
  | undef => trivial
  | one b => cases a <;> simp only [avTo] at h; exact aTo_is hw h k
  | tup m =>
    cases a <;> simp only [avTo] at h
    obtain ⟨us, e, k⟩ := k
    exact ⟨us, e, asTo_is hw h k⟩
  | when c w b => cases a <;> simp only [avTo] at h

theorem frTo_is {ren : List (Option Nat)} (hw : v'.w = v.w) {p : Mp} : ∀ {l m : List AV}, frTo v v' ren l m → l.length = m.length ∧ ∀ (t : Nat) (u : Value), (l.getD t .undef).Is v p u → (m.getD t .undef).Is v' (p.ren ren) u
  | [], [], _ => ⟨rfl, fun _ _ _ => trivial⟩
  | x :: l, y :: m, ⟨h1, h2⟩ => by
    obtain ⟨k1, k2⟩ := frTo_is hw (p := p) h2
    refine ⟨by simp [k1], fun t u hu => ?_⟩
    cases t with
    | zero => exact avTo_is hw h1 hu
    | succ t => exact k2 t u hu
  | [], _ :: _, h => h.elim
  | _ :: _, [], h => h.elim

theorem memTo_is {ren : List (Option Nat)} {fm : List Blk} : ∀ {rs : List (Option Nat)} {m : List Blk}, memTo v v' ren fm rs m → rs.length = m.length ∧ ∀ (y : Nat) (c : Blk), m[y]? = some c → blkAt v v' ren fm (rs.getD y none) c
  | [], [], _ => ⟨rfl, fun y c hc => by simp at hc⟩
  | r :: rs, c :: m, ⟨h1, h2⟩ => by
    obtain ⟨k1, k2⟩ := memTo_is h2
    refine ⟨by simp [k1], fun y c' hc => ?_⟩
    cases y with
    | zero => simp only [List.getElem?_cons_zero, Option.some.injEq] at hc; subst hc; exact h1
    | succ y => simp only [List.getElem?_cons_succ] at hc; exact k2 y c' hc
  | [], _ :: _, h => h.elim
  | _ :: _, [], h => h.elim

theorem lkp_all {f : Nat → Bool} : ∀ {l : List (Nat × Nat)}, (l.all fun x => f x.2) = true → ∀ {g x : Nat}, lkp l g = some x → f x = true
  | [], _, g, x, h => by simp [lkp] at h
  | (a, b) :: l, hl, g, x, h => by
    simp only [List.all_cons, Bool.and_eq_true] at hl
    simp only [lkp] at h
    split at h
    · simp only [Option.some.injEq] at h; subst h; exact hl.1
    · exact lkp_all hl.2 h

theorem ren_inj : ∀ {ren : List (Option Nat)}, (ren.filterMap id).Nodup → ∀ {y z x : Nat}, ren.getD y none = some x → ren.getD z none = some x → y = z
  | [], _, y, z, x, h, _ => by simp at h
  | r :: rs, hn, y, z, x, h, k => by
    have hmem : ∀ {y : Nat} {x : Nat}, rs.getD y none = some x → x ∈ rs.filterMap id := by
      intro y x h
      rw [List.getD_eq_getElem?_getD] at h
      cases hq : rs[y]? with
      | none => rw [hq] at h; cases h
      | some o =>
        rw [hq] at h
        simp only [Option.getD_some] at h
        subst h
        exact List.mem_filterMap.2 ⟨some x, List.mem_of_getElem? hq, rfl⟩
    have hn2 : (rs.filterMap id).Nodup := by
      cases r with
      | none => simpa using hn
      | some a => simp only [List.filterMap_cons, id] at hn; exact (List.nodup_cons.1 hn).2
    cases y with
    | zero =>
      cases z with
      | zero => rfl
      | succ z =>
        simp only [List.getD_cons_zero] at h
        simp only [List.getD_cons_succ] at k
        subst h
        simp only [List.filterMap_cons, id] at hn
        exact absurd (hmem k) (List.nodup_cons.1 hn).1
    | succ y =>
      cases z with
      | zero =>
        simp only [List.getD_cons_zero] at k
        simp only [List.getD_cons_succ] at h
        subst k
        simp only [List.filterMap_cons, id] at hn
        exact absurd (hmem h) (List.nodup_cons.1 hn).1
      | succ z =>
        simp only [List.getD_cons_succ] at h k
        rw [ren_inj hn2 h k]

theorem to_rel {ren : List (Option Nat)} {f g : Fm} (h : Fm.to v v' ren f g) {a : Act} {w : World} {p : Mp} (hr : RelP v f.sig a w p) : RelP v' g.sig a w (p.ren ren) := by
  obtain ⟨h1, h2, h3, h4, h5, h6⟩ := h
  obtain ⟨k1, k2⟩ := frTo_is h6 (p := p) h1
  obtain ⟨m1, m2⟩ := memTo_is h2
  unfold renB at h4
  rw [Bool.and_eq_true, decide_eq_true_eq] at h4
  obtain ⟨hnd, hgl⟩ := h4
  -- a memory that is not dead and has a block
  have live : ∀ y c r n, g.mem[y]? = some c → c.dead = false → p.ren ren y = some (r, n) → ∃ x b, ren.getD y none = some x ∧ f.mem[x]? = some b ∧ b.dead = false ∧ p x = some (r, n) ∧ blkTo v v' ren b c := by
    intro y c r n hc hd hp
    have hb := m2 y c hc
    unfold Mp.ren at hp
    cases hx : ren.getD y none with
    | none => rw [hx] at hp; cases hp
    | some x =>
      rw [hx] at hp hb
      simp only [blkAt] at hb
      cases hq : f.mem[x]? with
      | none => rw [hq] at hb; exact hb.elim
      | some b =>
        rw [hq] at hb
        simp only [hd] at hb
        exact ⟨x, b, rfl, hq, by rw [hb.2.2.1]; exact hd, hp, hb⟩
  refine ⟨hr.defers, by rw [hr.size]; exact k1, by rw [h6]; exact hr.base, by rw [h6]; exact hr.below, ?_, ?_, ?_, ?_, fun t => k2 t _ (hr.frame t), by rw [h5, h6]; exact hr.gk, by rw [h5, h6]; exact hr.g0⟩
  · intro y z r n m b c hb hbd hc hcd hpy hpz
    obtain ⟨x1, b1, e1, e2, e3, e4, _⟩ := live y b r n hb hbd hpy
    obtain ⟨x2, b2, i1, i2, i3, i4, _⟩ := live z c r m hc hcd hpz
    have := hr.inj x1 x2 r n m b1 b2 e2 e3 i2 i3 e4 i4
    subst this
    exact ren_inj hnd e1 i1
  · intro y c hc
    have hc' : g.mem[y]? = some c := hc
    have hb := m2 y c hc'
    cases hx : ren.getD y none with
    | none =>
      rw [hx] at hb
      exact .inl ⟨hb, by unfold Mp.ren; rw [hx]; rfl⟩
    | some x =>
      rw [hx] at hb
      simp only [blkAt] at hb
      cases hq : f.mem[x]? with
      | none => rw [hq] at hb; exact hb.elim
      | some b =>
        rw [hq] at hb
        have hpx : p.ren ren y = p x := Mp.ren_rn hx
        cases hd : c.dead with
        | true =>
          simp only [hd] at hb
          rcases hr.mem x b hq with ⟨j1, j2⟩ | ⟨r, n, j1, j2, j3⟩
          · exact .inl ⟨hb, by rw [hpx]; exact j2⟩
          · exact .inr ⟨r, n, by rw [hpx]; exact j1, j2, fun hdd => by rw [hd] at hdd; cases hdd⟩
        | false =>
          simp only [hd] at hb
          obtain ⟨b1, b2, b3, b4⟩ := hb
          rcases hr.mem x b hq with ⟨j1, j2⟩ | ⟨r, n, j1, j2, j3⟩
          · refine .inl ⟨?_, by rw [hpx]; exact j2⟩
            cases hrow : c.row with
            | some kl => rfl
            | none => simp only [hrow] at b4; rw [b4.1] at j1; cases j1
          · refine .inr ⟨r, n, by rw [hpx]; exact j1, j2, fun _ => ?_⟩
            obtain ⟨cs, fz, i1, i2, i3, i4⟩ := j3 (by rw [b3]; exact hd)
            refine ⟨cs, fz, by rw [← b1]; exact i1, i2, ?_, fun ho => by rw [h6]; exact i4 (by rw [b2]; exact ho)⟩
            unfold Blk.holds
            cases hrow : c.row with
            | none =>
              simp only [hrow] at b4 ⊢
              obtain ⟨b5, b6, b7⟩ := b4
              unfold Blk.holds at i3
              rw [b5] at i3
              have hl := asTo_length b7
              exact ⟨fun hm => by rw [i3.1 (by rw [b6]; exact hm)]; exact hl, by rw [← hl]; exact asTo_is h6 b7 i3.2⟩
            | some kl =>
              obtain ⟨k, l⟩ := kl
              simp only [hrow] at b4 ⊢
              cases hn : b.nums with
              | none => rw [hn] at b4; exact b4.elim
              | some kl' =>
                obtain ⟨k', l'⟩ := kl'
                rw [hn] at b4
                obtain ⟨rfl, b5⟩ := b4
                rw [← b5]
                exact i3.nums hn
  · intro y hy
    have hy' : g.mem[y]? = none := hy
    rw [List.getElem?_eq_none_iff] at hy'
    unfold Mp.ren
    rw [List.getD_eq_getElem?_getD, List.getElem?_eq_none (by omega)]
    rfl
  · intro gg x hx
    have hx' := of_decide_eq_true (lkp_all (f := fun x => decide (ren.getD x none = some x)) hgl (show lkp g.gl gg = some x from hx))
    obtain ⟨n, hn⟩ := hr.glob gg x (show lkp f.gl gg = some x by rw [h3]; exact hx)
    exact ⟨n, by rw [Mp.ren_rn hx']; exact hn⟩

/-- one round: from the head, under u, the body comes to e and there to g under u' -/
def Round (P : Program) (body : Code) (head : Fm) (u : Env) (e : Ex) (g : Fm) (u' : Env) : Prop :=
  ∃ u2 r0 r1, Fm.to u u2 r0 head head ∧ ∃ fuel nv ora sums st, codeSt P fuel false body ⟨head, nv, ora, sums, [], []⟩ = some (e, st) ∧ okEv P u2 st ∧ Fm.to u2 u' r1 st.fm g

theorem Round.mk {P : Program} {body : Code} {head g : Fm} {u u' : Env} {e : Ex} (u2 : Env) (r0 r1 : List (Option Nat)) (fuel nv : Nat) (ora : List (Option Bool)) (sums : List (Option LSum)) (st : St) (h1 : Fm.to u u2 r0 head head) (h2 : codeSt P fuel false body ⟨head, nv, ora, sums, [], []⟩ = some (e, st))
    (h3 : okEv P u2 st) (h4 : Fm.to u2 u' r1 st.fm g) : Round P body head u e g u' := ⟨u2, r0, r1, h1, fuel, nv, ora, sums, st, h2, h3, h4⟩

theorem round_wp {body : Code} {head g : Fm} {u u' : Env} {e : Ex} (h : Round P body head u e g u') {Q : Exit → Act → World → Prop} {a : Act} {w : World} {p : Mp} (hr : RelP u head.sig a w p)
    (hQ : ∀ a' w' q, RelP u' g.sig a' w' q → Q e.to a' w') : body.wp P Q a w := by
  obtain ⟨u2, r0, r1, h0, fuel, nv, ora, sums, st, h1, h2, h3⟩ := h
  exact (codeSt_wp fuel false body _ st e h1 h2 Q a w _ (to_rel h0 hr) fun a' w' q hr' => hQ a' w' _ (to_rel h3 hr')).1

/-- a loop of n rounds and a last one that leaves it -/
theorem loop_rounds {body : Code} {pre head post : Fm} {ex : Ex} {n : Nat} {v : Env} (u : Nat → Env) {r0 r1 : List (Option Nat)} (start : Fm.to v (u 0) r0 pre head) (round : ∀ k, k < n → Round P body head (u k) .normal head (u (k + 1)))
    (u' : Env) (last : Round P body head (u n) ex post u') (fin : Fm.to u' v r1 post post) (hex : ex ≠ .normal) : LEv.holds P v ⟨body, pre, post, ex⟩ := by
  intro a w p hr
  have key : ∀ m k, k + m = n → ∀ a w p, RelP (u k) head.sig a w p → Code.rounds P body (fun e a' w' => e = ex.to ∧ ∃ q, RelP v post.sig a' w' q) (m + 1) a w := by
    intro m
    induction m with
    | zero =>
      intro k hk a w p hr
      rw [rounds_succ]
      have : k = n := by omega
      subst this
      refine round_wp last hr fun a' w' q hr' => ?_
      have hpost := to_rel fin hr'
      cases ex with
      | normal => exact absurd rfl hex
      | exit id => exact ⟨rfl, _, hpost⟩
      | ret => exact ⟨rfl, _, hpost⟩
    | succ m ih =>
      intro k hk a w p hr
      rw [rounds_succ]
      exact round_wp (round k (by omega)) hr fun a' w' q hr' => ih (k + 1) (by omega) a' w' q hr'
  exact wp_loop_rounds (n + 1) (key n 0 (by omega) a w _ (to_rel start hr))

end

/-! ### the loops of a text -/
def loopsOf : Code → List Code
  | .seq a b => loopsOf a ++ loopsOf b
  | .cond _ a b => loopsOf a ++ loopsOf b
  | .block _ a => loopsOf a
  | .loop a => a :: loopsOf a
  | .scope a => loopsOf a
  | _ => []
def loopOf (fn : Func) (i : Nat) : Code := match fn.body with | some c => (loopsOf c).getD i .skip | none => .skip

def allL (P : Program) (v : Env) : List LEv → Prop
  | [] => True
  | l :: r => l.holds P v ∧ allL P v r
theorem levs_of {P : Program} {v : Env} : ∀ {l : List LEv}, allL P v l → ∀ e ∈ l, e.holds P v
  | [], _ => by simp
  | e :: l, h => by
    intro e' he
    rcases List.mem_cons.1 he with rfl | he
    · exact h.1
    · exact levs_of h.2 e' he

end Go.Sx
