/- Symbolic runs of code and of functions. -/
import Derived.Test.YtijnfclocanhkaaDoorSy8
import Derived.Scope
set_option linter.unusedVariables false
set_option linter.unusedSimpArgs false
namespace Go.Sx
open Go Go.RowKit

def putAll (l : List AV) : List (Nat × AV) → Option (List AV)
  | [] => some l
  | (d, x) :: r => if d < l.length then putAll (l.set d x) r else none

/-- the state behind a loop, by its summary -/
def Fm.loop (m : Fm) (s : LSum) : Option Fm :=
  match putAll m.fr s.fr, setMems m.mem s.mem with
  | some f, some l => some ⟨f, l, m.gl⟩
  | _, _ => none

/-! ### two ways that meet again -/
section
variable {P : Program} {v v' : Env}

/-- the same memory, told in other words -/
theorem RelP.swap {s s' : Sig} {a : Act} {w : World} {p : Mp} (h : RelP v s a w p) (hL : v'.L = v.L) (hW : v'.w = v.w) (hn : s'.n = s.n) (hg : s'.gl = s.gl) (hf : ∀ t u, (s.fr t).Is v p u → (s'.fr t).Is v' p u)
    (hm : ∀ x b, s'.mem x = some b → ∃ b0, s.mem x = some b0 ∧ b.dead = b0.dead ∧ (b0.row.isSome = true → b.row.isSome = true) ∧ ∀ r n, b0.Is v p v.w.heap.size w r n → b.Is v' p v.w.heap.size w r n) (hz : ∀ x, s'.mem x = none → s.mem x = none) : RelP v' s' a w p := by
  refine ⟨h.defers, by rw [hn]; exact h.size, by rw [hW]; exact h.base, by rw [hW]; exact h.below, ?_, ?_, fun x hx => h.free x (hz x hx), fun g x hgx => h.glob g x (by rw [← hg]; exact hgx), fun t => hf t _ (h.frame t), by rw [hL, hW]; exact h.gk, by rw [hL, hW]; exact h.g0⟩
  · intro x y r n m b c hb hbd hc hcd hpx hpy
    obtain ⟨b0, h1, h2, _⟩ := hm x b hb
    obtain ⟨c0, h3, h4, _⟩ := hm y c hc
    exact h.inj x y r n m b0 c0 h1 (by rw [← h2]; exact hbd) h3 (by rw [← h4]; exact hcd) hpx hpy
  · intro x b hb
    obtain ⟨b0, h1, _, h2, h3⟩ := hm x b hb
    rcases h.mem x b0 h1 with ⟨k1, k2⟩ | ⟨r, n, k1, k2, k3⟩
    · exact .inl ⟨h2 k1, k2⟩
    · exact .inr ⟨r, n, k1, k2, by rw [hW]; exact h3 r n k3⟩

def joinSc (b : Bx) (x y : Sc) (nv : Nat) : Option (Sc × List Ev × Nat) :=
  if x = y then some (x, [], nv) else
  match x, y with
  | .int k e, .int k' e' => if k = k' then some (.int k (.var nv), [.sel nv b e e'], nv + 1) else none
  | .bool c, .bool c' => some (.bool (.var nv), [.selB nv b c c'], nv + 1)
  | _, _ => none

def joinScs (b : Bx) : List Sc → List Sc → Nat → Option (List Sc × List Ev × Nat)
  | [], [], nv => some ([], [], nv)
  | x :: l, y :: m, nv => match joinSc b x y nv with
    | some (z, ev, nv1) => match joinScs b l m nv1 with
      | some (r, ev', nv2) => some (z :: r, ev ++ ev', nv2)
      | none => none
    | none => none
  | _, _, _ => none

def joinA (b : Bx) (x y : A) (nv : Nat) : Option (A × List Ev × Nat) :=
  if x = y then some (x, [], nv) else
  match x, y with
  | .sc s, .sc s' => match joinSc b s s' nv with | some (z, ev, n) => some (.sc z, ev, n) | none => none
  | .agg l, .agg m => match joinScs b l m nv with | some (z, ev, n) => some (.agg z, ev, n) | none => none
  | _, _ => none

def joinAV (b : Bx) (x y : AV) (nv : Nat) : AV × List Ev × Nat :=
  if x = y then (x, [], nv) else
  match x, y with
  | .one s, .one s' => match joinA b s s' nv with | some (z, ev, n) => (.one z, ev, n) | none => (.undef, [], nv)
  | _, _ => (.undef, [], nv)

def joinFr (b : Bx) : List AV → List AV → Nat → Option (List AV × List Ev × Nat)
  | [], [], nv => some ([], [], nv)
  | x :: l, y :: m, nv => match joinFr b l m (joinAV b x y nv).2.2 with
    | some (r, ev, n) => some ((joinAV b x y nv).1 :: r, (joinAV b x y nv).2.1 ++ ev, n)
    | none => none
  | _, _, _ => none

def joinCs (b : Bx) : List A → List A → Nat → Option (List A × List Ev × Nat)
  | [], [], nv => some ([], [], nv)
  | x :: l, y :: m, nv => match joinA b x y nv with
    | some (z, ev, nv1) => match joinCs b l m nv1 with
      | some (r, ev', nv2) => some (z :: r, ev ++ ev', nv2)
      | none => none
    | none => none
  | _, _, _ => none

def joinBlk (b : Bx) (x y : Blk) (nv : Nat) : Option (Blk × List Ev × Nat) :=
  if x = y then some (x, [], nv) else
  if x.T = y.T ∧ x.more = y.more ∧ x.own = y.own ∧ x.dead = y.dead then
    match x.row, y.row with
    | none, none => match joinCs b x.cells y.cells nv with
      | some (cs, ev, n) => some ({ x with cells := cs }, ev, n)
      | none => none
    | _, _ => match x.nums, y.nums with
      | some (k, l), some (k', l') => if k = k' then some ({ x with cells := [], row := some (k, .lvar nv) }, [.selL nv b l l'], nv + 1) else none
      | _, _ => none
  else none

def joinMem (b : Bx) : List Blk → List Blk → Nat → Option (List Blk × List Ev × Nat)
  | [], [], nv => some ([], [], nv)
  | x :: l, y :: m, nv => match joinBlk b x y nv with
    | some (z, ev, nv1) => match joinMem b l m nv1 with
      | some (r, ev', nv2) => some (z :: r, ev ++ ev', nv2)
      | none => none
    | none => none
  | _, _, _ => none

def joinFm (b : Bx) (f g : Fm) (nv : Nat) : Option (Fm × List Ev × Nat) :=
  match joinFr b f.fr g.fr nv with
  | some (fr, ev, n) => match joinMem b f.mem g.mem n with
    | some (mem, ev', m) => if f.gl = g.gl then some (⟨fr, mem, f.gl⟩, ev ++ ev', m) else none
    | none => none
  | none => none

theorem joinSc_den {b : Bx} {x y z : Sc} {nv n : Nat} {ev : List Ev} (h : joinSc b x y nv = some (z, ev, n)) (he : ∀ e ∈ ev, e.holds P v) : z.den v = if b.den v = true then x.den v else y.den v := by
  unfold joinSc at h
  split at h
  · rename_i e
    simp only [Option.some.injEq, Prod.mk.injEq] at h
    obtain ⟨rfl, _⟩ := h
    rw [e]; split <;> rfl
  · split at h
    · split at h
      · rename_i k e k' e' hk
        simp only [Option.some.injEq, Prod.mk.injEq] at h
        obtain ⟨rfl, rfl, _⟩ := h
        have := he _ (List.mem_singleton.2 rfl)
        simp only [Ev.holds] at this
        subst hk
        simp only [Sc.den, I.den, this]
        split <;> rfl
      · cases h
    · simp only [Option.some.injEq, Prod.mk.injEq] at h
      obtain ⟨rfl, rfl, _⟩ := h
      have := he _ (List.mem_singleton.2 rfl)
      simp only [Ev.holds] at this
      simp only [Sc.den, Bx.den, this]
      split <;> rfl
    · cases h

theorem joinScs_den {b : Bx} : ∀ {l m z : List Sc} {nv n : Nat} {ev : List Ev}, joinScs b l m nv = some (z, ev, n) → (∀ e ∈ ev, e.holds P v) → z.map (Sc.den v) = if b.den v = true then l.map (Sc.den v) else m.map (Sc.den v)
  | [], [], z, nv, n, ev, h, _ => by simp [joinScs] at h; obtain ⟨rfl, _⟩ := h; simp
  | x :: l, y :: m, z, nv, n, ev, h, he => by
    simp only [joinScs] at h
    split at h
    · rename_i z1 ev1 nv1 h1
      split at h
      · rename_i r ev2 nv2 h2
        simp only [Option.some.injEq, Prod.mk.injEq] at h
        obtain ⟨rfl, rfl, _⟩ := h
        have e1 := joinSc_den h1 (fun e hm => he e (by simp [hm]))
        have e2 := joinScs_den h2 (fun e hm => he e (by simp [hm]))
        simp only [List.map_cons, e1, e2]
        split <;> rfl
      · cases h
    · cases h
  | [], y :: m, z, nv, n, ev, h, _ => by simp [joinScs] at h
  | x :: l, [], z, nv, n, ev, h, _ => by simp [joinScs] at h

theorem joinA_is {b : Bx} {x y z : A} {nv n : Nat} {ev : List Ev} (h : joinA b x y nv = some (z, ev, n)) (he : ∀ e ∈ ev, e.holds P v) {p : Mp} {u : Value} (k : (if b.den v = true then x else y).Is v p u) : z.Is v p u := by
  unfold joinA at h
  split at h
  · rename_i e
    simp only [Option.some.injEq, Prod.mk.injEq] at h
    obtain ⟨rfl, _⟩ := h
    subst e
    split at k <;> exact k
  · split at h
    · split at h
      · rename_i s s' z' ev' n' h1
        simp only [Option.some.injEq, Prod.mk.injEq] at h
        obtain ⟨rfl, rfl, _⟩ := h
        show u = _
        rw [joinSc_den h1 he]
        split at k <;> rename_i hb
        · rw [if_pos hb]; exact k
        · rw [if_neg hb]; exact k
      · cases h
    · split at h
      · rename_i l m z' ev' n' h1
        simp only [Option.some.injEq, Prod.mk.injEq] at h
        obtain ⟨rfl, rfl, _⟩ := h
        show u = _
        rw [joinScs_den h1 he]
        split at k <;> rename_i hb
        · rw [if_pos hb]; exact k
        · rw [if_neg hb]; exact k
      · cases h
    · cases h

theorem joinAV_is {b : Bx} {x y : AV} {nv : Nat} (he : ∀ e ∈ (joinAV b x y nv).2.1, e.holds P v) {p : Mp} {u : Value} (k : (if b.den v = true then x else y).Is v p u) : (joinAV b x y nv).1.Is v p u := by
  unfold joinAV at *
  split
  · rename_i e
    subst e
    split at k <;> exact k
  · rename_i hne
    rw [if_neg hne] at he
    split
    · rename_i s s'
      split
      · rename_i z ev n h1
        simp only [h1] at he
        refine joinA_is h1 he ?_
        split at k <;> rename_i hb
        · rw [if_pos hb]; exact k
        · rw [if_neg hb]; exact k
      · trivial
    · trivial

theorem joinFr_is {b : Bx} : ∀ {l m z : List AV} {nv n : Nat} {ev : List Ev}, joinFr b l m nv = some (z, ev, n) → (∀ e ∈ ev, e.holds P v) → z.length = l.length ∧ z.length = m.length ∧
    ∀ (t : Nat) (p : Mp) (u : Value), ((if b.den v = true then l else m).getD t .undef).Is v p u → (z.getD t .undef).Is v p u
  | [], [], z, nv, n, ev, h, _ => by simp [joinFr] at h; obtain ⟨rfl, _⟩ := h; exact ⟨rfl, rfl, fun _ _ _ _ => trivial⟩
  | x :: l, y :: m, z, nv, n, ev, h, he => by
    simp only [joinFr] at h
    split at h
    · rename_i r ev2 nv2 h2
      simp only [Option.some.injEq, Prod.mk.injEq] at h
      obtain ⟨rfl, rfl, _⟩ := h
      obtain ⟨k1, k2, k3⟩ := joinFr_is h2 (fun e hm => he e (by simp [hm]))
      refine ⟨by simp [k1], by simp [k2], fun t p u hk => ?_⟩
      cases t with
      | zero =>
        refine joinAV_is (fun e hm => he e (by simp [hm])) ?_
        split at hk <;> rename_i hb
        · rw [if_pos hb]; exact hk
        · rw [if_neg hb]; exact hk
      | succ t =>
        refine k3 t p u ?_
        split at hk <;> rename_i hb
        · rw [if_pos hb]; exact hk
        · rw [if_neg hb]; exact hk
    · cases h
  | [], y :: m, z, nv, n, ev, h, _ => by simp [joinFr] at h
  | x :: l, [], z, nv, n, ev, h, _ => by simp [joinFr] at h

theorem joinCs_is {b : Bx} : ∀ {l m z : List A} {nv n : Nat} {ev : List Ev}, joinCs b l m nv = some (z, ev, n) → (∀ e ∈ ev, e.holds P v) → z.length = l.length ∧ z.length = m.length ∧
    ∀ (p : Mp) (us : List Value), listIs v p (if b.den v = true then l else m) us → listIs v p z us
  | [], [], z, nv, n, ev, h, _ => by simp [joinCs] at h; obtain ⟨rfl, _⟩ := h; exact ⟨rfl, rfl, fun p us k => by split at k <;> exact k⟩
  | x :: l, y :: m, z, nv, n, ev, h, he => by
    simp only [joinCs] at h
    split at h
    · rename_i z1 ev1 nv1 h1
      split at h
      · rename_i r ev2 nv2 h2
        simp only [Option.some.injEq, Prod.mk.injEq] at h
        obtain ⟨rfl, rfl, _⟩ := h
        obtain ⟨k1, k2, k3⟩ := joinCs_is h2 (fun e hm => he e (by simp [hm]))
        refine ⟨by simp [k1], by simp [k2], fun p us hk => ?_⟩
        have ha : ∀ u, (if b.den v = true then x else y).Is v p u → z1.Is v p u := fun u hu => joinA_is h1 (fun e hm => he e (by simp [hm])) hu
        split at hk <;> rename_i hb
        · obtain ⟨u, us', e, j1, j2⟩ := hk
          exact ⟨u, us', e, ha u (by rw [if_pos hb]; exact j1), k3 p us' (by rw [if_pos hb]; exact j2)⟩
        · obtain ⟨u, us', e, j1, j2⟩ := hk
          exact ⟨u, us', e, ha u (by rw [if_neg hb]; exact j1), k3 p us' (by rw [if_neg hb]; exact j2)⟩
      · cases h
    · cases h
  | [], y :: m, z, nv, n, ev, h, _ => by simp [joinCs] at h
  | x :: l, [], z, nv, n, ev, h, _ => by simp [joinCs] at h

theorem joinBlk_is {b : Bx} {x y z : Blk} {nv n : Nat} {ev : List Ev} (h : joinBlk b x y nv = some (z, ev, n)) (he : ∀ e ∈ ev, e.holds P v) :
    z.dead = (if b.den v = true then x else y).dead ∧ ((if b.den v = true then x else y).row.isSome = true → z.row.isSome = true) ∧ ∀ p w r k, (if b.den v = true then x else y).Is v p v.w.heap.size w r k → z.Is v p v.w.heap.size w r k := by
  unfold joinBlk at h
  split at h
  · rename_i e
    simp only [Option.some.injEq, Prod.mk.injEq] at h
    obtain ⟨rfl, _⟩ := h
    subst e
    split <;> exact ⟨rfl, fun h => h, fun _ _ _ _ h => h⟩
  · split at h
    case isFalse => cases h
    rename_i hc
    obtain ⟨c1, c2, c3, c4⟩ := hc
    split at h
    · rename_i hx hy
      split at h
      · rename_i cs ev1 nv1 h1
        simp only [Option.some.injEq, Prod.mk.injEq] at h
        obtain ⟨rfl, rfl, _⟩ := h
        obtain ⟨j1, j2, j3⟩ := joinCs_is h1 he
        by_cases hb : b.den v = true
        · rw [if_pos hb]
          refine ⟨rfl, (fun h => by rw [hx] at h; cases h), fun p w r k hxx hd => ?_⟩
          obtain ⟨us, fz, i1, i2, i3, i4⟩ := hxx hd
          unfold Blk.holds at i3
          rw [hx] at i3
          refine ⟨us, fz, i1, i2, holds_cells hx (fun hm => by rw [i3.1 hm]; exact j1.symm) (by rw [j1]; exact j3 p _ (by rw [if_pos hb]; exact i3.2)), i4⟩
        · rw [if_neg hb]
          refine ⟨c4, (fun h => by rw [hy] at h; cases h), fun p w r k hxx hd => ?_⟩
          obtain ⟨us, fz, i1, i2, i3, i4⟩ := hxx (by rw [← c4]; exact hd)
          unfold Blk.holds at i3
          rw [hy] at i3
          refine ⟨us, fz, by simp only [c1]; exact i1, i2, holds_cells hx (fun hm => by rw [i3.1 (by rw [← c2]; exact hm)]; exact j2.symm) (by rw [j2]; exact j3 p _ (by rw [if_neg hb]; exact i3.2)), fun ho => i4 (by rw [← c3]; exact ho)⟩
      · cases h
    · split at h
      · rename_i k l k' l' hx hy
        split at h
        · rename_i hk
          subst hk
          simp only [Option.some.injEq, Prod.mk.injEq] at h
          obtain ⟨rfl, rfl, _⟩ := h
          have hs := he _ (List.mem_singleton.2 rfl)
          simp only [Ev.holds] at hs
          by_cases hb : b.den v = true
          · rw [if_pos hb]
            rw [if_pos hb] at hs
            refine ⟨rfl, fun _ => rfl, fun p w r n hxx hd => ?_⟩
            obtain ⟨us, fz, i1, i2, i3, i4⟩ := hxx hd
            refine ⟨us, fz, i1, i2, ?_, i4⟩
            have := i3.nums hx
            show List.take ((I.lvar nv).ldn v).length _ = List.map _ ((I.lvar nv).ldn v)
            simp only [I.ldn, hs]
            exact this
          · rw [if_neg hb]
            rw [if_neg hb] at hs
            refine ⟨c4, fun _ => rfl, fun p w r n hxx hd => ?_⟩
            obtain ⟨us, fz, i1, i2, i3, i4⟩ := hxx (by rw [← c4]; exact hd)
            refine ⟨us, fz, by simp only [c1]; exact i1, i2, ?_, fun ho => i4 (by rw [← c3]; exact ho)⟩
            have := i3.nums hy
            show List.take ((I.lvar nv).ldn v).length _ = List.map _ ((I.lvar nv).ldn v)
            simp only [I.ldn, hs]
            exact this
        · cases h
      · cases h

theorem joinMem_is {b : Bx} : ∀ {l m z : List Blk} {nv n : Nat} {ev : List Ev}, joinMem b l m nv = some (z, ev, n) → (∀ e ∈ ev, e.holds P v) → z.length = l.length ∧ z.length = m.length ∧
    ∀ (x : Nat) (c : Blk), z[x]? = some c → ∃ c0, (if b.den v = true then l else m)[x]? = some c0 ∧ c.dead = c0.dead ∧ (c0.row.isSome = true → c.row.isSome = true) ∧ ∀ p w r n, c0.Is v p v.w.heap.size w r n → c.Is v p v.w.heap.size w r n
  | [], [], z, nv, n, ev, h, _ => by simp [joinMem] at h; obtain ⟨rfl, _⟩ := h; exact ⟨rfl, rfl, fun x c hc => by simp at hc⟩
  | x :: l, y :: m, z, nv, n, ev, h, he => by
    simp only [joinMem] at h
    split at h
    · rename_i z1 ev1 nv1 h1
      split at h
      · rename_i r ev2 nv2 h2
        simp only [Option.some.injEq, Prod.mk.injEq] at h
        obtain ⟨rfl, rfl, _⟩ := h
        obtain ⟨k1, k2, k3⟩ := joinMem_is h2 (fun e hm => he e (by simp [hm]))
        have j := joinBlk_is h1 (fun e hm => he e (by simp [hm]))
        refine ⟨by simp [k1], by simp [k2], fun i c hi => ?_⟩
        cases i with
        | zero =>
          simp only [List.getElem?_cons_zero, Option.some.injEq] at hi
          subst hi
          refine ⟨if b.den v = true then x else y, ?_, j⟩
          split <;> rfl
        | succ i =>
          simp only [List.getElem?_cons_succ] at hi
          obtain ⟨c0, i1, i2⟩ := k3 i c hi
          refine ⟨c0, ?_, i2⟩
          split at i1 <;> rename_i hb
          · rw [if_pos hb]; exact i1
          · rw [if_neg hb]; exact i1
      · cases h
    · cases h
  | [], y :: m, z, nv, n, ev, h, _ => by simp [joinMem] at h
  | x :: l, [], z, nv, n, ev, h, _ => by simp [joinMem] at h

theorem joinFm_rel {b : Bx} {f g z : Fm} {nv n : Nat} {ev : List Ev} (h : joinFm b f g nv = some (z, ev, n)) (he : ∀ e ∈ ev, e.holds P v) {a : Act} {w : World} {p : Mp} (hr : RelP v (if b.den v = true then f else g).sig a w p) : RelP v z.sig a w p := by
  unfold joinFm at h
  split at h
  case h_2 => cases h
  rename_i fr ev1 n1 h1
  split at h
  case h_2 => cases h
  rename_i mem ev2 n2 h2
  split at h
  case isFalse => cases h
  rename_i hgl
  simp only [Option.some.injEq, Prod.mk.injEq] at h
  obtain ⟨rfl, rfl, _⟩ := h
  obtain ⟨k1, k2, k3⟩ := joinFr_is h1 (fun e hm => he e (by simp [hm]))
  obtain ⟨j1, j2, j3⟩ := joinMem_is h2 (fun e hm => he e (by simp [hm]))
  refine hr.swap rfl rfl ?_ ?_ ?_ ?_ ?_
  · show fr.length = _
    split
    · exact k1
    · exact k2
  · show lkp f.gl = _
    split
    · rfl
    · rw [hgl]; rfl
  · intro t u hu
    refine k3 t p u ?_
    split at hu <;> rename_i hb
    · rw [if_pos hb]; exact hu
    · rw [if_neg hb]; exact hu
  · intro x c hc
    obtain ⟨c0, i1, i2, i4, i3⟩ := j3 x c hc
    refine ⟨c0, ?_, i2, i4, fun r n => i3 p w r n⟩
    split at i1 <;> rename_i hb
    · rw [if_pos hb]; exact i1
    · rw [if_neg hb]; exact i1
  · intro x hx
    have hx' : mem[x]? = none := hx
    rw [List.getElem?_eq_none_iff] at hx'
    split
    · exact List.getElem?_eq_none (by omega)
    · exact List.getElem?_eq_none (by omega)
end

def codeSt (P : Program) : Nat → Bool → Code → St → Option (Ex × St)
  | 0, _, _, _ => none
  | n + 1, again, c, st =>
    match c with
    | .skip => some (.normal, st)
    | .region _ ops draw =>
      match draw with
      | true => match drawSt P ops st with | some st' => some (.normal, st') | none => none
      | false => match seqSt P ops ops.toList st with | some st' => some (.normal, st') | none => none
    | .seq a b => match codeSt P n false a st with
      | some (.normal, st') => codeSt P n false b st'
      | r => r
    | .cond c x y => match st.fm.sig.ev c with
      | .one (.sc (.bool (.lit true))) => codeSt P n false x st
      | .one (.sc (.bool (.lit false))) => codeSt P n false y st
      | .one (.sc (.bool b)) => match codeSt P n false x { st with ora := [], sums := [] } with
        | some (.normal, s1) => match codeSt P n false y { st with ora := [], sums := [], nv := s1.nv } with
          | some (.normal, s2) =>
            if s1.lev.length = st.lev.length ∧ s2.lev.length = st.lev.length then
              match joinFm b s1.fm s2.fm s2.nv with
              | some (fm, ev, nv) => some (.normal, { st with fm := fm, nv := nv, ev := st.ev ++ ((s1.ev.drop st.ev.length).map (.imp b true) ++ (s2.ev.drop st.ev.length).map (.imp b false) ++ ev) })
              | none => none
            else none
          | _ => none
        | _ => none
      | _ => none
    | .block id b => match codeSt P n false b st with
      | some (.exit i, st') => if i = id then some (.normal, st') else some (.exit i, st')
      | r => r
    | .loop b =>
      match again, st.sums with
      | false, some s :: r => match st.fm.loop s with
        | some fm => if s.ex = .normal then none else some (s.ex, { st with fm := fm, nv := s.nv, sums := r, lev := st.lev ++ [⟨b, st.fm, fm, s.ex⟩] })
        | none => none
      | false, none :: r => match codeSt P n false b { st with sums := r } with
        | some (.normal, st') => codeSt P n true (.loop b) st'
        | r => r
      | _, _ => match codeSt P n false b st with
        | some (.normal, st') => codeSt P n true (.loop b) st'
        | r => r
    | .exit id => some (.exit id, st)
    | .ret => some (.ret, st)
    | _ => none

section
variable {P : Program} {v : Env}

def grows (s t : St) : Prop := (∃ r, t.ev = s.ev ++ r) ∧ (∃ r, t.lev = s.lev ++ r)
theorem grows.refl (s : St) : grows s s := ⟨⟨[], by simp⟩, ⟨[], by simp⟩⟩
theorem grows.trans {a b c : St} (h : grows a b) (k : grows b c) : grows a c := by
  obtain ⟨⟨r1, h1⟩, ⟨r2, h2⟩⟩ := h
  obtain ⟨⟨r3, h3⟩, ⟨r4, h4⟩⟩ := k
  exact ⟨⟨r1 ++ r3, by rw [h3, h1, List.append_assoc]⟩, ⟨r2 ++ r4, by rw [h4, h2, List.append_assoc]⟩⟩

theorem codeSt_grows : ∀ (n : Nat) (again : Bool) (c : Code) (st st' : St) (e : Ex), codeSt P n again c st = some (e, st') → grows st st'
  | 0, _, _, _, _, _, h => by simp [codeSt] at h
  | n + 1, again, c, st, st', e, h => by
    unfold codeSt at h
    split at h
    · simp only [Option.some.injEq, Prod.mk.injEq] at h; obtain ⟨_, rfl⟩ := h; exact grows.refl _
    · split at h
      · split at h
        · rename_i st1 h1
          simp only [Option.some.injEq, Prod.mk.injEq] at h
          obtain ⟨_, rfl⟩ := h
          unfold drawSt at h1
          split at h1
          · rename_i tr st2 htr
            split at h1
            · simp only [Option.some.injEq] at h1
              subst h1
              obtain ⟨_, ⟨k1, k2⟩, _⟩ := trSt_spec _ _ _ _ htr
              exact ⟨k1, ⟨[], by simp [k2]⟩⟩
            · cases h1
          · cases h1
        · cases h
      · split at h
        · rename_i st1 h1
          simp only [Option.some.injEq, Prod.mk.injEq] at h
          obtain ⟨_, rfl⟩ := h
          obtain ⟨k1, k2⟩ := seqSt_ev _ _ _ h1
          exact ⟨k1, ⟨[], by simp [k2]⟩⟩
        · cases h
    · split at h
      · rename_i st1 h1
        exact (codeSt_grows n _ _ _ _ _ h1).trans (codeSt_grows n _ _ _ _ _ h)
      · exact codeSt_grows n _ _ _ _ _ h
    · split at h
      · exact codeSt_grows n _ _ _ _ _ h
      · exact codeSt_grows n _ _ _ _ _ h
      · split at h
        · split at h
          · split at h
            · split at h
              · simp only [Option.some.injEq, Prod.mk.injEq] at h
                obtain ⟨_, rfl⟩ := h
                exact ⟨⟨_, rfl⟩, ⟨[], by simp⟩⟩
              · cases h
            · cases h
          · cases h
        · cases h
      · cases h
    · split at h
      · rename_i i st1 h1
        have k := codeSt_grows n _ _ _ _ _ h1
        split at h <;> (simp only [Option.some.injEq, Prod.mk.injEq] at h; obtain ⟨_, rfl⟩ := h; exact k)
      · exact codeSt_grows n _ _ _ _ _ h
    · split at h
      · split at h
        · split at h
          · cases h
          · simp only [Option.some.injEq, Prod.mk.injEq] at h
            obtain ⟨_, rfl⟩ := h
            exact ⟨⟨[], by simp⟩, ⟨_, rfl⟩⟩
        · cases h
      · split at h
        · rename_i st1 h1
          have k := codeSt_grows n _ _ _ _ _ h1
          exact grows.trans ⟨k.1, k.2⟩ (codeSt_grows n _ _ _ _ _ h)
        · have k := codeSt_grows n _ _ _ _ _ h
          exact ⟨k.1, k.2⟩
      · split at h
        · rename_i st1 h1
          exact (codeSt_grows n _ _ _ _ _ h1).trans (codeSt_grows n _ _ _ _ _ h)
        · exact codeSt_grows n _ _ _ _ _ h
    · simp only [Option.some.injEq, Prod.mk.injEq] at h; obtain ⟨_, rfl⟩ := h; exact grows.refl _
    · simp only [Option.some.injEq, Prod.mk.injEq] at h; obtain ⟨_, rfl⟩ := h; exact grows.refl _
    · cases h

def okEv (P : Program) (v : Env) (s : St) : Prop := (∀ e ∈ s.ev, e.holds P v) ∧ ∀ l ∈ s.lev, l.holds P v
theorem okEv.of {s t : St} (h : grows s t) (k : okEv P v t) : okEv P v s := by
  obtain ⟨⟨r1, h1⟩, ⟨r2, h2⟩⟩ := h
  exact ⟨fun e he => k.1 e (by rw [h1]; simp [he]), fun l hl => k.2 l (by rw [h2]; simp [hl])⟩

theorem codeSt_wp : ∀ (n : Nat) (again : Bool) (c : Code) (st st' : St) (e : Ex), codeSt P n again c st = some (e, st') → okEv P v st' →
    ∀ (Q : Exit → Act → World → Prop) a w p, RelP v st.fm.sig a w p → (∀ a' w' q, RelP v st'.fm.sig a' w' q → Q e.to a' w') →
      c.wp P Q a w ∧ (again = true → ∀ b, c = .loop b → Code.rounds P b Q n a w)
  | 0, _, _, _, _, _, h => by simp [codeSt] at h
  | n + 1, again, c, st, st', e, h => by
    intro hev Q a w p hr hQ
    unfold codeSt at h
    have loopCase : ∀ (b : Code) (s1 : St), s1.fm = st.fm → c = .loop b → (match codeSt P n false b s1 with | some (.normal, st1) => codeSt P n true (.loop b) st1 | r => r) = some (e, st') → c.wp P Q a w ∧ (again = true → ∀ b', c = .loop b' → Code.rounds P b' Q (n + 1) a w) := by
      intro b s1 hs1 hc hh
      have key : Code.rounds P b Q (n + 1) a w := by
        rw [rounds_succ]
        split at hh
        · rename_i st1 h1
          refine (codeSt_wp n false b s1 st1 .normal h1 (okEv.of (codeSt_grows n _ _ _ _ _ hh) hev) _ a w p (by rw [hs1]; exact hr) fun a' w' q hr' => ?_).1
          exact (codeSt_wp n true (.loop b) st1 st' e hh hev Q a' w' q hr' hQ).2 rfl b rfl
        · rename_i hne
          refine (codeSt_wp n false b s1 st' e hh hev _ a w p (by rw [hs1]; exact hr) fun a' w' q hr' => ?_).1
          have := hQ a' w' q hr'
          cases e with
          | normal => exact absurd hh (hne st')
          | exit id => exact this
          | ret => exact this
      subst hc
      exact ⟨wp_loop_rounds (n + 1) key, fun _ b' hb => by cases hb; exact key⟩
    cases c with
    | skip =>
      simp only [Option.some.injEq, Prod.mk.injEq] at h
      obtain ⟨rfl, rfl⟩ := h
      exact ⟨wp_skip (hQ a w p hr), fun _ b hb => by cases hb⟩
    | region id ops draw =>
      cases draw with
      | true =>
        simp only at h
        split at h
        · rename_i st1 h1
          simp only [Option.some.injEq, Prod.mk.injEq] at h
          obtain ⟨rfl, rfl⟩ := h
          exact ⟨drawSt_wp h1 hev.1 hr hQ, fun _ b hb => by cases hb⟩
        · cases h
      | false =>
        simp only at h
        split at h
        · rename_i st1 h1
          simp only [Option.some.injEq, Prod.mk.injEq] at h
          obtain ⟨rfl, rfl⟩ := h
          refine ⟨wp_region ?_, fun _ b hb => by cases hb⟩
          have := seqSt_wp ops.toList 0 st _ (fun j => by simp) h1 hev.1 a w p hr hQ
          rw [List.range_eq_range']
          simpa using this
        · cases h
    | seq x y =>
      simp only at h
      split at h
      · rename_i st1 h1
        refine ⟨wp_seq (codeSt_wp n false x st st1 .normal h1 (okEv.of (codeSt_grows n _ _ _ _ _ h) hev) _ a w p hr fun a' w' q hr' => ?_).1, fun _ b hb => by cases hb⟩
        exact (codeSt_wp n false y st1 st' e h hev Q a' w' q hr' hQ).1
      · rename_i hne
        refine ⟨wp_seq (codeSt_wp n false x st st' e h hev _ a w p hr fun a' w' q hr' => ?_).1, fun _ b hb => by cases hb⟩
        have := hQ a' w' q hr'
        cases e with
        | normal => exact absurd h (hne st')
        | exit id => exact this
        | ret => exact this
    | cond cc x y =>
      have hc := hr.ev cc
      simp only at h
      split at h
      · rename_i he
        rw [he] at hc
        exact ⟨wp_cond_true hc (codeSt_wp n false x st st' e h hev Q a w p hr hQ).1, fun _ b hb => by cases hb⟩
      · rename_i he
        rw [he] at hc
        exact ⟨wp_cond_false hc (codeSt_wp n false y st st' e h hev Q a w p hr hQ).1, fun _ b hb => by cases hb⟩
      · rename_i b _ _ he
        rw [he] at hc
        have hc' : a.eval cc = .bool (b.den v) := hc
        split at h
        case h_2 => cases h
        rename_i s1 h1
        split at h
        case h_2 => cases h
        rename_i s2 h2
        split at h
        case isFalse => cases h
        rename_i hlev
        split at h
        case h_2 => cases h
        rename_i fm ev nv hj
        simp only [Option.some.injEq, Prod.mk.injEq] at h
        obtain ⟨rfl, rfl⟩ := h
        obtain ⟨⟨r1, g1⟩, ⟨l1, g2⟩⟩ := codeSt_grows n _ _ _ _ _ h1
        obtain ⟨⟨r2, g3⟩, ⟨l2, g4⟩⟩ := codeSt_grows n _ _ _ _ _ h2
        simp only at g1 g2 g3 g4
        have hl1 : l1 = [] := by rw [g2] at hlev; simpa using hlev.1
        have hl2 : l2 = [] := by rw [g4] at hlev; simpa using hlev.2
        have hevj : ∀ e ∈ ev, e.holds P v := fun e hm => hev.1 e (by simp [hm])
        refine ⟨wp_cond_split hc' (fun hb => ?_) (fun hb => ?_), fun _ b hb => by cases hb⟩
        · refine (codeSt_wp n false x _ s1 .normal h1 ⟨?_, ?_⟩ Q a w p hr fun a' w' q hr' => hQ a' w' q (joinFm_rel hj hevj (by rw [if_pos hb]; exact hr'))).1
          · intro e hm
            rw [g1] at hm
            rcases List.mem_append.1 hm with hm | hm
            · exact hev.1 e (by simp [hm])
            · exact hev.1 (.imp b true e) (by simp [g1, hm]) hb
          · intro l hm
            rw [g2, hl1, List.append_nil] at hm
            exact hev.2 l hm
        · refine (codeSt_wp n false y _ s2 .normal h2 ⟨?_, ?_⟩ Q a w p hr fun a' w' q hr' => hQ a' w' q (joinFm_rel hj hevj (by rw [if_neg (by rw [hb]; simp)]; exact hr'))).1
          · intro e hm
            rw [g3] at hm
            rcases List.mem_append.1 hm with hm | hm
            · exact hev.1 e (by simp [hm])
            · exact hev.1 (.imp b false e) (by simp [g3, hm]) hb
          · intro l hm
            rw [g4, hl2, List.append_nil] at hm
            exact hev.2 l hm
      · cases h
    | block id b =>
      refine ⟨wp_block ?_, fun _ b hb => by cases hb⟩
      simp only at h
      split at h
      · rename_i i st1 h1
        split at h
        · rename_i hi
          simp only [Option.some.injEq, Prod.mk.injEq] at h
          obtain ⟨rfl, rfl⟩ := h
          refine (codeSt_wp n false b st _ (.exit i) h1 hev _ a w p hr fun a' w' q hr' => ?_).1
          show (if i = id then _ else _)
          rw [if_pos hi]
          exact hQ a' w' q hr'
        · rename_i hi
          simp only [Option.some.injEq, Prod.mk.injEq] at h
          obtain ⟨rfl, rfl⟩ := h
          refine (codeSt_wp n false b st _ (.exit i) h1 hev _ a w p hr fun a' w' q hr' => ?_).1
          show (if i = id then _ else _)
          rw [if_neg hi]
          exact hQ a' w' q hr'
      · rename_i hne
        refine (codeSt_wp n false b st st' e h hev _ a w p hr fun a' w' q hr' => ?_).1
        have := hQ a' w' q hr'
        cases e with
        | normal => exact this
        | exit i => exact absurd h (hne i st')
        | ret => exact this
    | loop b =>
      simp only at h
      split at h
      · rename_i s r hs
        split at h
        · rename_i fm hfm
          split at h
          · cases h
          · rename_i hex
            simp only [Option.some.injEq, Prod.mk.injEq] at h
            obtain ⟨rfl, rfl⟩ := h
            have hl := hev.2 ⟨b, st.fm, fm, s.ex⟩ (by simp)
            refine ⟨wp_mono (hl a w p hr) fun e' a' w' ⟨he', q, hq⟩ => ?_, fun hag => by cases hag⟩
            subst he'
            have hq' := hQ a' w' q hq
            exact hq'
        · cases h
      · rename_i r hs
        exact loopCase b { st with sums := r } rfl rfl h
      · exact loopCase b st rfl rfl h
    | exit id =>
      simp only [Option.some.injEq, Prod.mk.injEq] at h
      obtain ⟨rfl, rfl⟩ := h
      exact ⟨wp_exit (hQ a w p hr), fun _ b hb => by cases hb⟩
    | ret =>
      simp only [Option.some.injEq, Prod.mk.injEq] at h
      obtain ⟨rfl, rfl⟩ := h
      exact ⟨wp_ret (hQ a w p hr), fun _ b hb => by cases hb⟩
    | rangeFunc f ps x y => cases h
    | scope x => cases h
    | label l => cases h
    | goto l => cases h
    | refuse y => cases h

end
end Go.Sx
