/- Loops of symbolic runs, by what holds at their head. -/
import Derived.Test.YtijnfclocanhkaaDoorSxA
set_option linter.unusedVariables false
set_option linter.unusedSimpArgs false
namespace Go.Sx
open Go Go.RowKit

/-! ### a state under one environment is another under another -/
def scTo (v v' : Env) : Sc → Sc → Prop
  | .int k e, .int k' e' => k = k' ∧ e.den v = e'.den v'
  | .bool b, .bool b' => b.den v = b'.den v'
  | _, _ => False
def scsTo (v v' : Env) : List Sc → List Sc → Prop
  | [], [] => True
  | x :: l, y :: m => scTo v v' x y ∧ scsTo v v' l m
  | _, _ => False
def aTo (v v' : Env) (n : Nat) : A → A → Prop
  | .sc s, .sc s' => scTo v v' s s'
  | .agg l, .agg m => scsTo v v' l m
  | .ptr x o, .ptr y o' => x = y ∧ o = o' ∧ decide (x < n) = true
  | .slc x o l c, .slc y o' l' c' => x = y ∧ o = o' ∧ l = l' ∧ c = c' ∧ decide (x < n) = true
  | .nils, .nils => True
  | .fn f l, .fn g m => f = g ∧ scsTo v v' l m
  | _, _ => False
def asTo (v v' : Env) (n : Nat) : List A → List A → Prop
  | [], [] => True
  | x :: l, y :: m => aTo v v' n x y ∧ asTo v v' n l m
  | _, _ => False
def avTo (v v' : Env) (n : Nat) : AV → AV → Prop
  | _, .undef => True
  | .one a, .one b => aTo v v' n a b
  | .tup l, .tup m => asTo v v' n l m
  | _, _ => False
def frTo (v v' : Env) (n : Nat) : List AV → List AV → Prop
  | [], [] => True
  | x :: l, y :: m => avTo v v' n x y ∧ frTo v v' n l m
  | _, _ => False
def blkTo (v v' : Env) (n : Nat) (b c : Blk) : Prop := b.T = c.T ∧ b.more = c.more ∧ b.own = c.own ∧ b.dead = c.dead ∧ asTo v v' n b.cells c.cells
def memTo (v v' : Env) (n : Nat) : List Blk → List Blk → Prop
  | _, [] => True
  | b :: l, c :: m => blkTo v v' n b c ∧ memTo v v' n l m
  | [], _ :: _ => False
def Fm.to (v v' : Env) (f g : Fm) : Prop := frTo v v' g.mem.length f.fr g.fr ∧ memTo v v' g.mem.length f.mem g.mem ∧ f.gl = g.gl ∧ (g.gl.all fun x => decide (x.2 < g.mem.length)) = true ∧ v'.L = v.L

section
variable {P : Program} {v v' : Env} {B : Nat} {w0 : World}

theorem scTo_den {x y : Sc} (h : scTo v v' x y) : x.den v = y.den v' := by
  cases x <;> cases y <;> simp only [scTo] at h
  · obtain ⟨rfl, h⟩ := h; simp only [Sc.den, h]
  · simp only [Sc.den, h]
theorem scsTo_den : ∀ {l m : List Sc}, scsTo v v' l m → l.map (Sc.den v) = m.map (Sc.den v')
  | [], [], _ => rfl
  | x :: l, y :: m, ⟨h1, h2⟩ => by simp only [List.map_cons, scTo_den h1, scsTo_den h2]
  | [], _ :: _, h => h.elim
  | _ :: _, [], h => h.elim

/-- the map of memories, up to n -/
def Mp.cut (p : Mp) (n : Nat) : Mp := fun x => if x < n then p x else none

theorem aTo_is {n : Nat} {a b : A} (h : aTo v v' n a b) {p : Mp} {u : Value} (k : a.Is v p u) : b.Is v' (p.cut n) u := by
  cases a <;> cases b <;> simp only [aTo] at h
  · rw [show u = _ from k]; exact scTo_den h
  · rw [show u = _ from k]; show _ = _; rw [scsTo_den h]
  · obtain ⟨rfl, rfl, hx⟩ := h
    obtain ⟨r, m, h1, h2⟩ := k
    exact ⟨r, m, by unfold Mp.cut; rw [if_pos (of_decide_eq_true hx)]; exact h1, h2⟩
  · obtain ⟨rfl, rfl, rfl, rfl, hx⟩ := h
    obtain ⟨r, m, h1, h2⟩ := k
    exact ⟨r, m, by unfold Mp.cut; rw [if_pos (of_decide_eq_true hx)]; exact h1, h2⟩
  · exact k
  · obtain ⟨rfl, h⟩ := h
    rw [show u = _ from k]; show _ = _; rw [scsTo_den h]

theorem asTo_is {n : Nat} {p : Mp} : ∀ {l m : List A} {us : List Value}, asTo v v' n l m → listIs v p l us → listIs v' (p.cut n) m us
  | [], [], _, _, k => k
  | x :: l, y :: m, us, ⟨h1, h2⟩, ⟨u, us', e, k1, k2⟩ => ⟨u, us', e, aTo_is h1 k1, asTo_is h2 k2⟩
  | [], _ :: _, _, h, _ => h.elim
  | _ :: _, [], _, h, _ => h.elim

theorem asTo_length {n : Nat} : ∀ {l m : List A}, asTo v v' n l m → l.length = m.length
  | [], [], _ => rfl
  | _ :: _, _ :: _, ⟨_, h2⟩ => by simp [asTo_length h2]
  | [], _ :: _, h => h.elim
  | _ :: _, [], h => h.elim

theorem avTo_is {n : Nat} {a b : AV} (h : avTo v v' n a b) {p : Mp} {u : Value} (k : a.Is v p u) : b.Is v' (p.cut n) u := by
  cases b with
  | undef => trivial
  | one b => cases a <;> simp only [avTo] at h; exact aTo_is h k
  | tup m =>
    cases a <;> simp only [avTo] at h
    obtain ⟨us, e, k⟩ := k
    exact ⟨us, e, asTo_is h k⟩
  | when c w b => cases a <;> simp only [avTo] at h

theorem frTo_is {n : Nat} {p : Mp} : ∀ {l m : List AV}, frTo v v' n l m → l.length = m.length ∧ ∀ (t : Nat) (u : Value), (l.getD t .undef).Is v p u → (m.getD t .undef).Is v' (p.cut n) u
  | [], [], _ => ⟨rfl, fun _ _ _ => trivial⟩
  | x :: l, y :: m, ⟨h1, h2⟩ => by
    obtain ⟨k1, k2⟩ := frTo_is (p := p) h2
    refine ⟨by simp [k1], fun t u hu => ?_⟩
    cases t with
    | zero => exact avTo_is h1 hu
    | succ t => exact k2 t u hu
  | [], _ :: _, h => h.elim
  | _ :: _, [], h => h.elim

theorem memTo_is {n : Nat} : ∀ {l m : List Blk}, memTo v v' n l m → ∀ (x : Nat) (c : Blk), m[x]? = some c → ∃ b, l[x]? = some b ∧ blkTo v v' n b c
  | _, [], _, x, c, hc => by simp at hc
  | b :: l, c :: m, ⟨h1, h2⟩, x, c', hc => by
    cases x with
    | zero => simp only [List.getElem?_cons_zero, Option.some.injEq] at hc; subst hc; exact ⟨b, rfl, h1⟩
    | succ x => simp only [List.getElem?_cons_succ] at hc; exact memTo_is h2 x c' hc
  | [], _ :: _, h, _, _, _ => h.elim

theorem lkp_all {n : Nat} : ∀ {l : List (Nat × Nat)}, (l.all fun x => decide (x.2 < n)) = true → ∀ {g x : Nat}, lkp l g = some x → x < n
  | [], _, g, x, h => by simp [lkp] at h
  | (a, b) :: l, hl, g, x, h => by
    simp only [List.all_cons, Bool.and_eq_true, decide_eq_true_eq] at hl
    simp only [lkp] at h
    split at h
    · simp only [Option.some.injEq] at h; omega
    · exact lkp_all hl.2 h

theorem to_rel {f g : Fm} (h : Fm.to v v' f g) {a : Act} {w : World} {p : Mp} (hr : RelP v B w0 f.sig a w p) : RelP v' B w0 g.sig a w (p.cut g.mem.length) := by
  obtain ⟨h1, h2, h3, h4, h5⟩ := h
  obtain ⟨k1, k2⟩ := frTo_is (p := p) h1
  have hm : ∀ x c, g.sig.mem x = some c → x < g.mem.length := fun x c hc => (List.getElem?_eq_some_iff.1 (show g.mem[x]? = some c from hc)).1
  refine ⟨hr.defers, by rw [hr.size]; exact k1, hr.base, hr.below, ?_, ?_, ?_, ?_, fun t => k2 t _ (hr.frame t), by rw [h5]; exact hr.gk, by rw [h5]; exact hr.g0⟩
  · intro x y r n m b c hb hbd hc hcd hpx hpy
    obtain ⟨b0, e1, e2⟩ := memTo_is h2 x b hb
    obtain ⟨c0, e3, e4⟩ := memTo_is h2 y c hc
    unfold Mp.cut at hpx hpy
    rw [if_pos (hm x b hb)] at hpx
    rw [if_pos (hm y c hc)] at hpy
    exact hr.inj x y r n m b0 c0 e1 (by rw [e2.2.2.2.1]; exact hbd) e3 (by rw [e4.2.2.2.1]; exact hcd) hpx hpy
  · intro x c hc
    obtain ⟨b, e1, e2, e3, e4, e5, e6⟩ := memTo_is h2 x c hc
    obtain ⟨r, n, i1, i2, i3⟩ := hr.mem x b e1
    refine ⟨r, n, by unfold Mp.cut; rw [if_pos (hm x c hc)]; exact i1, i2, fun hd => ?_⟩
    obtain ⟨us, fz, j1, j2, j3, j4, j5⟩ := i3 (by rw [e5]; exact hd)
    have hl := asTo_length e6
    exact ⟨us, fz, by rw [← e2]; exact j1, j2, fun hmo => by rw [j3 (by rw [e3]; exact hmo)]; exact hl, by rw [← hl]; exact asTo_is e6 j4, fun ho => j5 (by rw [e4]; exact ho)⟩
  · intro x hx
    have hx' : g.mem[x]? = none := hx
    rw [List.getElem?_eq_none_iff] at hx'
    unfold Mp.cut
    rw [if_neg (by omega)]
  · intro gg x hx
    have hlt := lkp_all h4 (show lkp g.gl gg = some x from hx)
    obtain ⟨n, hn⟩ := hr.glob gg x (show lkp f.gl gg = some x by rw [h3]; exact hx)
    exact ⟨n, by unfold Mp.cut; rw [if_pos hlt]; exact hn⟩

/-- one round: from the head, under u, the body comes to e and there to g under u' -/
def Round (P : Program) (body : Code) (head : Fm) (u : Env) (e : Ex) (g : Fm) (u' : Env) : Prop :=
  ∃ u2, Fm.to u u2 head head ∧ ∃ fuel nv ora sums st, codeSt P fuel false body ⟨head, nv, ora, sums, [], []⟩ = some (e, st) ∧ okEv P u2 st ∧ Fm.to u2 u' st.fm g

theorem Round.mk {P : Program} {body : Code} {head g : Fm} {u u' : Env} {e : Ex} (u2 : Env) (fuel nv : Nat) (ora : List (Option Bool)) (st : St) (h1 : Fm.to u u2 head head) (h2 : codeSt P fuel false body ⟨head, nv, ora, [], [], []⟩ = some (e, st))
    (h3 : okEv P u2 st) (h4 : Fm.to u2 u' st.fm g) : Round P body head u e g u' := ⟨u2, h1, fuel, nv, ora, [], st, h2, h3, h4⟩

theorem round_wp {body : Code} {head g : Fm} {u u' : Env} {e : Ex} (h : Round P body head u e g u') {Q : Exit → Act → World → Prop} {a : Act} {w : World} {p : Mp} (hr : RelP u B w0 head.sig a w p)
    (hQ : ∀ a' w' q, RelP u' B w0 g.sig a' w' q → Q e.to a' w') : body.wp P Q a w := by
  obtain ⟨u2, h0, fuel, nv, ora, sums, st, h1, h2, h3⟩ := h
  exact (codeSt_wp fuel false body _ st e h1 h2 Q a w _ (to_rel h0 hr) fun a' w' q hr' => hQ a' w' _ (to_rel h3 hr')).1

/-- a loop of n rounds and a last one that leaves it -/
theorem loop_rounds {body : Code} {pre head post : Fm} {id n : Nat} {v : Env} (u : Nat → Env) (start : Fm.to v (u 0) pre head) (round : ∀ k, k < n → Round P body head (u k) .normal head (u (k + 1)))
    (u' : Env) (last : Round P body head (u n) (.exit id) post u') (fin : Fm.to u' v post post) : LEv.holds P v ⟨body, pre, post, id⟩ := by
  intro B w0 a w p hr
  have key : ∀ m k, k + m = n → ∀ a w p, RelP (u k) B w0 head.sig a w p → Code.rounds P body (fun e a' w' => e = .exit id ∧ ∃ q, RelP v B w0 post.sig a' w' q) (m + 1) a w := by
    intro m
    induction m with
    | zero =>
      intro k hk a w p hr
      rw [rounds_succ]
      have : k = n := by omega
      subst this
      exact round_wp last hr fun a' w' q hr' => ⟨rfl, _, to_rel fin hr'⟩
    | succ m ih =>
      intro k hk a w p hr
      rw [rounds_succ]
      exact round_wp (round k (by omega)) hr fun a' w' q hr' => ih (k + 1) (by omega) a' w' q hr'
  exact wp_loop_rounds (n + 1) (key n 0 (by omega) a w _ (to_rel start hr))

end

/-! ### the loops of a text -/
def loopsOf : Code → List Code
  | .seq a b => loopsOf a ++ loopsOf b
  | .cond _ a b => loopsOf a ++ loopsOf b
  | .block _ a => loopsOf a
  | .loop a => a :: loopsOf a
  | .scope a => loopsOf a
  | _ => []
def loopOf (fn : Func) (i : Nat) : Code := match fn.body with | some c => (loopsOf c).getD i .skip | none => .skip

def allL (P : Program) (v : Env) : List LEv → Prop
  | [] => True
  | l :: r => l.holds P v ∧ allL P v r
theorem levs_of {P : Program} {v : Env} : ∀ {l : List LEv}, allL P v l → ∀ e ∈ l, e.holds P v
  | [], _ => by simp
  | e :: l, h => by
    intro e' he
    rcases List.mem_cons.1 he with rfl | he
    · exact h.1
    · exact levs_of h.2 e' he

end Go.Sx
