/- Symbolic states: what a step does to them. -/
import Derived.Test.YtijnfclocanhkaaDoorSy1
set_option linter.unusedVariables false
set_option linter.unusedSimpArgs false
namespace Go.Sx
open Go Go.RowKit

/-- the state tells of this frame and world (p: where its memories lie) -/
structure RelP (v : Env) (s : Sig) (a : Act) (w : World) (p : Mp) : Prop where
  defers : a.defers = []
  size : a.tmps.size = s.n
  base : v.w.heap.size ≤ w.heap.size
  below : Below v.w.heap.size v.w w
  inj : ∀ x y r n m b c, s.mem x = some b → b.dead = false → s.mem y = some c → c.dead = false → p x = some (r, n) → p y = some (r, m) → x = y
  mem : ∀ x b, s.mem x = some b → (b.row.isSome = true ∧ p x = none) ∨ ∃ r n, p x = some (r, n) ∧ r < w.heap.size ∧ b.Is v p v.w.heap.size w r n
  free : ∀ x, s.mem x = none → p x = none
  glob : ∀ g x, s.gl g = some x → ∃ n, p x = some (g, n)
  frame : ∀ t, (s.fr t).Is v p (a.tmps.getD t undef)
  gk : v.L.K ≤ v.w.heap.size
  g0 : v.L.G v.w

section
variable {v : Env} {w w' : World} {s : Sig} {a : Act} {p : Mp} {P : Program}

def Sig.ev (s : Sig) : Operand → AV
  | .tmp t => s.fr t
  | .const u => match aOf u with | some x => .one x | none => .undef
  | .global g => match s.gl g with | some x => .one (.ptr x 0) | none => .undef
  | .func _ => .undef

theorem RelP.laid (h : RelP v s a w p) : v.L.K ≤ w.heap.size ∧ v.L.G w :=
  ⟨Nat.le_trans h.gk h.base, v.L.hG v.w w (fun k hk => h.below.block k (Nat.lt_of_lt_of_le hk h.gk)) h.g0⟩

/-- the memory that a pointer leads to -/
theorem RelP.at (h : RelP v s a w p) {x r n : Nat} {b : Blk} (hx : s.mem x = some b) (hp : p x = some (r, n)) : r < w.heap.size ∧ b.Is v p v.w.heap.size w r n := by
  rcases h.mem x b hx with ⟨_, hn⟩ | ⟨r', n', h1, h2, h3⟩
  · rw [hp] at hn; cases hn
  · rw [hp] at h1
    simp only [Option.some.injEq, Prod.mk.injEq] at h1
    obtain ⟨rfl, rfl⟩ := h1
    exact ⟨h2, h3⟩

theorem RelP.ev (h : RelP v s a w p) (x : Operand) : (s.ev x).Is v p (a.eval x) := by
  cases x with
  | tmp t => exact h.frame t
  | const u =>
    simp only [Sig.ev]
    cases e : aOf u with
    | none => trivial
    | some y => exact aOf_is e
  | global g =>
    simp only [Sig.ev]
    cases e : s.gl g with
    | none => trivial
    | some y =>
      obtain ⟨n, hn⟩ := h.glob g y e
      exact ⟨g, n, hn, rfl⟩
  | func f => trivial

def Sig.put (s : Sig) (dst : Option Nat) (x : AV) : Sig :=
  match dst with
  | none => s
  | some d => { s with fr := fun t => if t = d then x else s.fr t }

def Sig.setM (s : Sig) (x : Nat) (b : Blk) : Sig := { s with mem := fun y => if y = x then some b else s.mem y }

theorem RelP.put (h : RelP v s a w p) {dst : Option Nat} {x : AV} {u : Value} (hd : ∀ d, dst = some d → d < s.n) (hx : x.Is v p u) : RelP v (s.put dst x) (a.put dst u) w p := by
  cases dst with
  | none => exact h
  | some d =>
    have hd' : d < a.tmps.size := by rw [h.size]; exact hd d rfl
    refine ⟨h.defers, by show (a.tmps.setIfInBounds d u).size = s.n; simpa using h.size, h.base, h.below, h.inj, h.mem, h.free, h.glob, fun t => ?_, h.gk, h.g0⟩
    show AV.Is v p (if t = d then x else s.fr t) ((a.tmps.setIfInBounds d u).getD t undef)
    by_cases e : t = d
    · subst e
      rw [if_pos rfl]
      simpa [hd'] using hx
    · rw [if_neg e]
      have := h.frame t
      simpa [Array.getElem?_setIfInBounds_ne (Ne.symm e)] using this

theorem Blk.Is.below {B : Nat} {b : Blk} {r n : Nat} (h : b.Is v p B w r n) (hw : Below w.heap.size w w') (hr : r < w.heap.size) : b.Is v p B w' r n := by
  intro hd
  obtain ⟨cs, fz, h1, h2⟩ := h hd
  exact ⟨cs, fz, by rw [hw.block r hr]; exact h1, h2⟩

/-- what only makes new memory -/
theorem RelP.world (h : RelP v s a w p) (hw : Below w.heap.size w w') : RelP v s a w' p :=
  ⟨h.defers, h.size, Nat.le_trans h.base hw.size, h.below.trans (hw.mono h.base), h.inj,
    fun x b hb => by
      rcases h.mem x b hb with hn | ⟨r, n, h1, h2, h3⟩
      · exact .inl hn
      · exact .inr ⟨r, n, h1, Nat.lt_of_lt_of_le h2 hw.size, h3.below hw h2⟩,
    h.free, h.glob, h.frame, h.gk, h.g0⟩

theorem Blk.Is.mono {B : Nat} {b : Blk} {r n : Nat} {q : Mp} (h : b.Is v p B w r n) (hq : p.le q) : b.Is v q B w r n := by
  intro hd
  obtain ⟨cs, fz, h1, h2, h3, h4⟩ := h hd
  exact ⟨cs, fz, h1, h2, h3.mono hq, h4⟩

/-- a new memory x: its block is r, new behind the world's end (a world that has more blocks is handed in) -/
theorem RelP.fresh (h : RelP v s a w p) {x r : Nat} {b : Blk} {cs : Array Value} (hx : s.mem x = none) (hb : Below w.heap.size w w') (hr : w.heap.size ≤ r) (hc : w'.heap[r]? = some (.cells cs b.T (0, 0)))
    (hh : ∀ q : Mp, p.le q → q x = some (r, cs.size) → b.holds v q cs.toList) (h1 : ∀ u ∈ cs.toList, u.oneCell' = true) :
    ∃ q : Mp, p.le q ∧ q x = some (r, cs.size) ∧ RelP v (s.setM x b) a w' q := by
  have hpx := h.free x hx
  have hle : p.le (fun y => if y = x then some (r, cs.size) else p y) := by
    intro y r hy
    by_cases e : y = x
    · subst e; rw [hpx] at hy; cases hy
    · simp [e, hy]
  have hrlt : r < w'.heap.size := (Array.getElem?_eq_some_iff.1 hc).1
  refine ⟨fun y => if y = x then some (r, cs.size) else p y, hle, by simp, ?_⟩
  have hw' := h.world hb
  refine ⟨h.defers, h.size, hw'.base, hw'.below, ?_, ?_, ?_, ?_, ?_, h.gk, h.g0⟩
  · intro y z r' n m c d hy hcd hz hdd hqy hqz
    simp only [Sig.setM] at hy hz
    by_cases ey : y = x
    · by_cases ez : z = x
      · rw [ey, ez]
      · exfalso
        simp only [ey, if_true, Option.some.injEq, Prod.mk.injEq] at hqy
        simp only [if_neg ez] at hqz hz
        have := (h.at hz hqz).1
        omega
    · by_cases ez : z = x
      · exfalso
        simp only [ez, if_true, Option.some.injEq, Prod.mk.injEq] at hqz
        simp only [if_neg ey] at hqy hy
        have := (h.at hy hqy).1
        omega
      · simp only [if_neg ey] at hqy hy
        simp only [if_neg ez] at hqz hz
        exact h.inj y z r' n m c d hy hcd hz hdd hqy hqz
  · intro y c hy
    simp only [Sig.setM] at hy
    by_cases ey : y = x
    · simp only [ey, if_true, Option.some.injEq] at hy
      subst hy
      exact .inr ⟨r, cs.size, by simp [ey], hrlt, fun _ => ⟨cs, (0, 0), hc, rfl, hh _ hle (by simp), fun _ => ⟨Nat.le_trans h.base hr, rfl, h1⟩⟩⟩
    · simp only [if_neg ey] at hy
      rcases hw'.mem y c hy with hn | ⟨r', n, h2, h3, h4⟩
      · exact .inl ⟨hn.1, by simp [ey, hn.2]⟩
      · exact .inr ⟨r', n, by simp [ey, h2], h3, h4.mono hle⟩
  · intro y hy
    simp only [Sig.setM] at hy
    by_cases ey : y = x
    · simp [ey] at hy
    · simp only [if_neg ey] at hy ⊢
      exact h.free y hy
  · intro g y hg
    obtain ⟨n, hn⟩ := h.glob g y hg
    exact ⟨n, hle _ _ hn⟩
  · exact fun t => (h.frame t).mono hle

/-- a new memory x: its block is the one behind the end -/
theorem RelP.alloc (h : RelP v s a w p) {x : Nat} {b : Blk} {cs : Array Value} (hx : s.mem x = none) (hh : ∀ q : Mp, p.le q → q x = some (w.heap.size, cs.size) → b.holds v q cs.toList)
    (h1 : ∀ u ∈ cs.toList, u.oneCell' = true) :
    ∃ q : Mp, p.le q ∧ q x = some (w.heap.size, cs.size) ∧ RelP v (s.setM x b) a (w.alloc (.cells cs b.T)) q :=
  h.fresh hx ((Below.refl _ _).alloc (Nat.le_refl _) _) (Nat.le_refl _) (by show (w.heap.push _)[w.heap.size]? = _; simp) hh h1

/-- a memory of numbers that there is none of -/
theorem RelP.ghost (h : RelP v s a w p) {x : Nat} {b : Blk} (hx : s.mem x = none) (hb : b.row.isSome = true) : RelP v (s.setM x b) a w p := by
  have hpx := h.free x hx
  refine ⟨h.defers, h.size, h.base, h.below, ?_, ?_, ?_, h.glob, h.frame, h.gk, h.g0⟩
  · intro y z r n m c d hy hcd hz hdd hqy hqz
    simp only [Sig.setM] at hy hz
    have ey : y ≠ x := by rintro rfl; rw [hpx] at hqy; cases hqy
    have ez : z ≠ x := by rintro rfl; rw [hpx] at hqz; cases hqz
    rw [if_neg ey] at hy
    rw [if_neg ez] at hz
    exact h.inj y z r n m c d hy hcd hz hdd hqy hqz
  · intro y c hy
    simp only [Sig.setM] at hy
    by_cases ey : y = x
    · simp only [ey, if_true, Option.some.injEq] at hy
      subst hy
      exact .inl ⟨hb, by rw [ey]; exact hpx⟩
    · simp only [if_neg ey] at hy
      exact h.mem y c hy
  · intro y hy
    simp only [Sig.setM] at hy
    by_cases ey : y = x
    · simp [ey] at hy
    · simp only [if_neg ey] at hy
      exact h.free y hy

/-- a memory is looked at no more -/
theorem RelP.kill (h : RelP v s a w p) {x : Nat} {b : Blk} (hx : s.mem x = some b) : RelP v (s.setM x { b with dead := true }) a w p := by
  refine ⟨h.defers, h.size, h.base, h.below, ?_, ?_, ?_, h.glob, h.frame, h.gk, h.g0⟩
  · intro y z r n m c d hy hcd hz hdd hqy hqz
    simp only [Sig.setM] at hy hz
    have ey : y ≠ x := by rintro rfl; rw [if_pos rfl] at hy; cases hy; cases hcd
    have ez : z ≠ x := by rintro rfl; rw [if_pos rfl] at hz; cases hz; cases hdd
    rw [if_neg ey] at hy
    rw [if_neg ez] at hz
    exact h.inj y z r n m c d hy hcd hz hdd hqy hqz
  · intro y c hy
    simp only [Sig.setM] at hy
    by_cases ey : y = x
    · simp only [ey, if_true, Option.some.injEq] at hy
      subst hy
      rw [ey]
      rcases h.mem x b hx with hn | ⟨r, n, h1, h2, h3⟩
      · exact .inl hn
      · exact .inr ⟨r, n, h1, h2, fun hd => by cases hd⟩
    · simp only [if_neg ey] at hy
      exact h.mem y c hy
  · intro y hy
    simp only [Sig.setM] at hy
    by_cases ey : y = x
    · simp [ey] at hy
    · simp only [if_neg ey] at hy
      exact h.free y hy

/-- what is stored into a memory of the call's own -/
theorem RelP.store (h : RelP v s a w p) {x r n : Nat} {b b' : Blk} {cs cs' : Array Value} {fz : Nat × Nat} (hx : s.mem x = some b) (hd : b.dead = false) (ho : v.w.heap.size ≤ r) (hp : p x = some (r, n))
    (hw : w.heap[r]? = some (.cells cs b.T fz)) (hT : b'.T = b.T) (hfz : b'.own = true → fz = (0, 0)) (hs : cs'.size = n) (hh : b'.holds v p cs'.toList) (h1 : ∀ u ∈ cs'.toList, u.oneCell' = true) :
    RelP v (s.setM x b') a (w.setRow r cs') p := by
  have hsz : (w.setRow r cs').heap.size = w.heap.size := by simp [World.setRow]
  have hlt : r < w.heap.size := (Array.getElem?_eq_some_iff.1 hw).1
  refine ⟨h.defers, h.size, by rw [hsz]; exact h.base, ?_, ?_, ?_, ?_, h.glob, h.frame, h.gk, h.g0⟩
  · exact h.below.trans ⟨rfl, rfl, rfl, by rw [hsz]; exact Nat.le_refl _, fun k hk => setRow_other w r k cs' (by omega)⟩
  · intro y z r' n' m' c d hy hcd hz hdd hqy hqz
    simp only [Sig.setM] at hy hz
    have fy : ∃ c', s.mem y = some c' ∧ c'.dead = false := by
      by_cases ey : y = x
      · exact ⟨b, by rw [ey]; exact hx, hd⟩
      · simp only [if_neg ey] at hy; exact ⟨c, hy, hcd⟩
    have fz' : ∃ c', s.mem z = some c' ∧ c'.dead = false := by
      by_cases ez : z = x
      · exact ⟨b, by rw [ez]; exact hx, hd⟩
      · simp only [if_neg ez] at hz; exact ⟨d, hz, hdd⟩
    obtain ⟨c', h2, h3⟩ := fy
    obtain ⟨d', h4, h5⟩ := fz'
    exact h.inj y z r' n' m' c' d' h2 h3 h4 h5 hqy hqz
  · intro y c hy
    simp only [Sig.setM] at hy
    by_cases ey : y = x
    · simp only [ey, if_true, Option.some.injEq] at hy
      subst hy
      exact .inr ⟨r, n, by rw [ey]; exact hp, by rw [hsz]; exact hlt, fun _ => ⟨cs', fz, by rw [hT]; exact setRow_heap w r cs cs' b.T fz hw, hs, hh, fun ho' => ⟨ho, hfz ho', h1⟩⟩⟩
    · simp only [if_neg ey] at hy
      rcases h.mem y c hy with hn | ⟨r', n', h2, h3, h4⟩
      · exact .inl hn
      · refine .inr ⟨r', n', h2, by rw [hsz]; exact h3, fun hcd => ?_⟩
        have hne : r' ≠ r := by
          intro e
          subst e
          exact ey (h.inj y x r' n' n c b hy hcd hx hd h2 hp)
        obtain ⟨cs2, fz2, e1, e2⟩ := h4 hcd
        exact ⟨cs2, fz2, by rw [setRow_other w r r' cs' hne]; exact e1, e2⟩
  · intro y hy
    simp only [Sig.setM] at hy
    by_cases ey : y = x
    · simp [ey] at hy
    · simp only [if_neg ey] at hy
      exact h.free y hy

/-- an own memory m grows in place: m is looked at no more, x0 is the same block, with more in it -/
theorem RelP.regrow (h : RelP v s a w p) {m x0 r n : Nat} {b b' : Blk} {cs cs' : Array Value} (hm : s.mem m = some b) (hd : b.dead = false) (hx0 : s.mem x0 = none) (ho : v.w.heap.size ≤ r) (hp : p m = some (r, n))
    (hw : w.heap[r]? = some (.cells cs b.T (0, 0))) (hT : b'.T = b.T) (hs : cs'.size = n) (hh : ∀ q : Mp, p.le q → b'.holds v q cs'.toList) (h1 : ∀ u ∈ cs'.toList, u.oneCell' = true) :
    ∃ q : Mp, p.le q ∧ q x0 = some (r, n) ∧ RelP v ((s.setM m { b with dead := true }).setM x0 b') a (w.setRow r cs') q := by
  have hne0 : m ≠ x0 := by rintro rfl; rw [hm] at hx0; cases hx0
  have hpx := h.free x0 hx0
  have hle : p.le (fun y => if y = x0 then some (r, n) else p y) := by
    intro y r hy
    by_cases e : y = x0
    · subst e; rw [hpx] at hy; cases hy
    · simp [e, hy]
  have hsz : (w.setRow r cs').heap.size = w.heap.size := by simp [World.setRow]
  have hlt : r < w.heap.size := (Array.getElem?_eq_some_iff.1 hw).1
  refine ⟨fun y => if y = x0 then some (r, n) else p y, hle, by simp, h.defers, h.size, by rw [hsz]; exact h.base, ?_, ?_, ?_, ?_, ?_, fun t => (h.frame t).mono hle, h.gk, h.g0⟩
  · exact h.below.trans ⟨rfl, rfl, rfl, by rw [hsz]; exact Nat.le_refl _, fun k hk => setRow_other w r k cs' (by omega)⟩
  · intro y z r' n' m' c d hy hcd hz hdd hqy hqz
    simp only [Sig.setM] at hy hz
    have alive : ∀ y c, (if y = x0 then some b' else if y = m then some { b with dead := true } else s.mem y) = some c → c.dead = false → y = x0 ∨ (y ≠ x0 ∧ y ≠ m ∧ s.mem y = some c) := by
      intro y c hy hc
      by_cases e : y = x0
      · exact .inl e
      · rw [if_neg e] at hy
        by_cases e2 : y = m
        · rw [if_pos e2] at hy; cases hy; cases hc
        · rw [if_neg e2] at hy; exact .inr ⟨e, e2, hy⟩
    rcases alive y c hy hcd with ey | ⟨ey, em, hy'⟩
    · rcases alive z d hz hdd with ez | ⟨ez, ezm, hz'⟩
      · rw [ey, ez]
      · exfalso
        simp only [ey, if_true, Option.some.injEq, Prod.mk.injEq] at hqy
        simp only [if_neg ez] at hqz
        rw [← hqy.1] at hqz
        exact ezm (h.inj z m r m' n d b hz' hdd hm hd hqz hp)
    · rcases alive z d hz hdd with ez | ⟨ez, ezm, hz'⟩
      · exfalso
        simp only [ez, if_true, Option.some.injEq, Prod.mk.injEq] at hqz
        simp only [if_neg ey] at hqy
        rw [← hqz.1] at hqy
        exact em (h.inj y m r n' n c b hy' hcd hm hd hqy hp)
      · simp only [if_neg ey] at hqy
        simp only [if_neg ez] at hqz
        exact h.inj y z r' n' m' c d hy' hcd hz' hdd hqy hqz
  · intro y c hy
    simp only [Sig.setM] at hy
    by_cases ey : y = x0
    · rw [if_pos ey] at hy
      cases hy
      exact .inr ⟨r, n, by simp [ey], by rw [hsz]; exact hlt, fun _ => ⟨cs', (0, 0), by rw [hT]; exact setRow_heap w r cs cs' b.T (0, 0) hw, hs, hh _ hle, fun _ => ⟨ho, rfl, h1⟩⟩⟩
    · rw [if_neg ey] at hy
      by_cases em : y = m
      · rw [if_pos em] at hy
        cases hy
        exact .inr ⟨r, n, by simp only [if_neg ey]; rw [em]; exact hp, by rw [hsz]; exact hlt, fun hdd => by cases hdd⟩
      · rw [if_neg em] at hy
        rcases h.mem y c hy with hn | ⟨r', n', h2, h3, h4⟩
        · exact .inl ⟨hn.1, by simp only [if_neg ey]; exact hn.2⟩
        · refine .inr ⟨r', n', by simp only [if_neg ey]; exact h2, by rw [hsz]; exact h3, fun hcd => ?_⟩
          have hne : r' ≠ r := by
            intro e
            subst e
            exact em (h.inj y m r' n' n c b hy hcd hm hd h2 hp)
          obtain ⟨cs2, fz2, e1, e2, e3, e4⟩ := h4 hcd
          exact ⟨cs2, fz2, by rw [setRow_other w r r' cs' hne]; exact e1, e2, e3.mono hle, e4⟩
  · intro y hy
    simp only [Sig.setM] at hy
    by_cases ey : y = x0
    · simp [ey] at hy
    · rw [if_neg ey] at hy
      simp only [if_neg ey]
      by_cases em : y = m
      · rw [if_pos em] at hy; cases hy
      · rw [if_neg em] at hy; exact h.free y hy
  · intro g y hg
    obtain ⟨k, hk⟩ := h.glob g y hg
    exact ⟨k, hle _ _ hk⟩

end
end Go.Sx
