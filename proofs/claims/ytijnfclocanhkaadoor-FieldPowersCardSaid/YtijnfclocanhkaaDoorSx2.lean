/- Symbolic states: what a step does to them. -/
import Derived.Test.YtijnfclocanhkaaDoorSx1
set_option linter.unusedVariables false
set_option linter.unusedSimpArgs false
namespace Go.Sx
open Go Go.RowKit

/-- Rel, with the map of memories in sight -/
structure RelP (v : Env) (B : Nat) (w0 : World) (s : Sig) (a : Act) (w : World) (p : Mp) : Prop where
  defers : a.defers = []
  size : a.tmps.size = s.n
  base : B ≤ w.heap.size
  below : Below B w0 w
  inj : ∀ x y r n m b c, s.mem x = some b → b.dead = false → s.mem y = some c → c.dead = false → p x = some (r, n) → p y = some (r, m) → x = y
  mem : ∀ x b, s.mem x = some b → ∃ r n, p x = some (r, n) ∧ r < w.heap.size ∧ b.Is v p B w r n
  free : ∀ x, s.mem x = none → p x = none
  glob : ∀ g x, s.gl g = some x → ∃ n, p x = some (g, n)
  frame : ∀ t, (s.fr t).Is v p (a.tmps.getD t undef)
  gk : v.L.K ≤ B
  g0 : v.L.G w0

section
variable {v : Env} {B : Nat} {w0 w w' : World} {s : Sig} {a : Act} {p : Mp} {P : Program}

def Sig.ev (s : Sig) : Operand → AV
  | .tmp t => s.fr t
  | .const u => match aOf u with | some x => .one x | none => .undef
  | .global g => match s.gl g with | some x => .one (.ptr x 0) | none => .undef
  | .func _ => .undef

theorem RelP.laid (h : RelP v B w0 s a w p) : v.L.K ≤ w.heap.size ∧ v.L.G w :=
  ⟨Nat.le_trans h.gk h.base, v.L.hG w0 w (fun k hk => h.below.block k (Nat.lt_of_lt_of_le hk h.gk)) h.g0⟩

theorem RelP.ev (h : RelP v B w0 s a w p) (x : Operand) : (s.ev x).Is v p (a.eval x) := by
  cases x with
  | tmp t => exact h.frame t
  | const u =>
    simp only [Sig.ev]
    cases e : aOf u with
    | none => trivial
    | some y => exact aOf_is e
  | global g =>
    simp only [Sig.ev]
    cases e : s.gl g with
    | none => trivial
    | some y =>
      obtain ⟨n, hn⟩ := h.glob g y e
      exact ⟨g, n, hn, rfl⟩
  | func f => trivial

def Sig.put (s : Sig) (dst : Option Nat) (x : AV) : Sig :=
  match dst with
  | none => s
  | some d => { s with fr := fun t => if t = d then x else s.fr t }

def Sig.setM (s : Sig) (x : Nat) (b : Blk) : Sig := { s with mem := fun y => if y = x then some b else s.mem y }

theorem RelP.put (h : RelP v B w0 s a w p) {dst : Option Nat} {x : AV} {u : Value} (hd : ∀ d, dst = some d → d < s.n) (hx : x.Is v p u) : RelP v B w0 (s.put dst x) (a.put dst u) w p := by
  cases dst with
  | none => exact h
  | some d =>
    have hd' : d < a.tmps.size := by rw [h.size]; exact hd d rfl
    refine ⟨h.defers, by show (a.tmps.setIfInBounds d u).size = s.n; simpa using h.size, h.base, h.below, h.inj, h.mem, h.free, h.glob, fun t => ?_, h.gk, h.g0⟩
    show AV.Is v p (if t = d then x else s.fr t) ((a.tmps.setIfInBounds d u).getD t undef)
    by_cases e : t = d
    · subst e
      rw [if_pos rfl]
      simpa [hd'] using hx
    · rw [if_neg e]
      have := h.frame t
      simpa [Array.getElem?_setIfInBounds_ne (Ne.symm e)] using this

theorem Blk.Is.below {b : Blk} {r n : Nat} (h : b.Is v p B w r n) (hw : Below w.heap.size w w') (hr : r < w.heap.size) : b.Is v p B w' r n := by
  intro hd
  obtain ⟨cs, fz, h1, h2⟩ := h hd
  exact ⟨cs, fz, by rw [hw.block r hr]; exact h1, h2⟩

/-- what only makes new memory -/
theorem RelP.world (h : RelP v B w0 s a w p) (hw : Below w.heap.size w w') : RelP v B w0 s a w' p :=
  ⟨h.defers, h.size, Nat.le_trans h.base hw.size, h.below.trans (hw.mono h.base), h.inj,
    fun x b hb => by
      obtain ⟨r, n, h1, h2, h3⟩ := h.mem x b hb
      exact ⟨r, n, h1, Nat.lt_of_lt_of_le h2 hw.size, h3.below hw h2⟩,
    h.free, h.glob, h.frame, h.gk, h.g0⟩

theorem Blk.Is.mono {b : Blk} {r n : Nat} {q : Mp} (h : b.Is v p B w r n) (hq : p.le q) : b.Is v q B w r n := by
  intro hd
  obtain ⟨cs, fz, h1, h2, h3, h4, h5⟩ := h hd
  exact ⟨cs, fz, h1, h2, h3, h4.mono hq, h5⟩

/-- a new memory x: its block is the one behind the end -/
theorem RelP.alloc (h : RelP v B w0 s a w p) {x : Nat} {b : Blk} {cs : Array Value} (hx : s.mem x = none) (hc : listIs v p b.cells cs.toList) (hd : b.dead = false) (hm : b.more = false) (ho : b.own = true)
    (h1 : ∀ u ∈ cs.toList, u.oneCell' = true) :
    ∃ q : Mp, p.le q ∧ q x = some (w.heap.size, cs.size) ∧ RelP v B w0 (s.setM x b) a (w.alloc (.cells cs b.T)) q := by
  have hpx := h.free x hx
  refine ⟨fun y => if y = x then some (w.heap.size, cs.size) else p y, ?_, by simp, ?_⟩
  · intro y r hy
    by_cases e : y = x
    · subst e; rw [hpx] at hy; cases hy
    · simp [e, hy]
  · have hle : p.le (fun y => if y = x then some (w.heap.size, cs.size) else p y) := by
      intro y r hy
      by_cases e : y = x
      · subst e; rw [hpx] at hy; cases hy
      · simp [e, hy]
    have hsz : (w.alloc (.cells cs b.T)).heap.size = w.heap.size + 1 := by show (w.heap.push _).size = _; simp
    have hbl : Below w.heap.size w (w.alloc (.cells cs b.T)) := (Below.refl _ _).alloc (Nat.le_refl _) _
    refine ⟨h.defers, h.size, by rw [hsz]; exact Nat.le_succ_of_le h.base, h.below.trans (hbl.mono h.base), ?_, ?_, ?_, ?_, ?_, h.gk, h.g0⟩
    · intro y z r n m c d hy hcd hz hdd hqy hqz
      simp only [Sig.setM] at hy hz
      by_cases ey : y = x
      · by_cases ez : z = x
        · rw [ey, ez]
        · exfalso
          simp only [ey, if_true, Option.some.injEq, Prod.mk.injEq] at hqy
          simp only [if_neg ez] at hqz hz
          obtain ⟨r', n', hp, hlt, _⟩ := h.mem z d hz
          rw [hp] at hqz
          simp only [Option.some.injEq, Prod.mk.injEq] at hqz
          omega
      · by_cases ez : z = x
        · exfalso
          simp only [ez, if_true, Option.some.injEq, Prod.mk.injEq] at hqz
          simp only [if_neg ey] at hqy hy
          obtain ⟨r', n', hp, hlt, _⟩ := h.mem y c hy
          rw [hp] at hqy
          simp only [Option.some.injEq, Prod.mk.injEq] at hqy
          omega
        · simp only [if_neg ey] at hqy hy
          simp only [if_neg ez] at hqz hz
          exact h.inj y z r n m c d hy hcd hz hdd hqy hqz
    · intro y c hy
      simp only [Sig.setM] at hy
      by_cases ey : y = x
      · simp only [ey, if_true, Option.some.injEq] at hy
        subst hy
        refine ⟨w.heap.size, cs.size, by simp [ey], by rw [hsz]; omega, fun _ => ⟨cs, (0, 0), ?_, rfl, ?_, ?_, ?_⟩⟩
        · show (w.heap.push _)[w.heap.size]? = _; simp
        · intro _; have := hc.length; simpa using this
        · rw [List.take_of_length_le (by have := hc.length; omega)]; exact hc.mono hle
        · exact fun _ => ⟨h.base, rfl, h1⟩
      · simp only [if_neg ey] at hy
        obtain ⟨r, n, h2, h3, h4⟩ := h.mem y c hy
        exact ⟨r, n, by simp [ey, h2], by rw [hsz]; omega, (h4.below hbl h3).mono hle⟩
    · intro y hy
      simp only [Sig.setM] at hy
      by_cases ey : y = x
      · simp [ey] at hy
      · simp only [if_neg ey] at hy ⊢
        exact h.free y hy
    · intro g y hg
      obtain ⟨n, hn⟩ := h.glob g y hg
      exact ⟨n, hle _ _ hn⟩
    · exact fun t => (h.frame t).mono hle

/-- what is stored into a memory of the call's own -/
theorem RelP.store (h : RelP v B w0 s a w p) {x r n : Nat} {b : Blk} {l : List A} {cs cs' : Array Value} {fz : Nat × Nat} (hx : s.mem x = some b) (hd : b.dead = false) (ho : B ≤ r) (hp : p x = some (r, n))
    (hw : w.heap[r]? = some (.cells cs b.T fz)) (hfz : b.own = true → fz = (0, 0)) (hs : cs'.size = n) (hm : b.more = false → cs'.size = l.length) (hl : listIs v p l (cs'.toList.take l.length)) (h1 : ∀ u ∈ cs'.toList, u.oneCell' = true) :
    RelP v B w0 (s.setM x { b with cells := l }) a (w.setRow r cs') p := by
  have hsz : (w.setRow r cs').heap.size = w.heap.size := by simp [World.setRow]
  refine ⟨h.defers, h.size, by rw [hsz]; exact h.base, ?_, ?_, ?_, ?_, h.glob, h.frame, h.gk, h.g0⟩
  · exact h.below.trans ⟨rfl, rfl, rfl, by rw [hsz]; exact Nat.le_refl _, fun k hk => setRow_other w r k cs' (by omega)⟩
  · intro y z r' n' m' c d hy hcd hz hdd hqy hqz
    simp only [Sig.setM] at hy hz
    have fy : ∃ c', s.mem y = some c' ∧ c'.dead = false := by
      by_cases ey : y = x
      · exact ⟨b, by rw [ey]; exact hx, hd⟩
      · simp only [if_neg ey] at hy; exact ⟨c, hy, hcd⟩
    have fz' : ∃ c', s.mem z = some c' ∧ c'.dead = false := by
      by_cases ez : z = x
      · exact ⟨b, by rw [ez]; exact hx, hd⟩
      · simp only [if_neg ez] at hz; exact ⟨d, hz, hdd⟩
    obtain ⟨c', h2, h3⟩ := fy
    obtain ⟨d', h4, h5⟩ := fz'
    exact h.inj y z r' n' m' c' d' h2 h3 h4 h5 hqy hqz
  · intro y c hy
    simp only [Sig.setM] at hy
    by_cases ey : y = x
    · simp only [ey, if_true, Option.some.injEq] at hy
      subst hy
      have hlt : r < w.heap.size := by
        rcases Nat.lt_or_ge r w.heap.size with h' | h'
        · exact h'
        · simp [Array.getElem?_eq_none h'] at hw
      refine ⟨r, n, by rw [ey]; exact hp, by rw [hsz]; exact hlt, fun _ => ⟨cs', fz, ?_, hs, hm, hl, fun ho' => ⟨ho, hfz ho', h1⟩⟩⟩
      exact setRow_heap w r cs cs' b.T fz hw
    · simp only [if_neg ey] at hy
      obtain ⟨r', n', h2, h3, h4⟩ := h.mem y c hy
      refine ⟨r', n', h2, by rw [hsz]; exact h3, fun hcd => ?_⟩
      have hne : r' ≠ r := by
        intro e
        subst e
        exact ey (h.inj y x r' n' n c b hy hcd hx hd h2 hp)
      obtain ⟨cs2, fz2, e1, e2⟩ := h4 hcd
      exact ⟨cs2, fz2, by rw [setRow_other w r r' cs' hne]; exact e1, e2⟩
  · intro y hy
    simp only [Sig.setM] at hy
    by_cases ey : y = x
    · simp [ey] at hy
    · simp only [if_neg ey] at hy
      exact h.free y hy

end
end Go.Sx
