/- Symbolic values: integer and bool expressions over numbered variables, and what they stand for. -/
import Derived.WalkKit
import Derived.WalkSpells
import Derived.WalkLawsBesides
import Derived.KernelRfl
import Derived.Below
import Derived.ChangeKeysEq
import Derived.OrdersHeld
import Derived.Deep.MidRow
import Derived.Laws.CopyRow
set_option linter.unusedVariables false
set_option linter.unusedSimpArgs false
namespace Go.Sx
open Go Go.RowKit

/-- What is known of the world at every call: a fact about its first K blocks (the package variables, as they are laid). -/
structure Laid where
  K : Nat
  G : World → Prop
  hG : ∀ w w' : World, (∀ k, k < K → w'.heap[k]? = w.heap[k]?) → G w → G w'

/-- nothing -/
def L0 : Laid := ⟨0, fun _ => True, fun _ _ _ _ => trivial⟩

structure Env where
  i : Nat → Int
  b : Nat → Bool
  L : Laid := L0

inductive I where
  | var (n : Nat)
  | lit (n : Int)
  | add (k : IntKind) (x y : I)
  | sub (k : IntKind) (x y : I)
  | mul (k : IntKind) (x y : I)
  | quo (k : IntKind) (x y : I)
  | rem (x y : I)
  | bit (op : BinOp) (k : IntKind) (x y : I)
  | shl (k : IntKind) (x y : I)
  | shr (k : IntKind) (x y : I)
  | conv (k : IntKind) (x : I)
  deriving DecidableEq, Repr, Inhabited

def I.den (v : Env) : I → Int
  | .var n => v.i n
  | .lit n => n
  | .add k x y => k.wrap (x.den v + y.den v)
  | .sub k x y => k.wrap (x.den v - y.den v)
  | .mul k x y => k.wrap (x.den v * y.den v)
  | .quo k x y => k.wrap ((x.den v).tdiv (y.den v))
  | .rem x y => (x.den v).tmod (y.den v)
  | .bit op k x y => bits op k (x.den v) (y.den v)
  | .shl k x y => k.wrap (x.den v * 2 ^ (min (y.den v).toNat k.bits))
  | .shr k x y => (x.den v).fdiv (2 ^ (min (y.den v).toNat k.bits))
  | .conv k x => k.wrap (x.den v)

/-- a number that is written out is reckoned at once -/
def I.fold (e : I) : I :=
  match e with
  | .add k (.lit x) (.lit y) => .lit (k.wrap (x + y))
  | .sub k (.lit x) (.lit y) => .lit (k.wrap (x - y))
  | .mul k (.lit x) (.lit y) => .lit (k.wrap (x * y))
  | .quo k (.lit x) (.lit y) => .lit (k.wrap (x.tdiv y))
  | .rem (.lit x) (.lit y) => .lit (x.tmod y)
  | .bit op k (.lit x) (.lit y) => .lit (bits op k x y)
  | .shl k (.lit x) (.lit y) => .lit (k.wrap (x * 2 ^ (min y.toNat k.bits)))
  | .shr k (.lit x) (.lit y) => .lit (x.fdiv (2 ^ (min y.toNat k.bits)))
  | .conv k (.lit x) => .lit (k.wrap x)
  | e => e

theorem I.den_fold (v : Env) (e : I) : e.fold.den v = e.den v := by
  unfold I.fold
  split <;> rfl

inductive Bx where
  | var (n : Nat)
  | lit (b : Bool)
  | cmp (op : BinOp) (x y : I)
  | not (x : Bx)
  | and (x y : Bx)
  | beq (x y : Bx)
  | ite (c x y : Bx)
  deriving DecidableEq, Repr, Inhabited

def cmpD (op : BinOp) (x y : Int) : Bool :=
  match op with
  | .eql => x == y
  | .neq => x != y
  | .lss => decide (x < y)
  | .leq => decide (x ≤ y)
  | .gtr => decide (x > y)
  | _ => decide (x ≥ y)

def Bx.den (v : Env) : Bx → Bool
  | .var n => v.b n
  | .lit b => b
  | .cmp op x y => cmpD op (x.den v) (y.den v)
  | .not x => !(x.den v)
  | .and x y => x.den v && y.den v
  | .beq x y => x.den v == y.den v
  | .ite c x y => if c.den v = true then x.den v else y.den v

def Bx.fold (e : Bx) : Bx :=
  match e with
  | .cmp op (.lit x) (.lit y) => .lit (cmpD op x y)
  | .not (.lit b) => .lit (!b)
  | .and (.lit true) x => x
  | .and (.lit false) _ => .lit false
  | .and x (.lit true) => x
  | .beq (.lit x) (.lit y) => .lit (x == y)
  | .ite (.lit true) x _ => x
  | .ite (.lit false) _ y => y
  | e => e

theorem Bx.den_fold (v : Env) (e : Bx) : e.fold.den v = e.den v := by
  unfold Bx.fold
  split <;> simp [Bx.den, I.den]

inductive Sc where
  | int (k : IntKind) (e : I)
  | bool (b : Bx)
  deriving DecidableEq, Repr, Inhabited

def Sc.den (v : Env) : Sc → Value
  | .int k e => .int k (e.den v)
  | .bool b => .bool (b.den v)

theorem Sc.one (v : Env) (s : Sc) : (s.den v).oneCell' = true := by cases s <;> rfl

/-- a value of one slot: a scalar; the cells of a struct or array of scalars; a pointer to cell 'off' of the memory that is numbered x; a slice (cap none: as far as its memory goes); a method with its receiver -/
inductive A where
  | sc (s : Sc)
  | agg (l : List Sc)
  | ptr (x off : Nat)
  | slc (x off len : Nat) (cap : Option Nat)
  | nils
  | fn (f : FuncId) (recv : List Sc)
  deriving DecidableEq, Repr, Inhabited

inductive AV where
  | undef
  | one (a : A)
  | tup (l : List A)
  | when (b : Bx) (want : Bool) (a : A)
  deriving DecidableEq, Repr, Inhabited

/-- memory x: its block, and how many cells it has -/
abbrev Mp := Nat → Option (Nat × Nat)
def Mp.le (p q : Mp) : Prop := ∀ x r, p x = some r → q x = some r
theorem Mp.le_refl (p : Mp) : p.le p := fun _ _ h => h
theorem Mp.le_trans {p q r : Mp} (h : p.le q) (k : q.le r) : p.le r := fun x y hx => k x y (h x y hx)

def A.Is (v : Env) (p : Mp) : A → Value → Prop
  | .sc s, u => u = s.den v
  | .agg l, u => u = .agg (l.map (Sc.den v)).toArray
  | .ptr x off, u => ∃ r n, p x = some (r, n) ∧ u = .pointer (some ⟨r, off, none⟩)
  | .slc x off len cap, u => ∃ r n, p x = some (r, n) ∧ off + len ≤ n ∧ u = .slice (some ⟨r, off, none⟩) len (cap.getD (n - off)) ∧ off + cap.getD (n - off) ≤ n ∧ len ≤ cap.getD (n - off)
  | .nils, u => u = .slice none 0 0
  | .fn f l, u => u = .func (.func f) #[.agg (l.map (Sc.den v)).toArray] #[]

theorem A.Is.mono {v : Env} {p q : Mp} (h : p.le q) {a : A} {u : Value} (k : a.Is v p u) : a.Is v q u := by
  cases a with
  | sc s => exact k
  | agg l => exact k
  | ptr x off => obtain ⟨r, n, h1, h2⟩ := k; exact ⟨r, n, h _ _ h1, h2⟩
  | slc x off len cap => obtain ⟨r, n, h1, h2⟩ := k; exact ⟨r, n, h _ _ h1, h2⟩
  | nils => exact k
  | fn f l => exact k

def listIs (v : Env) (p : Mp) : List A → List Value → Prop
  | [], l => l = []
  | a :: as, l => ∃ u us, l = u :: us ∧ a.Is v p u ∧ listIs v p as us

theorem listIs.mono {v : Env} {p q : Mp} (h : p.le q) : ∀ {as : List A} {l : List Value}, listIs v p as l → listIs v q as l
  | [], _, k => k
  | _ :: _, _, ⟨u, us, e, h1, h2⟩ => ⟨u, us, e, h1.mono h, h2.mono h⟩

theorem listIs.length {v : Env} {p : Mp} : ∀ {as : List A} {l : List Value}, listIs v p as l → l.length = as.length
  | [], _, k => by rw [show _ = [] from k]; rfl
  | _ :: _, _, ⟨_, _, e, _, h2⟩ => by rw [e]; simp [h2.length]

theorem listIs.get {v : Env} {p : Mp} : ∀ {as : List A} {l : List Value}, listIs v p as l → ∀ (j : Nat) (a : A), as[j]? = some a → ∃ u, l[j]? = some u ∧ a.Is v p u
  | [], _, _ => by intro j a h; simp at h
  | _ :: _, _, ⟨u, us, e, h1, h2⟩ => by
    intro j a h
    subst e
    cases j with
    | zero => simp at h; subst h; exact ⟨u, rfl, h1⟩
    | succ j => simp at h; exact h2.get j a h

theorem listIs.set {v : Env} {p : Mp} : ∀ {as : List A} {l : List Value}, listIs v p as l → ∀ (j : Nat) (a : A) (u : Value), a.Is v p u → listIs v p (as.set j a) (l.set j u)
  | [], _, k, j, a, u, _ => by rw [show _ = [] from k]; rfl
  | _ :: _, _, ⟨_, us, e, h1, h2⟩, j, a, u, hu => by
    subst e
    cases j with
    | zero => exact ⟨_, _, rfl, hu, h2⟩
    | succ j => exact ⟨_, _, rfl, h1, h2.set j a u hu⟩

theorem listIs.append {v : Env} {p : Mp} : ∀ {as bs : List A} {l m : List Value}, listIs v p as l → listIs v p bs m → listIs v p (as ++ bs) (l ++ m)
  | [], _, _, _, k, h => by rw [show _ = [] from k]; exact h
  | _ :: _, _, _, _, ⟨u, us, e, h1, h2⟩, h => by subst e; exact ⟨u, _, rfl, h1, h2.append h⟩

theorem listIs.take {v : Env} {p : Mp} : ∀ {as : List A} {l : List Value}, listIs v p as l → ∀ n, listIs v p (as.take n) (l.take n)
  | [], _, k, n => by rw [show _ = [] from k]; simp [listIs]
  | _ :: _, _, ⟨u, us, e, h1, h2⟩, n => by
    subst e
    cases n with
    | zero => simp [listIs]
    | succ n => exact ⟨u, _, rfl, h1, h2.take n⟩

theorem listIs.drop {v : Env} {p : Mp} : ∀ {as : List A} {l : List Value}, listIs v p as l → ∀ n, listIs v p (as.drop n) (l.drop n)
  | [], _, k, n => by rw [show _ = [] from k]; simp [listIs]
  | _ :: _, _, ⟨u, us, e, h1, h2⟩, n => by
    subst e
    cases n with
    | zero => exact ⟨u, _, rfl, h1, h2⟩
    | succ n => exact h2.drop n

/-- scalars only -/
def scs : List A → Option (List Sc)
  | [] => some []
  | .sc s :: l => (scs l).map (s :: ·)
  | _ :: _ => none

theorem scs_is {v : Env} {p : Mp} : ∀ {as : List A} {ss : List Sc} {l : List Value}, scs as = some ss → listIs v p as l → l = ss.map (Sc.den v)
  | [], ss, l, h, k => by simp [scs] at h; subst h; exact k
  | .sc s :: as, ss, l, h, ⟨u, us, e, h1, h2⟩ => by
    simp only [scs, Option.map_eq_some_iff] at h
    obtain ⟨ss', h', rfl⟩ := h
    rw [e, scs_is h' h2, show u = _ from h1]
    rfl
  | .agg _ :: _, _, _, h, _ => by simp [scs] at h
  | .ptr _ _ :: _, _, _, h, _ => by simp [scs] at h
  | .slc _ _ _ _ :: _, _, _, h, _ => by simp [scs] at h
  | .nils :: _, _, _, h, _ => by simp [scs] at h
  | .fn _ _ :: _, _, _, h, _ => by simp [scs] at h

theorem listIs_scs {v : Env} {p : Mp} : ∀ (ss : List Sc), listIs v p (ss.map A.sc) (ss.map (Sc.den v))
  | [] => rfl
  | _ :: ss => ⟨_, _, rfl, rfl, listIs_scs ss⟩

/-- the cells of a value -/
def A.cells : A → List A
  | .agg l => l.map .sc
  | a => [a]

theorem A.Is.cells {v : Env} {p : Mp} {a : A} {u : Value} (h : a.Is v p u) : listIs v p a.cells u.cells.toList := by
  cases a with
  | sc s => rw [show u = _ from h]; cases s <;> exact ⟨_, _, rfl, rfl, rfl⟩
  | agg l => rw [show u = _ from h]; simpa [Value.cells, A.cells] using listIs_scs l
  | ptr x off => obtain ⟨r, n, h1, rfl⟩ := h; exact ⟨_, _, rfl, ⟨r, n, h1, rfl⟩, rfl⟩
  | slc x off len cap => obtain ⟨r, n, h1, h2, rfl, h3⟩ := h; exact ⟨_, _, rfl, ⟨r, n, h1, h2, rfl, h3⟩, rfl⟩
  | nils => rw [show u = _ from h]; exact ⟨_, _, rfl, rfl, rfl⟩
  | fn f l => rw [show u = _ from h]; exact ⟨_, _, rfl, rfl, rfl⟩

/-- what a cell can hold is one cell -/
def A.oneCell : A → Bool
  | .agg _ => false
  | _ => true

theorem A.Is.one {v : Env} {p : Mp} {a : A} {u : Value} (h : a.Is v p u) (ha : a.oneCell = true) : u.oneCell' = true := by
  cases a with
  | sc s => rw [show u = _ from h]; exact s.one v
  | agg l => simp [A.oneCell] at ha
  | ptr x off => obtain ⟨r, n, h1, rfl⟩ := h; rfl
  | slc x off len cap => obtain ⟨r, n, h1, h2, rfl, h3⟩ := h; rfl
  | nils => rw [show u = _ from h]; rfl
  | fn f l => rw [show u = _ from h]; rfl

theorem cells_one (a : A) : ∀ c ∈ a.cells, c.oneCell = true := by
  intro c hc
  cases a with
  | agg l => simp [A.cells] at hc; obtain ⟨s, _, rfl⟩ := hc; rfl
  | sc s => simp [A.cells] at hc; subst hc; rfl
  | ptr x off => simp [A.cells] at hc; subst hc; rfl
  | slc x off len cap => simp [A.cells] at hc; subst hc; rfl
  | nils => simp [A.cells] at hc; subst hc; rfl
  | fn f l => simp [A.cells] at hc; subst hc; rfl

theorem listIs.ones {v : Env} {p : Mp} : ∀ {as : List A} {l : List Value}, listIs v p as l → (∀ c ∈ as, c.oneCell = true) → ∀ u ∈ l, u.oneCell' = true
  | [], _, k, _ => by rw [show _ = [] from k]; simp
  | a :: as, _, ⟨u, us, e, h1, h2⟩, h => by
    subst e
    intro x hx
    cases hx with
    | head => exact h1.one (h a (by simp))
    | tail _ hx => exact h2.ones (fun c hc => h c (by simp [hc])) x hx

/-- literals of the text -/
def scOf : Value → Option Sc
  | .int k n => some (.int k (.lit n))
  | .bool b => some (.bool (.lit b))
  | _ => none
def scsOf : List Value → Option (List Sc)
  | [] => some []
  | u :: l => match scOf u, scsOf l with | some s, some r => some (s :: r) | _, _ => none
def aOf : Value → Option A
  | .int k n => some (.sc (.int k (.lit n)))
  | .bool b => some (.sc (.bool (.lit b)))
  | .agg cs => (scsOf cs.toList).map .agg
  | .slice none 0 0 => some .nils
  | _ => none

theorem scOf_den {v : Env} {u : Value} {s : Sc} (h : scOf u = some s) : u = s.den v := by
  cases u <;> simp [scOf] at h <;> subst h <;> rfl
theorem scsOf_den {v : Env} : ∀ {l : List Value} {ss : List Sc}, scsOf l = some ss → l = ss.map (Sc.den v)
  | [], ss, h => by simp [scsOf] at h; subst h; rfl
  | u :: l, ss, h => by
    simp only [scsOf] at h
    cases h1 : scOf u with
    | none => simp [h1] at h
    | some s =>
      cases h2 : scsOf l with
      | none => simp [h1, h2] at h
      | some r =>
        simp [h1, h2] at h
        subst h
        rw [scOf_den (v := v) h1, scsOf_den (v := v) h2]
        rfl
theorem aOf_is {v : Env} {p : Mp} {u : Value} {a : A} (h : aOf u = some a) : a.Is v p u := by
  unfold aOf at h
  split at h
  · simp at h; subst h; rfl
  · simp at h; subst h; rfl
  · simp only [Option.map_eq_some_iff] at h
    obtain ⟨l, hl, rfl⟩ := h
    show _ = _
    rw [← scsOf_den (v := v) hl]
  · simp at h; subst h; rfl
  · simp at h

def AV.Is (v : Env) (p : Mp) : AV → Value → Prop
  | .undef, _ => True
  | .one a, u => a.Is v p u
  | .tup l, u => ∃ us, u = .tuple us ∧ listIs v p l us.toList
  | .when b want a, u => b.den v = want → a.Is v p u

theorem AV.Is.mono {v : Env} {p q : Mp} (h : p.le q) {a : AV} {u : Value} (k : a.Is v p u) : a.Is v q u := by
  cases a with
  | undef => trivial
  | one a => exact A.Is.mono h k
  | tup l => obtain ⟨us, e, h1⟩ := k; exact ⟨us, e, h1.mono h⟩
  | when b want a => exact fun hb => A.Is.mono h (k hb)

/-- a block of memory: its element type, its first cells; more: others may follow them; own: made by this call; dead: it may not be looked at any more -/
structure Blk where
  T : TypeId
  cells : List A
  more : Bool
  own : Bool
  dead : Bool
  deriving DecidableEq, Repr, Inhabited

def Blk.Is (v : Env) (p : Mp) (B : Nat) (w : World) (b : Blk) (r n : Nat) : Prop :=
  b.dead = false → ∃ cs fz, w.heap[r]? = some (.cells cs b.T fz) ∧ cs.size = n ∧ (b.more = false → cs.size = b.cells.length) ∧ listIs v p b.cells (cs.toList.take b.cells.length) ∧
    (b.own = true → B ≤ r ∧ fz = (0, 0) ∧ ∀ u ∈ cs.toList, u.oneCell' = true)

/-- The state: slots and memories as functions. -/
structure Sig where
  fr : Nat → AV
  mem : Nat → Option Blk
  n : Nat
  gl : Nat → Option Nat

end Go.Sx
