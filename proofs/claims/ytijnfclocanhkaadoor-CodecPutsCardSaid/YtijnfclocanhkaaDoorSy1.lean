/- Symbolic values: integer, bool and list expressions over numbered variables, and what they stand for. -/
import Derived.WalkKit
import Derived.WalkSpells
import Derived.WalkLawsBesides
import Derived.KernelRfl
import Derived.Below
import Derived.ChangeKeysEq
import Derived.OrdersHeld
import Derived.Deep.MidRow
import Derived.Laws.CopyRow
import Derived.Laws.OwnMore
import Derived.Laws.Slices
set_option linter.unusedVariables false
set_option linter.unusedSimpArgs false
namespace Go.Sx
open Go Go.RowKit

/-- What is known of the world at every call: a fact about its first K blocks (the package variables, as they are laid). -/
structure Laid where
  K : Nat
  G : World → Prop
  hG : ∀ w w' : World, (∀ k, k < K → w'.heap[k]? = w.heap[k]?) → G w → G w'

/-- nothing -/
def L0 : Laid := ⟨0, fun _ => True, fun _ _ _ _ => trivial⟩

/-- integers, bools, lists, lists of lists; the world at the entry -/
structure Env where
  i : Nat → Int
  b : Nat → Bool
  l : Nat → List Int
  pp : Nat → List (List Int)
  L : Laid
  w : World

inductive I where
  | var (n : Nat)
  | lit (n : Int)
  | add (k : IntKind) (x y : I)
  | sub (k : IntKind) (x y : I)
  | mul (k : IntKind) (x y : I)
  | quo (k : IntKind) (x y : I)
  | rem (x y : I)
  | bit (op : BinOp) (k : IntKind) (x y : I)
  | shl (k : IntKind) (x y : I)
  | shr (k : IntKind) (x y : I)
  | conv (k : IntKind) (x : I)
  -- numbers that never wrap
  | sum (x y : I)
  | dif (x y : I)
  | get (l i : I)
  | len (l : I)
  | plen (n : Nat)
  -- lists
  | nil
  | cons (x l : I)
  | lvar (n : Nat)
  | app (x y : I)
  | part (x o n : I)
  | set (x i y : I)
  | rep (n : I)
  | rev (x : I)
  | item (n : Nat) (i : I)
  deriving DecidableEq, Repr, Inhabited

mutual
def I.den (v : Env) : I → Int
  | .var n => v.i n
  | .lit n => n
  | .add k x y => k.wrap (x.den v + y.den v)
  | .sub k x y => k.wrap (x.den v - y.den v)
  | .mul k x y => k.wrap (x.den v * y.den v)
  | .quo k x y => k.wrap ((x.den v).tdiv (y.den v))
  | .rem x y => (x.den v).tmod (y.den v)
  | .bit op k x y => bits op k (x.den v) (y.den v)
  | .shl k x y => k.wrap (x.den v * 2 ^ (min (y.den v).toNat k.bits))
  | .shr k x y => (x.den v).fdiv (2 ^ (min (y.den v).toNat k.bits))
  | .conv k x => k.wrap (x.den v)
  | .sum x y => x.den v + y.den v
  | .dif x y => x.den v - y.den v
  | .get l i => (l.ldn v).getD (i.den v).toNat 0
  | .len l => ((l.ldn v).length : Int)
  | .plen n => ((v.pp n).length : Int)
  | _ => 0
termination_by structural e => e
def I.ldn (v : Env) : I → List Int
  | .nil => []
  | .cons x l => x.den v :: l.ldn v
  | .lvar n => v.l n
  | .app x y => x.ldn v ++ y.ldn v
  | .part x o n => ((x.ldn v).drop (o.den v).toNat).take (n.den v).toNat
  | .set x i y => (x.ldn v).set (i.den v).toNat (y.den v)
  | .rep n => List.replicate (n.den v).toNat 0
  | .rev x => (x.ldn v).reverse
  | .item n i => (v.pp n).getD (i.den v).toNat []
  | _ => []
termination_by structural e => e
end

/-- a number that is written out is reckoned at once -/
def I.fold (e : I) : I :=
  match e with
  | .add k (.lit x) (.lit y) => .lit (k.wrap (x + y))
  | .sub k (.lit x) (.lit y) => .lit (k.wrap (x - y))
  | .mul k (.lit x) (.lit y) => .lit (k.wrap (x * y))
  | .quo k (.lit x) (.lit y) => .lit (k.wrap (x.tdiv y))
  | .rem (.lit x) (.lit y) => .lit (x.tmod y)
  | .bit op k (.lit x) (.lit y) => .lit (bits op k x y)
  | .shl k (.lit x) (.lit y) => .lit (k.wrap (x * 2 ^ (min y.toNat k.bits)))
  | .shr k (.lit x) (.lit y) => .lit (x.fdiv (2 ^ (min y.toNat k.bits)))
  | .conv k (.lit x) => .lit (k.wrap x)
  | .sum (.lit x) (.lit y) => .lit (x + y)
  | .dif (.lit x) (.lit y) => .lit (x - y)
  | e => e

theorem I.den_fold (v : Env) (e : I) : e.fold.den v = e.den v := by
  unfold I.fold
  split <;> simp only [I.den]

/-- lists that are written out -/
def I.toL : I → Option (List I)
  | .nil => some []
  | .cons x l => match l.toL with | some r => some (x :: r) | none => none
  | _ => none
def I.ofL : List I → I
  | [] => .nil
  | x :: l => .cons x (I.ofL l)

theorem I.ofL_ldn (v : Env) : ∀ l : List I, (I.ofL l).ldn v = l.map (I.den v)
  | [] => by simp only [I.ofL, I.ldn, List.map_nil]
  | x :: l => by simp only [I.ofL, I.ldn, List.map_cons, I.ofL_ldn v l]
theorem I.toL_ldn (v : Env) : ∀ (e : I) (l : List I), e.toL = some l → e.ldn v = l.map (I.den v) := by
  intro e
  induction e with
  | nil => intro l h; simp only [I.toL, Option.some.injEq] at h; subst h; simp only [I.ldn, List.map_nil]
  | cons x l _ ih =>
    intro r h
    simp only [I.toL] at h
    split at h
    · rename_i r' h'
      simp only [Option.some.injEq] at h
      subst h
      simp only [I.ldn, List.map_cons, ih r' h']
    · cases h
  | _ => intro r h; simp [I.toL] at h

def mkSum (x y : I) : I := match x, y with
  | .lit a, .lit b => .lit (a + b)
  | .lit 0, y => y
  | x, .lit 0 => x
  | x, y => .sum x y
def mkDif (x y : I) : I := if x = y then .lit 0 else match x, y with
  | .lit a, .lit b => .lit (a - b)
  | x, .lit 0 => x
  | x, y => .dif x y
def lenI : I → I
  | .set x _ _ => lenI x
  | .rev x => lenI x
  | .app x y => mkSum (lenI x) (lenI y)
  | .nil => .lit 0
  | .cons _ l => mkSum (.lit 1) (lenI l)
  | l => .len l
def mkLen (l : I) : I := match l.toL with
  | some r => .lit r.length
  | none => lenI l
def mkGet (l i : I) : I := match i with
  | .lit n => match l.toL with
    | some r => match r[n.toNat]? with | some x => x | none => .get l i
    | none => .get l i
  | i => .get l i
def mkApp (x y : I) : I := match x.toL, y.toL with
  | some a, some b => I.ofL (a ++ b)
  | some [], none => y
  | none, some [] => x
  | _, _ => .app x y
def mkPart (x o n : I) : I := if o = .lit 0 ∧ n = mkLen x then x else match o, n, x.toL with
  | .lit a, .lit b, some r => I.ofL ((r.drop a.toNat).take b.toNat)
  | o, n, _ => .part x o n
def mkSet (x i y : I) : I := match i, x.toL with
  | .lit n, some r => I.ofL (r.set n.toNat y)
  | i, _ => .set x i y
def mkRep (n : I) : I := match n with
  | .lit a => I.ofL (List.replicate a.toNat (.lit 0))
  | n => .rep n
def mkRev (x : I) : I := match x.toL with
  | some r => I.ofL r.reverse
  | none => .rev x

section
variable (v : Env)
theorem mkSum_den (x y : I) : (mkSum x y).den v = x.den v + y.den v := by
  unfold mkSum
  split <;> simp only [I.den, Int.zero_add, Int.add_zero]
theorem mkDif_den (x y : I) : (mkDif x y).den v = x.den v - y.den v := by
  unfold mkDif
  split
  · rename_i h; subst h; simp only [I.den, Int.sub_self]
  · split <;> simp only [I.den, Int.sub_zero]
theorem lenI_den (l : I) : (lenI l).den v = ((l.ldn v).length : Int) := by
  induction l with
  | set x i y ih _ _ => simp only [lenI, I.ldn, List.length_set, ih]
  | rev x ih => simp only [lenI, I.ldn, List.length_reverse, ih]
  | app x y ih1 ih2 => simp only [lenI, I.ldn, List.length_append, mkSum_den, ih1, ih2, Int.natCast_add]
  | nil => simp only [lenI, I.ldn, I.den, List.length_nil]; rfl
  | cons x l _ ih => simp only [lenI, I.ldn, I.den, List.length_cons, mkSum_den, ih, Int.natCast_add]; omega
  | _ => simp only [lenI, I.den]
theorem mkLen_den (l : I) : (mkLen l).den v = ((l.ldn v).length : Int) := by
  unfold mkLen
  split
  · rename_i r h
    simp only [I.den, I.toL_ldn v l r h, List.length_map]
  · exact lenI_den v l
theorem mkGet_den (l i : I) : (mkGet l i).den v = (l.ldn v).getD (i.den v).toNat 0 := by
  unfold mkGet
  split
  · rename_i n
    split
    · rename_i r h
      split
      · rename_i x hx
        simp only [I.den, I.toL_ldn v l r h, List.getD_eq_getElem?_getD, List.getElem?_map, hx, Option.map_some, Option.getD_some]
      · simp only [I.den]
    · simp only [I.den]
  · simp only [I.den]
theorem mkApp_ldn (x y : I) : (mkApp x y).ldn v = x.ldn v ++ y.ldn v := by
  unfold mkApp
  split
  · rename_i a b h1 h2
    rw [I.ofL_ldn, I.toL_ldn v x a h1, I.toL_ldn v y b h2, List.map_append]
  · rename_i h1 _
    rw [I.toL_ldn v x [] h1]; rfl
  · rename_i _ h2
    rw [I.toL_ldn v y [] h2]; simp
  · simp only [I.ldn]
theorem mkPart_ldn (x o n : I) : (mkPart x o n).ldn v = ((x.ldn v).drop (o.den v).toNat).take (n.den v).toNat := by
  unfold mkPart
  split
  · rename_i h
    obtain ⟨rfl, rfl⟩ := h
    rw [mkLen_den]
    simp only [I.den, Int.toNat_zero, List.drop_zero, Int.toNat_natCast, List.take_length]
  · split
    · rw [I.ofL_ldn, I.toL_ldn v x _ ‹_›]
      simp only [I.den, List.map_take, List.map_drop]
    · simp only [I.ldn]
theorem mkSet_ldn (x i y : I) : (mkSet x i y).ldn v = (x.ldn v).set (i.den v).toNat (y.den v) := by
  unfold mkSet
  split
  · rename_i n r h
    rw [I.ofL_ldn, I.toL_ldn v x r h, List.map_set]
    simp only [I.den]
  · simp only [I.ldn]
theorem mkRep_ldn (n : I) : (mkRep n).ldn v = List.replicate (n.den v).toNat 0 := by
  unfold mkRep
  split
  · rw [I.ofL_ldn]; simp [I.den]
  · simp only [I.ldn]
theorem mkRev_ldn (x : I) : (mkRev x).ldn v = (x.ldn v).reverse := by
  unfold mkRev
  split
  · rename_i r h
    rw [I.ofL_ldn, I.toL_ldn v x r h, List.map_reverse]
  · simp only [I.ldn]
end

inductive Bx where
  | var (n : Nat)
  | lit (b : Bool)
  | cmp (op : BinOp) (x y : I)
  | not (x : Bx)
  | and (x y : Bx)
  | beq (x y : Bx)
  | ite (c x y : Bx)
  deriving DecidableEq, Repr, Inhabited

def cmpD (op : BinOp) (x y : Int) : Bool :=
  match op with
  | .eql => x == y
  | .neq => x != y
  | .lss => decide (x < y)
  | .leq => decide (x ≤ y)
  | .gtr => decide (x > y)
  | _ => decide (x ≥ y)

def Bx.den (v : Env) : Bx → Bool
  | .var n => v.b n
  | .lit b => b
  | .cmp op x y => cmpD op (x.den v) (y.den v)
  | .not x => !(x.den v)
  | .and x y => x.den v && y.den v
  | .beq x y => x.den v == y.den v
  | .ite c x y => if c.den v = true then x.den v else y.den v

def Bx.fold (e : Bx) : Bx :=
  match e with
  | .cmp op (.lit x) (.lit y) => .lit (cmpD op x y)
  | .not (.lit b) => .lit (!b)
  | .and (.lit true) x => x
  | .and (.lit false) _ => .lit false
  | .and x (.lit true) => x
  | .beq (.lit x) (.lit y) => .lit (x == y)
  | .ite (.lit true) x _ => x
  | .ite (.lit false) _ y => y
  | e => e

theorem Bx.den_fold (v : Env) (e : Bx) : e.fold.den v = e.den v := by
  unfold Bx.fold
  split <;> simp [Bx.den, I.den]

inductive Sc where
  | int (k : IntKind) (e : I)
  | bool (b : Bx)
  deriving DecidableEq, Repr, Inhabited

def Sc.den (v : Env) : Sc → Value
  | .int k e => .int k (e.den v)
  | .bool b => .bool (b.den v)

theorem Sc.one (v : Env) (s : Sc) : (s.den v).oneCell' = true := by cases s <;> rfl

/-! ### what is read of a slice of bytes -/
def Value.isNil : Value → Bool
  | .slice none _ _ => true
  | _ => false

/-- u is a slice that reads as these bytes -/
def Reads (w : World) (u : Value) (bs : List Int) : Prop :=
  ∃ b c, u = .slice b bs.length c ∧ bs.length ≤ c ∧ c ≤ maxLen ∧ (c = 0 ∨ ∃ r o, b = some ⟨r, o, none⟩ ∧ ∀ j x, bs[j]? = some x → w.cell? ⟨r, o + j, none⟩ = some (.int .u8 x))

/-- u is a slice of slices that read as these -/
def ReadsP (w : World) (u : Value) (ls : List (List Int)) : Prop :=
  ∃ b c, u = .slice b ls.length c ∧ ls.length ≤ c ∧ c ≤ maxLen ∧ (c = 0 ∨ ∃ r o, b = some ⟨r, o, none⟩ ∧ ∀ j bs, ls[j]? = some bs → ∃ y, w.cell? ⟨r, o + j, none⟩ = some y ∧ Reads w y bs)

theorem Reads.below {w w' : World} (hb : Below w.heap.size w w') {u : Value} {bs : List Int} (h : Reads w u bs) : Reads w' u bs := by
  obtain ⟨b, c, h1, h2, h3, h4⟩ := h
  refine ⟨b, c, h1, h2, h3, ?_⟩
  rcases h4 with h4 | ⟨r, o, h4, h5⟩
  · exact .inl h4
  · refine .inr ⟨r, o, h4, fun j x hj => ?_⟩
    have := h5 j x hj
    rw [hb.cell (World.block_lt_of_cell? w _ this)]
    exact this
theorem ReadsP.below {w w' : World} (hb : Below w.heap.size w w') {u : Value} {ls : List (List Int)} (h : ReadsP w u ls) : ReadsP w' u ls := by
  obtain ⟨b, c, h1, h2, h3, h4⟩ := h
  refine ⟨b, c, h1, h2, h3, ?_⟩
  rcases h4 with h4 | ⟨r, o, h4, h5⟩
  · exact .inl h4
  · refine .inr ⟨r, o, h4, fun j bs hj => ?_⟩
    obtain ⟨y, hy, hr⟩ := h5 j bs hj
    exact ⟨y, by rw [hb.cell (World.block_lt_of_cell? w _ hy)]; exact hy, hr.below hb⟩

/-- a value of one slot: a scalar; the cells of a struct or array of scalars; a pointer to cell 'off' of the memory that is numbered x; a slice of a memory; a method with its receiver;
bsl: a slice of a memory of numbers, by its place and length (full: it is the whole of it, to grow); bptr: a place in a memory of numbers; imm: a slice that came in, by what it reads (and whether it is nil); immp: a place that holds a byte that came in; immP, immPp: the same of a slice of slices -/
inductive A where
  | sc (s : Sc)
  | agg (l : List Sc)
  | ptr (x off : Nat)
  | slc (x off len : Nat) (cap : Option Nat)
  | nils
  | fn (f : FuncId) (recv : List Sc)
  | bsl (x : Nat) (off len : I) (full : Bool)
  | bptr (x : Nat) (i : I)
  | imm (l : I) (nl : Option Bx)
  | immp (e : I)
  | immP (n : Nat)
  | immPp (n : Nat) (i : I)
  deriving DecidableEq, Repr, Inhabited

inductive AV where
  | undef
  | one (a : A)
  | tup (l : List A)
  | when (b : Bx) (want : Bool) (a : A)
  deriving DecidableEq, Repr, Inhabited

/-- memory x: its block, and how many cells it has -/
abbrev Mp := Nat → Option (Nat × Nat)
def Mp.le (p q : Mp) : Prop := ∀ x r, p x = some r → q x = some r
theorem Mp.le_refl (p : Mp) : p.le p := fun _ _ h => h
theorem Mp.le_trans {p q r : Mp} (h : p.le q) (k : q.le r) : p.le r := fun x y hx => k x y (h x y hx)

def BslIs (v : Env) (p : Mp) (x : Nat) (off len : I) (full : Bool) (u : Value) : Prop :=
  ∃ b n c, len.den v = ((n : Nat) : Int) ∧ u = .slice b n c ∧ n ≤ c ∧ c ≤ maxLen ∧ (c = 0 ∨ ∃ r N o, p x = some (r, N) ∧ off.den v = ((o : Nat) : Int) ∧ b = some ⟨r, o, none⟩ ∧ (full = true → o = 0 ∧ c = N))

def A.Is (v : Env) (p : Mp) : A → Value → Prop
  | .sc s, u => u = s.den v
  | .agg l, u => u = .agg (l.map (Sc.den v)).toArray
  | .ptr x off, u => ∃ r n, p x = some (r, n) ∧ u = .pointer (some ⟨r, off, none⟩)
  | .slc x off len cap, u => ∃ r n, p x = some (r, n) ∧ off + len ≤ n ∧ u = .slice (some ⟨r, off, none⟩) len (cap.getD (n - off)) ∧ off + cap.getD (n - off) ≤ n ∧ len ≤ cap.getD (n - off) ∧ n ≤ maxLen
  | .nils, u => u = .slice none 0 0
  | .fn f l, u => u = .func (.func f) #[.agg (l.map (Sc.den v)).toArray] #[]
  | .bsl x off len full, u => BslIs v p x off len full u
  | .bptr x i, u => ∃ r N o, p x = some (r, N) ∧ i.den v = ((o : Nat) : Int) ∧ u = .pointer (some ⟨r, o, none⟩)
  | .imm l nl, u => Reads v.w u (l.ldn v) ∧ ∀ b, nl = some b → Value.isNil u = b.den v
  | .immp e, u => ∃ r o, u = .pointer (some ⟨r, o, none⟩) ∧ v.w.cell? ⟨r, o, none⟩ = some (.int .u8 (e.den v))
  | .immP n, u => ReadsP v.w u (v.pp n)
  | .immPp n i, u => ∃ r o y, u = .pointer (some ⟨r, o, none⟩) ∧ v.w.cell? ⟨r, o, none⟩ = some y ∧ Reads v.w y ((v.pp n).getD (i.den v).toNat [])

theorem A.Is.mono {v : Env} {p q : Mp} (h : p.le q) {a : A} {u : Value} (k : a.Is v p u) : a.Is v q u := by
  cases a with
  | ptr x off => obtain ⟨r, n, h1, h2⟩ := k; exact ⟨r, n, h _ _ h1, h2⟩
  | slc x off len cap => obtain ⟨r, n, h1, h2⟩ := k; exact ⟨r, n, h _ _ h1, h2⟩
  | bsl x off len full =>
    obtain ⟨b, n, c, h1, h2, h3, h4, h5⟩ := k
    refine ⟨b, n, c, h1, h2, h3, h4, ?_⟩
    rcases h5 with h5 | ⟨r, N, o, h5, h6⟩
    · exact .inl h5
    · exact .inr ⟨r, N, o, h _ _ h5, h6⟩
  | bptr x i => obtain ⟨r, N, o, h1, h2⟩ := k; exact ⟨r, N, o, h _ _ h1, h2⟩
  | _ => exact k

def listIs (v : Env) (p : Mp) : List A → List Value → Prop
  | [], l => l = []
  | a :: as, l => ∃ u us, l = u :: us ∧ a.Is v p u ∧ listIs v p as us

theorem listIs.mono {v : Env} {p q : Mp} (h : p.le q) : ∀ {as : List A} {l : List Value}, listIs v p as l → listIs v q as l
  | [], _, k => k
  | _ :: _, _, ⟨u, us, e, h1, h2⟩ => ⟨u, us, e, h1.mono h, h2.mono h⟩

theorem listIs.length {v : Env} {p : Mp} : ∀ {as : List A} {l : List Value}, listIs v p as l → l.length = as.length
  | [], _, k => by rw [show _ = [] from k]; rfl
  | _ :: _, _, ⟨_, _, e, _, h2⟩ => by rw [e]; simp [h2.length]

theorem listIs.get {v : Env} {p : Mp} : ∀ {as : List A} {l : List Value}, listIs v p as l → ∀ (j : Nat) (a : A), as[j]? = some a → ∃ u, l[j]? = some u ∧ a.Is v p u
  | [], _, _ => by intro j a h; simp at h
  | _ :: _, _, ⟨u, us, e, h1, h2⟩ => by
    intro j a h
    subst e
    cases j with
    | zero => simp at h; subst h; exact ⟨u, rfl, h1⟩
    | succ j => simp at h; exact h2.get j a h

theorem listIs.set {v : Env} {p : Mp} : ∀ {as : List A} {l : List Value}, listIs v p as l → ∀ (j : Nat) (a : A) (u : Value), a.Is v p u → listIs v p (as.set j a) (l.set j u)
  | [], _, k, j, a, u, _ => by rw [show _ = [] from k]; rfl
  | _ :: _, _, ⟨_, us, e, h1, h2⟩, j, a, u, hu => by
    subst e
    cases j with
    | zero => exact ⟨_, _, rfl, hu, h2⟩
    | succ j => exact ⟨_, _, rfl, h1, h2.set j a u hu⟩

theorem listIs.append {v : Env} {p : Mp} : ∀ {as bs : List A} {l m : List Value}, listIs v p as l → listIs v p bs m → listIs v p (as ++ bs) (l ++ m)
  | [], _, _, _, k, h => by rw [show _ = [] from k]; exact h
  | _ :: _, _, _, _, ⟨u, us, e, h1, h2⟩, h => by subst e; exact ⟨u, _, rfl, h1, h2.append h⟩

theorem listIs.take {v : Env} {p : Mp} : ∀ {as : List A} {l : List Value}, listIs v p as l → ∀ n, listIs v p (as.take n) (l.take n)
  | [], _, k, n => by rw [show _ = [] from k]; simp [listIs]
  | _ :: _, _, ⟨u, us, e, h1, h2⟩, n => by
    subst e
    cases n with
    | zero => simp [listIs]
    | succ n => exact ⟨u, _, rfl, h1, h2.take n⟩

theorem listIs.drop {v : Env} {p : Mp} : ∀ {as : List A} {l : List Value}, listIs v p as l → ∀ n, listIs v p (as.drop n) (l.drop n)
  | [], _, k, n => by rw [show _ = [] from k]; simp [listIs]
  | _ :: _, _, ⟨u, us, e, h1, h2⟩, n => by
    subst e
    cases n with
    | zero => exact ⟨u, _, rfl, h1, h2⟩
    | succ n => exact h2.drop n

/-- scalars only -/
def scs : List A → Option (List Sc)
  | [] => some []
  | .sc s :: l => (scs l).map (s :: ·)
  | _ :: _ => none

theorem scs_is {v : Env} {p : Mp} : ∀ {as : List A} {ss : List Sc} {l : List Value}, scs as = some ss → listIs v p as l → l = ss.map (Sc.den v)
  | [], ss, l, h, k => by simp [scs] at h; subst h; exact k
  | a :: as, ss, l, h, ⟨u, us, e, h1, h2⟩ => by
    cases a with
    | sc s =>
      simp only [scs, Option.map_eq_some_iff] at h
      obtain ⟨ss', h', rfl⟩ := h
      rw [e, scs_is h' h2, show u = _ from h1]
      rfl
    | _ => simp [scs] at h

theorem listIs_scs {v : Env} {p : Mp} : ∀ (ss : List Sc), listIs v p (ss.map A.sc) (ss.map (Sc.den v))
  | [] => rfl
  | _ :: ss => ⟨_, _, rfl, rfl, listIs_scs ss⟩

/-- numbers of one kind only -/
def ints : List A → Option (IntKind × List I)
  | [] => none
  | .sc (.int k e) :: [] => some (k, [e])
  | .sc (.int k e) :: l => match ints l with | some (k', r) => if k' = k then some (k, e :: r) else none | none => none
  | _ :: _ => none

theorem ints_is {v : Env} {p : Mp} : ∀ {as : List A} {k : IntKind} {es : List I} {l : List Value}, ints as = some (k, es) → listIs v p as l → l = (es.map (I.den v)).map (Value.int k)
  | [], k, es, l, h, _ => by simp [ints] at h
  | a :: as, k, es, l, h, ⟨u, us, e, h1, h2⟩ => by
    unfold ints at h
    split at h
    · cases h
    · rename_i k' e' heq
      simp only [List.cons.injEq] at heq
      obtain ⟨rfl, rfl⟩ := heq
      simp only [Option.some.injEq, Prod.mk.injEq] at h
      obtain ⟨rfl, rfl⟩ := h
      rw [e, show u = _ from h1, show us = [] from h2]
      rfl
    · rename_i k' e' l' hl heq
      simp only [List.cons.injEq] at heq
      obtain ⟨rfl, rfl⟩ := heq
      split at h
      · rename_i k2 r hr
        split at h
        · rename_i hk
          subst hk
          simp only [Option.some.injEq, Prod.mk.injEq] at h
          obtain ⟨rfl, rfl⟩ := h
          rw [e, show u = _ from h1, ints_is hr h2]
          rfl
        · cases h
      · cases h
    · cases h

/-- the cells of a value -/
def A.cells : A → List A
  | .agg l => l.map .sc
  | a => [a]

/-- what a cell can hold is one cell -/
def A.oneCell : A → Bool
  | .agg _ => false
  | _ => true

theorem A.Is.one {v : Env} {p : Mp} {a : A} {u : Value} (h : a.Is v p u) (ha : a.oneCell = true) : u.oneCell' = true ∧ u.cells.toList = [u] := by
  cases a with
  | sc s => rw [show u = _ from h]; cases s <;> exact ⟨rfl, rfl⟩
  | agg l => simp [A.oneCell] at ha
  | ptr x off => obtain ⟨r, n, h1, rfl⟩ := h; exact ⟨rfl, rfl⟩
  | slc x off len cap => obtain ⟨r, n, h1, h2, rfl, h3⟩ := h; exact ⟨rfl, rfl⟩
  | nils => rw [show u = _ from h]; exact ⟨rfl, rfl⟩
  | fn f l => rw [show u = _ from h]; exact ⟨rfl, rfl⟩
  | bsl x off len full => obtain ⟨b, n, c, h1, rfl, h3⟩ := h; exact ⟨rfl, rfl⟩
  | bptr x i => obtain ⟨r, N, o, h1, h2, rfl⟩ := h; exact ⟨rfl, rfl⟩
  | imm l nl => obtain ⟨⟨b, c, rfl, _⟩, _⟩ := h; exact ⟨rfl, rfl⟩
  | immp e => obtain ⟨r, o, rfl, _⟩ := h; exact ⟨rfl, rfl⟩
  | immP n => obtain ⟨b, c, rfl, _⟩ := h; exact ⟨rfl, rfl⟩
  | immPp n i => obtain ⟨r, o, y, rfl, _⟩ := h; exact ⟨rfl, rfl⟩

theorem A.Is.cells {v : Env} {p : Mp} {a : A} {u : Value} (h : a.Is v p u) : listIs v p a.cells u.cells.toList := by
  by_cases ha : a.oneCell = true
  · have hc : a.cells = [a] := by cases a <;> first | rfl | simp [A.oneCell] at ha
    rw [hc, (h.one ha).2]
    exact ⟨_, _, rfl, h, rfl⟩
  · cases a with
    | agg l => rw [show u = _ from h]; simpa [Value.cells, A.cells] using listIs_scs l
    | _ => simp [A.oneCell] at ha

theorem cells_one (a : A) : ∀ c ∈ a.cells, c.oneCell = true := by
  intro c hc
  cases a with
  | agg l => simp [A.cells] at hc; obtain ⟨s, _, rfl⟩ := hc; rfl
  | _ => simp [A.cells] at hc; subst hc; rfl

theorem listIs.ones {v : Env} {p : Mp} : ∀ {as : List A} {l : List Value}, listIs v p as l → (∀ c ∈ as, c.oneCell = true) → ∀ u ∈ l, u.oneCell' = true
  | [], _, k, _ => by rw [show _ = [] from k]; simp
  | a :: as, _, ⟨u, us, e, h1, h2⟩, h => by
    subst e
    intro x hx
    cases hx with
    | head => exact (h1.one (h a (by simp))).1
    | tail _ hx => exact h2.ones (fun c hc => h c (by simp [hc])) x hx

/-- literals of the text -/
def scOf : Value → Option Sc
  | .int k n => some (.int k (.lit n))
  | .bool b => some (.bool (.lit b))
  | _ => none
def scsOf : List Value → Option (List Sc)
  | [] => some []
  | u :: l => match scOf u, scsOf l with | some s, some r => some (s :: r) | _, _ => none
def aOf : Value → Option A
  | .int k n => some (.sc (.int k (.lit n)))
  | .bool b => some (.sc (.bool (.lit b)))
  | .agg cs => (scsOf cs.toList).map .agg
  | .slice none 0 0 => some .nils
  | _ => none

theorem scOf_den {v : Env} {u : Value} {s : Sc} (h : scOf u = some s) : u = s.den v := by
  cases u <;> simp [scOf] at h <;> subst h <;> simp [Sc.den, I.den, Bx.den]
theorem scsOf_den {v : Env} : ∀ {l : List Value} {ss : List Sc}, scsOf l = some ss → l = ss.map (Sc.den v)
  | [], ss, h => by simp [scsOf] at h; subst h; rfl
  | u :: l, ss, h => by
    simp only [scsOf] at h
    cases h1 : scOf u with
    | none => simp [h1] at h
    | some s =>
      cases h2 : scsOf l with
      | none => simp [h1, h2] at h
      | some r =>
        simp [h1, h2] at h
        subst h
        rw [scOf_den (v := v) h1, scsOf_den (v := v) h2]
        rfl
theorem aOf_is {v : Env} {p : Mp} {u : Value} {a : A} (h : aOf u = some a) : a.Is v p u := by
  unfold aOf at h
  split at h
  · simp at h; subst h; simp [A.Is, Sc.den, I.den]
  · simp at h; subst h; simp [A.Is, Sc.den, Bx.den]
  · simp only [Option.map_eq_some_iff] at h
    obtain ⟨l, hl, rfl⟩ := h
    show _ = _
    rw [← scsOf_den (v := v) hl]
  · simp at h; subst h; rfl
  · simp at h

def AV.Is (v : Env) (p : Mp) : AV → Value → Prop
  | .undef, _ => True
  | .one a, u => a.Is v p u
  | .tup l, u => ∃ us, u = .tuple us ∧ listIs v p l us.toList
  | .when b want a, u => b.den v = want → a.Is v p u

theorem AV.Is.mono {v : Env} {p q : Mp} (h : p.le q) {a : AV} {u : Value} (k : a.Is v p u) : a.Is v q u := by
  cases a with
  | undef => trivial
  | one a => exact A.Is.mono h k
  | tup l => obtain ⟨us, e, h1⟩ := k; exact ⟨us, e, h1.mono h⟩
  | when b want a => exact fun hb => A.Is.mono h (k hb)

/-- a block of memory: its element type, its first cells (or: its first numbers, as a list); more: others may follow them; own: made by this call; dead: it may not be looked at any more -/
structure Blk where
  T : TypeId
  cells : List A
  more : Bool
  own : Bool
  dead : Bool
  row : Option (IntKind × I) := none
  deriving DecidableEq, Repr, Inhabited

/-- what the cells of a block are -/
def Blk.holds (v : Env) (p : Mp) (b : Blk) (cs : List Value) : Prop :=
  match b.row with
  | none => (b.more = false → cs.length = b.cells.length) ∧ listIs v p b.cells (cs.take b.cells.length)
  | some (k, l) => cs.take (l.ldn v).length = (l.ldn v).map (Value.int k)

def Blk.Is (v : Env) (p : Mp) (B : Nat) (w : World) (b : Blk) (r n : Nat) : Prop :=
  b.dead = false → ∃ cs fz, w.heap[r]? = some (.cells cs b.T fz) ∧ cs.size = n ∧ b.holds v p cs.toList ∧
    (b.own = true → B ≤ r ∧ fz = (0, 0) ∧ ∀ u ∈ cs.toList, u.oneCell' = true)

theorem Blk.holds.mono {v : Env} {p q : Mp} (h : p.le q) {b : Blk} {cs : List Value} (k : b.holds v p cs) : b.holds v q cs := by
  unfold Blk.holds at *
  split at k
  · exact ⟨k.1, k.2.mono h⟩
  · exact k

/-- the numbers of a block -/
def Blk.nums (b : Blk) : Option (IntKind × I) :=
  match b.row with
  | some kl => some kl
  | none => match ints b.cells with | some (k, es) => some (k, I.ofL es) | none => none

theorem Blk.holds.nums {v : Env} {p : Mp} {b : Blk} {cs : List Value} (h : b.holds v p cs) {k : IntKind} {l : I} (hi : b.nums = some (k, l)) : cs.take (l.ldn v).length = (l.ldn v).map (Value.int k) := by
  unfold Blk.holds at h
  unfold Blk.nums at hi
  split at hi
  · rename_i kl hr
    simp only [Option.some.injEq] at hi
    subst hi
    rw [hr] at h
    exact h
  · rename_i hr
    rw [hr] at h
    split at hi
    · rename_i k' es he
      simp only [Option.some.injEq, Prod.mk.injEq] at hi
      obtain ⟨rfl, rfl⟩ := hi
      have h1 := ints_is he h.2
      have h2 := h.2.length
      rw [I.ofL_ldn]
      rw [h1] at h2
      simp only [List.length_map] at h2
      rw [List.length_map, h2, h1]
    · cases hi

/-- The state: slots and memories as functions. -/
structure Sig where
  fr : Nat → AV
  mem : Nat → Option Blk
  n : Nat
  gl : Nat → Option Nat

end Go.Sx
