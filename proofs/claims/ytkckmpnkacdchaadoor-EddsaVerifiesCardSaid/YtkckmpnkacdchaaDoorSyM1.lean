/- Merged: Sy1, Sy2, Sy3, Sy4, SyR, SyS. -/
import Derived.WalkKit
import Derived.WalkSpells
import Derived.WalkLawsBesides
import Derived.KernelRfl
import Derived.Below
import Derived.ChangeKeysEq
import Derived.OrdersHeld
import Derived.Deep.MidRow
import Derived.Laws.CopyRow
import Derived.Laws.OwnMore
import Derived.Laws.Slices
import Derived.Laws.StructEq
import Derived.Great.BuildSlice
import Derived.Laws.Cover3
set_option linter.unusedVariables false
set_option linter.unusedSimpArgs false
namespace Go.Sx
open Go Go.RowKit
structure Laid where
 K : Nat
 G : World → Prop
 hG : ∀ w w' : World, (∀ k, k < K → w'.heap[k]? = w.heap[k]?) → G w → G w'
def L0 : Laid := ⟨0, fun _ => True, fun _ _ _ _ => trivial⟩
structure Env where
 i : Nat → Int
 b : Nat → Bool
 l : Nat → List Int
 pp : Nat → List (List Int)
 L : Laid
 w : World
inductive I where
 | var (n : Nat)
 | lit (n : Int)
 | add (k : IntKind) (x y : I)
 | sub (k : IntKind) (x y : I)
 | mul (k : IntKind) (x y : I)
 | quo (k : IntKind) (x y : I)
 | rem (x y : I)
 | bit (op : BinOp) (k : IntKind) (x y : I)
 | shl (k : IntKind) (x y : I)
 | shr (k : IntKind) (x y : I)
 | conv (k : IntKind) (x : I)
 -- numbers that never wrap
 | sum (x y : I)
 | dif (x y : I)
 | get (l i : I)
 | len (l : I)
 | plen (n : Nat)
 -- lists
 | nil
 | cons (x l : I)
 | lvar (n : Nat)
 | app (x y : I)
 | part (x o n : I)
 | set (x i y : I)
 | rep (n : I)
 | rev (x : I)
 | item (n : Nat) (i : I)
 deriving DecidableEq, Repr, Inhabited
mutual
def I.den (v : Env) : I → Int
 | .var n => v.i n
 | .lit n => n
 | .add k x y => k.wrap (x.den v + y.den v)
 | .sub k x y => k.wrap (x.den v - y.den v)
 | .mul k x y => k.wrap (x.den v * y.den v)
 | .quo k x y => k.wrap ((x.den v).tdiv (y.den v))
 | .rem x y => (x.den v).tmod (y.den v)
 | .bit op k x y => bits op k (x.den v) (y.den v)
 | .shl k x y => k.wrap (x.den v * 2 ^ (min (y.den v).toNat k.bits))
 | .shr k x y => (x.den v).fdiv (2 ^ (min (y.den v).toNat k.bits))
 | .conv k x => k.wrap (x.den v)
 | .sum x y => x.den v + y.den v
 | .dif x y => x.den v - y.den v
 | .get l i => (l.ldn v).getD (i.den v).toNat 0
 | .len l => ((l.ldn v).length : Int)
 | .plen n => ((v.pp n).length : Int)
 | _ => 0
termination_by structural e => e
def I.ldn (v : Env) : I → List Int
 | .nil => []
 | .cons x l => x.den v :: l.ldn v
 | .lvar n => v.l n
 | .app x y => x.ldn v ++ y.ldn v
 | .part x o n => ((x.ldn v).drop (o.den v).toNat).take (n.den v).toNat
 | .set x i y => (x.ldn v).set (i.den v).toNat (y.den v)
 | .rep n => List.replicate (n.den v).toNat 0
 | .rev x => (x.ldn v).reverse
 | .item n i => (v.pp n).getD (i.den v).toNat []
 | _ => []
termination_by structural e => e
end
def I.fold (e : I) : I :=
 match e with
 | .add k (.lit x) (.lit y) => .lit (k.wrap (x + y))
 | .sub k (.lit x) (.lit y) => .lit (k.wrap (x - y))
 | .mul k (.lit x) (.lit y) => .lit (k.wrap (x * y))
 | .quo k (.lit x) (.lit y) => .lit (k.wrap (x.tdiv y))
 | .rem (.lit x) (.lit y) => .lit (x.tmod y)
 | .bit op k (.lit x) (.lit y) => .lit (bits op k x y)
 | .shl k (.lit x) (.lit y) => .lit (k.wrap (x * 2 ^ (min y.toNat k.bits)))
 | .shr k (.lit x) (.lit y) => .lit (x.fdiv (2 ^ (min y.toNat k.bits)))
 | .conv k (.lit x) => .lit (k.wrap x)
 | .sum (.lit x) (.lit y) => .lit (x + y)
 | .dif (.lit x) (.lit y) => .lit (x - y)
 | e => e
theorem I.den_fold (v : Env) (e : I) : e.fold.den v = e.den v := by
 unfold I.fold
 split <;> simp only [I.den]
def I.toL : I → Option (List I)
 | .nil => some []
 | .cons x l => match l.toL with | some r => some (x :: r) | none => none
 | _ => none
def I.ofL : List I → I
 | [] => .nil
 | x :: l => .cons x (I.ofL l)
theorem I.ofL_ldn (v : Env) : ∀ l : List I, (I.ofL l).ldn v = l.map (I.den v)
 | [] => by simp only [I.ofL, I.ldn, List.map_nil]
 | x :: l => by simp only [I.ofL, I.ldn, List.map_cons, I.ofL_ldn v l]
theorem I.toL_ldn (v : Env) : ∀ (e : I) (l : List I), e.toL = some l → e.ldn v = l.map (I.den v) := by
 intro e
 induction e with
 | nil => intro l h; simp only [I.toL, Option.some.injEq] at h; subst h; simp only [I.ldn, List.map_nil]
 | cons x l _ ih =>
  intro r h
  simp only [I.toL] at h
  split at h
  ·rename_i r' h'
   simp only [Option.some.injEq] at h
   subst h
   simp only [I.ldn, List.map_cons, ih r' h']
  ·cases h
 | _ => intro r h; simp [I.toL] at h
def mkSum (x y : I) : I := match x, y with
 | .lit a, .lit b => .lit (a + b)
 | .lit 0, y => y
 | x, .lit 0 => x
 | x, y => .sum x y
def mkDif (x y : I) : I := if x = y then .lit 0 else match x, y with
 | .lit a, .lit b => .lit (a - b)
 | x, .lit 0 => x
 | x, y => .dif x y
def lenI : I → I
 | .set x _ _ => lenI x
 | .rev x => lenI x
 | .app x y => mkSum (lenI x) (lenI y)
 | .nil => .lit 0
 | .cons _ l => mkSum (.lit 1) (lenI l)
 | l => .len l
def mkLen (l : I) : I := match l.toL with
 | some r => .lit r.length
 | none => lenI l
def mkGet (l i : I) : I := match i with
 | .lit n => match l.toL with
  | some r => match r[n.toNat]? with | some x => x | none => .get l i
  | none => .get l i
 | i => .get l i
def mkApp (x y : I) : I := match x.toL, y.toL with
 | some a, some b => I.ofL (a ++ b)
 | some [], none => y
 | none, some [] => x
 | _, _ => .app x y
def mkPart (x o n : I) : I := if o = .lit 0 ∧ n = mkLen x then x else match o, n, x.toL with
 | .lit a, .lit b, some r => I.ofL ((r.drop a.toNat).take b.toNat)
 | o, n, _ => .part x o n
def mkSet (x i y : I) : I := match i, x.toL with
 | .lit n, some r => I.ofL (r.set n.toNat y)
 | i, _ => .set x i y
def mkRep (n : I) : I := match n with
 | .lit a => I.ofL (List.replicate a.toNat (.lit 0))
 | n => .rep n
def mkRev (x : I) : I := match x.toL with
 | some r => I.ofL r.reverse
 | none => .rev x
section
variable (v : Env)
theorem mkSum_den (x y : I) : (mkSum x y).den v = x.den v + y.den v := by
 unfold mkSum
 split <;> simp only [I.den, Int.zero_add, Int.add_zero]
theorem mkDif_den (x y : I) : (mkDif x y).den v = x.den v - y.den v := by
 unfold mkDif
 split
 ·rename_i h; subst h; simp only [I.den, Int.sub_self]
 ·split <;> simp only [I.den, Int.sub_zero]
theorem lenI_den (l : I) : (lenI l).den v = ((l.ldn v).length : Int) := by
 induction l with
 | set x i y ih _ _ => simp only [lenI, I.ldn, List.length_set, ih]
 | rev x ih => simp only [lenI, I.ldn, List.length_reverse, ih]
 | app x y ih1 ih2 => simp only [lenI, I.ldn, List.length_append, mkSum_den, ih1, ih2, Int.natCast_add]
 | nil => simp only [lenI, I.ldn, I.den, List.length_nil]; rfl
 | cons x l _ ih => simp only [lenI, I.ldn, I.den, List.length_cons, mkSum_den, ih, Int.natCast_add]; omega
 | _ => simp only [lenI, I.den]
theorem mkLen_den (l : I) : (mkLen l).den v = ((l.ldn v).length : Int) := by
 unfold mkLen
 split
 ·rename_i r h
  simp only [I.den, I.toL_ldn v l r h, List.length_map]
 ·exact lenI_den v l
theorem mkGet_den (l i : I) : (mkGet l i).den v = (l.ldn v).getD (i.den v).toNat 0 := by
 unfold mkGet
 split
 ·rename_i n
  split
  ·rename_i r h
   split
   ·rename_i x hx
    simp only [I.den, I.toL_ldn v l r h, List.getD_eq_getElem?_getD, List.getElem?_map, hx, Option.map_some, Option.getD_some]
   ·simp only [I.den]
  ·simp only [I.den]
 ·simp only [I.den]
theorem mkApp_ldn (x y : I) : (mkApp x y).ldn v = x.ldn v ++ y.ldn v := by
 unfold mkApp
 split
 ·rename_i a b h1 h2
  rw [I.ofL_ldn, I.toL_ldn v x a h1, I.toL_ldn v y b h2, List.map_append]
 ·rename_i h1 _
  rw [I.toL_ldn v x [] h1]; rfl
 ·rename_i _ h2
  rw [I.toL_ldn v y [] h2]; simp
 ·simp only [I.ldn]
theorem mkPart_ldn (x o n : I) : (mkPart x o n).ldn v = ((x.ldn v).drop (o.den v).toNat).take (n.den v).toNat := by
 unfold mkPart
 split
 ·rename_i h
  obtain ⟨rfl, rfl⟩ := h
  rw [mkLen_den]
  simp only [I.den, Int.toNat_zero, List.drop_zero, Int.toNat_natCast, List.take_length]
 ·split
  ·rw [I.ofL_ldn, I.toL_ldn v x _ ‹_›]
   simp only [I.den, List.map_take, List.map_drop]
  ·simp only [I.ldn]
theorem mkSet_ldn (x i y : I) : (mkSet x i y).ldn v = (x.ldn v).set (i.den v).toNat (y.den v) := by
 unfold mkSet
 split
 ·rename_i n r h
  rw [I.ofL_ldn, I.toL_ldn v x r h, List.map_set]
  simp only [I.den]
 ·simp only [I.ldn]
theorem mkRep_ldn (n : I) : (mkRep n).ldn v = List.replicate (n.den v).toNat 0 := by
 unfold mkRep
 split
 ·rw [I.ofL_ldn]; simp [I.den]
 ·simp only [I.ldn]
theorem mkRev_ldn (x : I) : (mkRev x).ldn v = (x.ldn v).reverse := by
 unfold mkRev
 split
 ·rename_i r h
  rw [I.ofL_ldn, I.toL_ldn v x r h, List.map_reverse]
 ·simp only [I.ldn]
end
abbrev envI (l : List Int) (n : Nat) : Int := l.getD n 0
abbrev envB (l : List Bool) (n : Nat) : Bool := l.getD n false
abbrev envL (l : List (List Int)) (n : Nat) : List Int := l.getD n []
abbrev envP (l : List (List (List Int))) (n : Nat) : List (List Int) := l.getD n []
inductive Bx where
 | var (n : Nat)
 | lit (b : Bool)
 | cmp (op : BinOp) (x y : I)
 | not (x : Bx)
 | and (x y : Bx)
 | beq (x y : Bx)
 | ite (c x y : Bx)
 deriving DecidableEq, Repr, Inhabited
def cmpD (op : BinOp) (x y : Int) : Bool :=
 match op with
 | .eql => x == y
 | .neq => x != y
 | .lss => decide (x < y)
 | .leq => decide (x ≤ y)
 | .gtr => decide (x > y)
 | _ => decide (x ≥ y)
def Bx.den (v : Env) : Bx → Bool
 | .var n => v.b n
 | .lit b => b
 | .cmp op x y => cmpD op (x.den v) (y.den v)
 | .not x => !(x.den v)
 | .and x y => x.den v && y.den v
 | .beq x y => x.den v == y.den v
 | .ite c x y => if c.den v = true then x.den v else y.den v
def Bx.fold (e : Bx) : Bx :=
 match e with
 | .cmp op (.lit x) (.lit y) => .lit (cmpD op x y)
 | .not (.lit b) => .lit (!b)
 | .and (.lit true) x => x
 | .and (.lit false) _ => .lit false
 | .and x (.lit true) => x
 | .beq (.lit x) (.lit y) => .lit (x == y)
 | .ite (.lit true) x _ => x
 | .ite (.lit false) _ y => y
 | e => e
theorem Bx.den_fold (v : Env) (e : Bx) : e.fold.den v = e.den v := by
 unfold Bx.fold
 split <;> simp [Bx.den, I.den]
inductive Sc where
 | int (k : IntKind) (e : I)
 | bool (b : Bx)
 deriving DecidableEq, Repr, Inhabited
abbrev Sc.v (n : Nat) : Sc := .int .u64 (.var n)
abbrev Sc.n (z : Int) : Sc := .int .u64 (.lit z)
def Sc.den (v : Env) : Sc → Value
 | .int k e => .int k (e.den v)
 | .bool b => .bool (b.den v)
theorem Sc.one (v : Env) (s : Sc) : (s.den v).oneCell' = true := by cases s <;> rfl
def Value.isNil : Value → Bool
 | .slice none _ _ => true
 | _ => false
def Reads (w : World) (u : Value) (bs : List Int) : Prop :=
 ∃ b c, u = .slice b bs.length c ∧ bs.length ≤ c ∧ c ≤ maxLen ∧ (c = 0 ∨ ∃ r o, b = some ⟨r, o, none⟩ ∧ ∀ j x, bs[j]? = some x → w.cell? ⟨r, o + j, none⟩ = some (.int .u8 x))
def ReadsP (w : World) (u : Value) (ls : List (List Int)) : Prop :=
 ∃ b c, u = .slice b ls.length c ∧ ls.length ≤ c ∧ c ≤ maxLen ∧ (c = 0 ∨ ∃ r o, b = some ⟨r, o, none⟩ ∧ ∀ j bs, ls[j]? = some bs → ∃ y, w.cell? ⟨r, o + j, none⟩ = some y ∧ Reads w y bs)
theorem Reads.below {w w' : World} (hb : Below w.heap.size w w') {u : Value} {bs : List Int} (h : Reads w u bs) : Reads w' u bs := by
 obtain ⟨b, c, h1, h2, h3, h4⟩ := h
 refine ⟨b, c, h1, h2, h3, ?_⟩
 rcases h4 with h4 | ⟨r, o, h4, h5⟩
 ·exact .inl h4
 ·refine .inr ⟨r, o, h4, fun j x hj => ?_⟩
  have := h5 j x hj
  rw [hb.cell (World.block_lt_of_cell? w _ this)]
  exact this
theorem ReadsP.below {w w' : World} (hb : Below w.heap.size w w') {u : Value} {ls : List (List Int)} (h : ReadsP w u ls) : ReadsP w' u ls := by
 obtain ⟨b, c, h1, h2, h3, h4⟩ := h
 refine ⟨b, c, h1, h2, h3, ?_⟩
 rcases h4 with h4 | ⟨r, o, h4, h5⟩
 ·exact .inl h4
 ·refine .inr ⟨r, o, h4, fun j bs hj => ?_⟩
  obtain ⟨y, hy, hr⟩ := h5 j bs hj
  exact ⟨y, by rw [hb.cell (World.block_lt_of_cell? w _ hy)]; exact hy, hr.below hb⟩
inductive A where
 | sc (s : Sc)
 | agg (l : List Sc)
 | ptr (x off : Nat)
 | slc (x off len : Nat) (cap : Option Nat)
 | nils
 | fn (f : FuncId) (recv : List Sc)
 | bsl (x : Nat) (off len : I) (full : Bool)
 | bptr (x : Nat) (i : I)
 | imm (l : I) (nl : Option Bx)
 | immp (e : I)
 | immP (n : Nat)
 | immPp (n : Nat) (i : I)
 deriving DecidableEq, Repr, Inhabited
inductive AV where
 | undef
 | one (a : A)
 | tup (l : List A)
 | when (b : Bx) (want : Bool) (a : A)
 deriving DecidableEq, Repr, Inhabited
abbrev Mp := Nat → Option (Nat × Nat)
def Mp.le (p q : Mp) : Prop := ∀ x r, p x = some r → q x = some r
theorem Mp.le_refl (p : Mp) : p.le p := fun _ _ h => h
theorem Mp.le_trans {p q r : Mp} (h : p.le q) (k : q.le r) : p.le r := fun x y hx => k x y (h x y hx)
def BslIs (v : Env) (p : Mp) (x : Nat) (off len : I) (full : Bool) (u : Value) : Prop :=
 ∃ b n c, len.den v = ((n : Nat) : Int) ∧ u = .slice b n c ∧ n ≤ c ∧ c ≤ maxLen ∧ (c = 0 ∨ ∃ r N o, p x = some (r, N) ∧ off.den v = ((o : Nat) : Int) ∧ b = some ⟨r, o, none⟩ ∧ (full = true → o = 0 ∧ c = N))
def A.Is (v : Env) (p : Mp) : A → Value → Prop
 | .sc s, u => u = s.den v
 | .agg l, u => u = .agg (l.map (Sc.den v)).toArray
 | .ptr x off, u => ∃ r n, p x = some (r, n) ∧ u = .pointer (some ⟨r, off, none⟩)
 | .slc x off len cap, u => ∃ r n, p x = some (r, n) ∧ off + len ≤ n ∧ u = .slice (some ⟨r, off, none⟩) len (cap.getD (n - off)) ∧ off + cap.getD (n - off) ≤ n ∧ len ≤ cap.getD (n - off) ∧ n ≤ maxLen
 | .nils, u => u = .slice none 0 0
 | .fn f l, u => u = .func (.func f) #[.agg (l.map (Sc.den v)).toArray] #[]
 | .bsl x off len full, u => BslIs v p x off len full u
 | .bptr x i, u => ∃ r N o, p x = some (r, N) ∧ i.den v = ((o : Nat) : Int) ∧ u = .pointer (some ⟨r, o, none⟩)
 | .imm l nl, u => Reads v.w u (l.ldn v) ∧ ∀ b, nl = some b → Value.isNil u = b.den v
 | .immp e, u => ∃ r o, u = .pointer (some ⟨r, o, none⟩) ∧ v.w.cell? ⟨r, o, none⟩ = some (.int .u8 (e.den v))
 | .immP n, u => ReadsP v.w u (v.pp n)
 | .immPp n i, u => ∃ r o y, u = .pointer (some ⟨r, o, none⟩) ∧ v.w.cell? ⟨r, o, none⟩ = some y ∧ Reads v.w y ((v.pp n).getD (i.den v).toNat [])
theorem A.Is.mono {v : Env} {p q : Mp} (h : p.le q) {a : A} {u : Value} (k : a.Is v p u) : a.Is v q u := by
 cases a with
 | ptr x off => obtain ⟨r, n, h1, h2⟩ := k; exact ⟨r, n, h _ _ h1, h2⟩
 | slc x off len cap => obtain ⟨r, n, h1, h2⟩ := k; exact ⟨r, n, h _ _ h1, h2⟩
 | bsl x off len full =>
  obtain ⟨b, n, c, h1, h2, h3, h4, h5⟩ := k
  refine ⟨b, n, c, h1, h2, h3, h4, ?_⟩
  rcases h5 with h5 | ⟨r, N, o, h5, h6⟩
  ·exact .inl h5
  ·exact .inr ⟨r, N, o, h _ _ h5, h6⟩
 | bptr x i => obtain ⟨r, N, o, h1, h2⟩ := k; exact ⟨r, N, o, h _ _ h1, h2⟩
 | _ => exact k
def listIs (v : Env) (p : Mp) : List A → List Value → Prop
 | [], l => l = []
 | a :: as, l => ∃ u us, l = u :: us ∧ a.Is v p u ∧ listIs v p as us
theorem listIs.mono {v : Env} {p q : Mp} (h : p.le q) : ∀ {as : List A} {l : List Value}, listIs v p as l → listIs v q as l
 | [], _, k => k
 | _ :: _, _, ⟨u, us, e, h1, h2⟩ => ⟨u, us, e, h1.mono h, h2.mono h⟩
theorem listIs.length {v : Env} {p : Mp} : ∀ {as : List A} {l : List Value}, listIs v p as l → l.length = as.length
 | [], _, k => by rw [show _ = [] from k]; rfl
 | _ :: _, _, ⟨_, _, e, _, h2⟩ => by rw [e]; simp [h2.length]
theorem listIs.get {v : Env} {p : Mp} : ∀ {as : List A} {l : List Value}, listIs v p as l → ∀ (j : Nat) (a : A), as[j]? = some a → ∃ u, l[j]? = some u ∧ a.Is v p u
 | [], _, _ => by intro j a h; simp at h
 | _ :: _, _, ⟨u, us, e, h1, h2⟩ => by
  intro j a h
  subst e
  cases j with
  | zero => simp at h; subst h; exact ⟨u, rfl, h1⟩
  | succ j => simp at h; exact h2.get j a h
theorem listIs.set {v : Env} {p : Mp} : ∀ {as : List A} {l : List Value}, listIs v p as l → ∀ (j : Nat) (a : A) (u : Value), a.Is v p u → listIs v p (as.set j a) (l.set j u)
 | [], _, k, j, a, u, _ => by rw [show _ = [] from k]; rfl
 | _ :: _, _, ⟨_, us, e, h1, h2⟩, j, a, u, hu => by
  subst e
  cases j with
  | zero => exact ⟨_, _, rfl, hu, h2⟩
  | succ j => exact ⟨_, _, rfl, h1, h2.set j a u hu⟩
theorem listIs.append {v : Env} {p : Mp} : ∀ {as bs : List A} {l m : List Value}, listIs v p as l → listIs v p bs m → listIs v p (as ++ bs) (l ++ m)
 | [], _, _, _, k, h => by rw [show _ = [] from k]; exact h
 | _ :: _, _, _, _, ⟨u, us, e, h1, h2⟩, h => by subst e; exact ⟨u, _, rfl, h1, h2.append h⟩
theorem listIs.take {v : Env} {p : Mp} : ∀ {as : List A} {l : List Value}, listIs v p as l → ∀ n, listIs v p (as.take n) (l.take n)
 | [], _, k, n => by rw [show _ = [] from k]; simp [listIs]
 | _ :: _, _, ⟨u, us, e, h1, h2⟩, n => by
  subst e
  cases n with
  | zero => simp [listIs]
  | succ n => exact ⟨u, _, rfl, h1, h2.take n⟩
theorem listIs.drop {v : Env} {p : Mp} : ∀ {as : List A} {l : List Value}, listIs v p as l → ∀ n, listIs v p (as.drop n) (l.drop n)
 | [], _, k, n => by rw [show _ = [] from k]; simp [listIs]
 | _ :: _, _, ⟨u, us, e, h1, h2⟩, n => by
  subst e
  cases n with
  | zero => exact ⟨u, _, rfl, h1, h2⟩
  | succ n => exact h2.drop n
def scs : List A → Option (List Sc)
 | [] => some []
 | .sc s :: l => (scs l).map (s :: ·)
 | _ :: _ => none
theorem scs_is {v : Env} {p : Mp} : ∀ {as : List A} {ss : List Sc} {l : List Value}, scs as = some ss → listIs v p as l → l = ss.map (Sc.den v)
 | [], ss, l, h, k => by simp [scs] at h; subst h; exact k
 | a :: as, ss, l, h, ⟨u, us, e, h1, h2⟩ => by
  cases a with
  | sc s =>
   simp only [scs, Option.map_eq_some_iff] at h
   obtain ⟨ss', h', rfl⟩ := h
   rw [e, scs_is h' h2, show u = _ from h1]
   rfl
  | _ => simp [scs] at h
theorem listIs_scs {v : Env} {p : Mp} : ∀ (ss : List Sc), listIs v p (ss.map A.sc) (ss.map (Sc.den v))
 | [] => rfl
 | _ :: ss => ⟨_, _, rfl, rfl, listIs_scs ss⟩
def ints : List A → Option (IntKind × List I)
 | [] => none
 | .sc (.int k e) :: [] => some (k, [e])
 | .sc (.int k e) :: l => match ints l with | some (k', r) => if k' = k then some (k, e :: r) else none | none => none
 | _ :: _ => none
theorem ints_is {v : Env} {p : Mp} : ∀ {as : List A} {k : IntKind} {es : List I} {l : List Value}, ints as = some (k, es) → listIs v p as l → l = (es.map (I.den v)).map (Value.int k)
 | [], k, es, l, h, _ => by simp [ints] at h
 | a :: as, k, es, l, h, ⟨u, us, e, h1, h2⟩ => by
  unfold ints at h
  split at h
  ·cases h
  ·rename_i k' e' heq
   simp only [List.cons.injEq] at heq
   obtain ⟨rfl, rfl⟩ := heq
   simp only [Option.some.injEq, Prod.mk.injEq] at h
   obtain ⟨rfl, rfl⟩ := h
   rw [e, show u = _ from h1, show us = [] from h2]
   rfl
  ·rename_i k' e' l' hl heq
   simp only [List.cons.injEq] at heq
   obtain ⟨rfl, rfl⟩ := heq
   split at h
   ·rename_i k2 r hr
    split at h
    ·rename_i hk
     subst hk
     simp only [Option.some.injEq, Prod.mk.injEq] at h
     obtain ⟨rfl, rfl⟩ := h
     rw [e, show u = _ from h1, ints_is hr h2]
     rfl
    ·cases h
   ·cases h
  ·cases h
def A.cells : A → List A
 | .agg l => l.map .sc
 | a => [a]
def A.oneCell : A → Bool
 | .agg _ => false
 | _ => true
theorem A.Is.one {v : Env} {p : Mp} {a : A} {u : Value} (h : a.Is v p u) (ha : a.oneCell = true) : u.oneCell' = true ∧ u.cells.toList = [u] := by
 cases a with
 | sc s => rw [show u = _ from h]; cases s <;> exact ⟨rfl, rfl⟩
 | agg l => simp [A.oneCell] at ha
 | ptr x off => obtain ⟨r, n, h1, rfl⟩ := h; exact ⟨rfl, rfl⟩
 | slc x off len cap => obtain ⟨r, n, h1, h2, rfl, h3⟩ := h; exact ⟨rfl, rfl⟩
 | nils => rw [show u = _ from h]; exact ⟨rfl, rfl⟩
 | fn f l => rw [show u = _ from h]; exact ⟨rfl, rfl⟩
 | bsl x off len full => obtain ⟨b, n, c, h1, rfl, h3⟩ := h; exact ⟨rfl, rfl⟩
 | bptr x i => obtain ⟨r, N, o, h1, h2, rfl⟩ := h; exact ⟨rfl, rfl⟩
 | imm l nl => obtain ⟨⟨b, c, rfl, _⟩, _⟩ := h; exact ⟨rfl, rfl⟩
 | immp e => obtain ⟨r, o, rfl, _⟩ := h; exact ⟨rfl, rfl⟩
 | immP n => obtain ⟨b, c, rfl, _⟩ := h; exact ⟨rfl, rfl⟩
 | immPp n i => obtain ⟨r, o, y, rfl, _⟩ := h; exact ⟨rfl, rfl⟩
theorem A.Is.cells {v : Env} {p : Mp} {a : A} {u : Value} (h : a.Is v p u) : listIs v p a.cells u.cells.toList := by
 by_cases ha : a.oneCell = true
 ·have hc : a.cells = [a] := by cases a <;> first | rfl | simp [A.oneCell] at ha
  rw [hc, (h.one ha).2]
  exact ⟨_, _, rfl, h, rfl⟩
 ·cases a with
  | agg l => rw [show u = _ from h]; simpa [Value.cells, A.cells] using listIs_scs l
  | _ => simp [A.oneCell] at ha
theorem cells_one (a : A) : ∀ c ∈ a.cells, c.oneCell = true := by
 intro c hc
 cases a with
 | agg l => simp [A.cells] at hc; obtain ⟨s, _, rfl⟩ := hc; rfl
 | _ => simp [A.cells] at hc; subst hc; rfl
theorem listIs.ones {v : Env} {p : Mp} : ∀ {as : List A} {l : List Value}, listIs v p as l → (∀ c ∈ as, c.oneCell = true) → ∀ u ∈ l, u.oneCell' = true
 | [], _, k, _ => by rw [show _ = [] from k]; simp
 | a :: as, _, ⟨u, us, e, h1, h2⟩, h => by
  subst e
  intro x hx
  cases hx with
  | head => exact (h1.one (h a (by simp))).1
  | tail _ hx => exact h2.ones (fun c hc => h c (by simp [hc])) x hx
def scOf : Value → Option Sc
 | .int k n => some (.int k (.lit n))
 | .bool b => some (.bool (.lit b))
 | _ => none
def scsOf : List Value → Option (List Sc)
 | [] => some []
 | u :: l => match scOf u, scsOf l with | some s, some r => some (s :: r) | _, _ => none
def aOf : Value → Option A
 | .int k n => some (.sc (.int k (.lit n)))
 | .bool b => some (.sc (.bool (.lit b)))
 | .agg cs => (scsOf cs.toList).map .agg
 | .slice none 0 0 => some .nils
 | _ => none
theorem scOf_den {v : Env} {u : Value} {s : Sc} (h : scOf u = some s) : u = s.den v := by
 cases u <;> simp [scOf] at h <;> subst h <;> simp [Sc.den, I.den, Bx.den]
theorem scsOf_den {v : Env} : ∀ {l : List Value} {ss : List Sc}, scsOf l = some ss → l = ss.map (Sc.den v)
 | [], ss, h => by simp [scsOf] at h; subst h; rfl
 | u :: l, ss, h => by
  simp only [scsOf] at h
  cases h1 : scOf u with
  | none => simp [h1] at h
  | some s =>
   cases h2 : scsOf l with
   | none => simp [h1, h2] at h
   | some r =>
    simp [h1, h2] at h
    subst h
    rw [scOf_den (v := v) h1, scsOf_den (v := v) h2]
    rfl
theorem aOf_is {v : Env} {p : Mp} {u : Value} {a : A} (h : aOf u = some a) : a.Is v p u := by
 unfold aOf at h
 split at h
 ·simp at h; subst h; simp [A.Is, Sc.den, I.den]
 ·simp at h; subst h; simp [A.Is, Sc.den, Bx.den]
 ·simp only [Option.map_eq_some_iff] at h
  obtain ⟨l, hl, rfl⟩ := h
  show _ = _
  rw [← scsOf_den (v := v) hl]
 ·simp at h; subst h; rfl
 ·simp at h
def AV.Is (v : Env) (p : Mp) : AV → Value → Prop
 | .undef, _ => True
 | .one a, u => a.Is v p u
 | .tup l, u => ∃ us, u = .tuple us ∧ listIs v p l us.toList
 | .when b want a, u => b.den v = want → a.Is v p u
theorem AV.Is.mono {v : Env} {p q : Mp} (h : p.le q) {a : AV} {u : Value} (k : a.Is v p u) : a.Is v q u := by
 cases a with
 | undef => trivial
 | one a => exact A.Is.mono h k
 | tup l => obtain ⟨us, e, h1⟩ := k; exact ⟨us, e, h1.mono h⟩
 | when b want a => exact fun hb => A.Is.mono h (k hb)
structure Blk where
 T : TypeId
 cells : List A
 more : Bool
 own : Bool
 dead : Bool
 row : Option (IntKind × I) := none
 deriving DecidableEq, Repr, Inhabited
def Blk.holds (v : Env) (p : Mp) (b : Blk) (cs : List Value) : Prop :=
 match b.row with
 | none => (b.more = false → cs.length = b.cells.length) ∧ listIs v p b.cells (cs.take b.cells.length)
 | some (k, l) => cs.take (l.ldn v).length = (l.ldn v).map (Value.int k)
def Blk.Is (v : Env) (p : Mp) (B : Nat) (w : World) (b : Blk) (r n : Nat) : Prop :=
 b.dead = false → ∃ cs fz, w.heap[r]? = some (.cells cs b.T fz) ∧ cs.size = n ∧ b.holds v p cs.toList ∧
  (b.own = true → B ≤ r ∧ fz = (0, 0) ∧ ∀ u ∈ cs.toList, u.oneCell' = true)
theorem Blk.holds.mono {v : Env} {p q : Mp} (h : p.le q) {b : Blk} {cs : List Value} (k : b.holds v p cs) : b.holds v q cs := by
 unfold Blk.holds at *
 split at k
 ·exact ⟨k.1, k.2.mono h⟩
 ·exact k
def Blk.nums (b : Blk) : Option (IntKind × I) :=
 match b.row with
 | some kl => some kl
 | none => match ints b.cells with | some (k, es) => some (k, I.ofL es) | none => none
theorem Blk.holds.nums {v : Env} {p : Mp} {b : Blk} {cs : List Value} (h : b.holds v p cs) {k : IntKind} {l : I} (hi : b.nums = some (k, l)) : cs.take (l.ldn v).length = (l.ldn v).map (Value.int k) := by
 unfold Blk.holds at h
 unfold Blk.nums at hi
 split at hi
 ·rename_i kl hr
  simp only [Option.some.injEq] at hi
  subst hi
  rw [hr] at h
  exact h
 ·rename_i hr
  rw [hr] at h
  split at hi
  ·rename_i k' es he
   simp only [Option.some.injEq, Prod.mk.injEq] at hi
   obtain ⟨rfl, rfl⟩ := hi
   have h1 := ints_is he h.2
   have h2 := h.2.length
   rw [I.ofL_ldn]
   rw [h1] at h2
   simp only [List.length_map] at h2
   rw [List.length_map, h2, h1]
  ·cases hi
structure Sig where
 fr : Nat → AV
 mem : Nat → Option Blk
 n : Nat
 gl : Nat → Option Nat
end Go.Sx
namespace Go.Sx
open Go Go.RowKit
structure RelP (v : Env) (s : Sig) (a : Act) (w : World) (p : Mp) : Prop where
 defers : a.defers = []
 size : a.tmps.size = s.n
 base : v.w.heap.size ≤ w.heap.size
 below : Below v.w.heap.size v.w w
 inj : ∀ x y r n m b c, s.mem x = some b → b.dead = false → s.mem y = some c → c.dead = false → p x = some (r, n) → p y = some (r, m) → x = y
 mem : ∀ x b, s.mem x = some b → (b.row.isSome = true ∧ p x = none) ∨ ∃ r n, p x = some (r, n) ∧ r < w.heap.size ∧ b.Is v p v.w.heap.size w r n
 free : ∀ x, s.mem x = none → p x = none
 glob : ∀ g x, s.gl g = some x → ∃ n, p x = some (g, n)
 frame : ∀ t, (s.fr t).Is v p (a.tmps.getD t undef)
 gk : v.L.K ≤ v.w.heap.size
 g0 : v.L.G v.w
section
variable {v : Env} {w w' : World} {s : Sig} {a : Act} {p : Mp} {P : Program}
def Sig.ev (s : Sig) : Operand → AV
 | .tmp t => s.fr t
 | .const u => match aOf u with | some x => .one x | none => .undef
 | .global g => match s.gl g with | some x => .one (.ptr x 0) | none => .undef
 | .func _ => .undef
theorem RelP.laid (h : RelP v s a w p) : v.L.K ≤ w.heap.size ∧ v.L.G w :=
 ⟨Nat.le_trans h.gk h.base, v.L.hG v.w w (fun k hk => h.below.block k (Nat.lt_of_lt_of_le hk h.gk)) h.g0⟩
theorem RelP.at (h : RelP v s a w p) {x r n : Nat} {b : Blk} (hx : s.mem x = some b) (hp : p x = some (r, n)) : r < w.heap.size ∧ b.Is v p v.w.heap.size w r n := by
 rcases h.mem x b hx with ⟨_, hn⟩ | ⟨r', n', h1, h2, h3⟩
 ·rw [hp] at hn; cases hn
 ·rw [hp] at h1
  simp only [Option.some.injEq, Prod.mk.injEq] at h1
  obtain ⟨rfl, rfl⟩ := h1
  exact ⟨h2, h3⟩
theorem RelP.ev (h : RelP v s a w p) (x : Operand) : (s.ev x).Is v p (a.eval x) := by
 cases x with
 | tmp t => exact h.frame t
 | const u =>
  simp only [Sig.ev]
  cases e : aOf u with
  | none => trivial
  | some y => exact aOf_is e
 | global g =>
  simp only [Sig.ev]
  cases e : s.gl g with
  | none => trivial
  | some y =>
   obtain ⟨n, hn⟩ := h.glob g y e
   exact ⟨g, n, hn, rfl⟩
 | func f => trivial
def Sig.put (s : Sig) (dst : Option Nat) (x : AV) : Sig :=
 match dst with
 | none => s
 | some d => { s with fr := fun t => if t = d then x else s.fr t }
def Sig.setM (s : Sig) (x : Nat) (b : Blk) : Sig := { s with mem := fun y => if y = x then some b else s.mem y }
theorem RelP.put (h : RelP v s a w p) {dst : Option Nat} {x : AV} {u : Value} (hd : ∀ d, dst = some d → d < s.n) (hx : x.Is v p u) : RelP v (s.put dst x) (a.put dst u) w p := by
 cases dst with
 | none => exact h
 | some d =>
  have hd' : d < a.tmps.size := by rw [h.size]; exact hd d rfl
  refine ⟨h.defers, by show (a.tmps.setIfInBounds d u).size = s.n; simpa using h.size, h.base, h.below, h.inj, h.mem, h.free, h.glob, fun t => ?_, h.gk, h.g0⟩
  show AV.Is v p (if t = d then x else s.fr t) ((a.tmps.setIfInBounds d u).getD t undef)
  by_cases e : t = d
  ·subst e
   rw [if_pos rfl]
   simpa [hd'] using hx
  ·rw [if_neg e]
   have := h.frame t
   simpa [Array.getElem?_setIfInBounds_ne (Ne.symm e)] using this
theorem Blk.Is.below {B : Nat} {b : Blk} {r n : Nat} (h : b.Is v p B w r n) (hw : Below w.heap.size w w') (hr : r < w.heap.size) : b.Is v p B w' r n := by
 intro hd
 obtain ⟨cs, fz, h1, h2⟩ := h hd
 exact ⟨cs, fz, by rw [hw.block r hr]; exact h1, h2⟩
theorem RelP.world (h : RelP v s a w p) (hw : Below w.heap.size w w') : RelP v s a w' p :=
 ⟨h.defers, h.size, Nat.le_trans h.base hw.size, h.below.trans (hw.mono h.base), h.inj,
  fun x b hb => by
   rcases h.mem x b hb with hn | ⟨r, n, h1, h2, h3⟩
   ·exact .inl hn
   ·exact .inr ⟨r, n, h1, Nat.lt_of_lt_of_le h2 hw.size, h3.below hw h2⟩,
  h.free, h.glob, h.frame, h.gk, h.g0⟩
theorem Blk.Is.mono {B : Nat} {b : Blk} {r n : Nat} {q : Mp} (h : b.Is v p B w r n) (hq : p.le q) : b.Is v q B w r n := by
 intro hd
 obtain ⟨cs, fz, h1, h2, h3, h4⟩ := h hd
 exact ⟨cs, fz, h1, h2, h3.mono hq, h4⟩
theorem RelP.fresh (h : RelP v s a w p) {x r : Nat} {b : Blk} {cs : Array Value} (hx : s.mem x = none) (hb : Below w.heap.size w w') (hr : w.heap.size ≤ r) (hc : w'.heap[r]? = some (.cells cs b.T (0, 0)))
  (hh : ∀ q : Mp, p.le q → q x = some (r, cs.size) → b.holds v q cs.toList) (h1 : ∀ u ∈ cs.toList, u.oneCell' = true) :
  ∃ q : Mp, p.le q ∧ q x = some (r, cs.size) ∧ RelP v (s.setM x b) a w' q := by
 have hpx := h.free x hx
 have hle : p.le (fun y => if y = x then some (r, cs.size) else p y) := by
  intro y r hy
  by_cases e : y = x
  ·subst e; rw [hpx] at hy; cases hy
  ·simp [e, hy]
 have hrlt : r < w'.heap.size := (Array.getElem?_eq_some_iff.1 hc).1
 refine ⟨fun y => if y = x then some (r, cs.size) else p y, hle, by simp, ?_⟩
 have hw' := h.world hb
 refine ⟨h.defers, h.size, hw'.base, hw'.below, ?_, ?_, ?_, ?_, ?_, h.gk, h.g0⟩
 ·intro y z r' n m c d hy hcd hz hdd hqy hqz
  simp only [Sig.setM] at hy hz
  by_cases ey : y = x
  ·by_cases ez : z = x
   ·rw [ey, ez]
   ·exfalso
    simp only [ey, if_true, Option.some.injEq, Prod.mk.injEq] at hqy
    simp only [if_neg ez] at hqz hz
    have := (h.at hz hqz).1
    omega
  ·by_cases ez : z = x
   ·exfalso
    simp only [ez, if_true, Option.some.injEq, Prod.mk.injEq] at hqz
    simp only [if_neg ey] at hqy hy
    have := (h.at hy hqy).1
    omega
   ·simp only [if_neg ey] at hqy hy
    simp only [if_neg ez] at hqz hz
    exact h.inj y z r' n m c d hy hcd hz hdd hqy hqz
 ·intro y c hy
  simp only [Sig.setM] at hy
  by_cases ey : y = x
  ·simp only [ey, if_true, Option.some.injEq] at hy
   subst hy
   exact .inr ⟨r, cs.size, by simp [ey], hrlt, fun _ => ⟨cs, (0, 0), hc, rfl, hh _ hle (by simp), fun _ => ⟨Nat.le_trans h.base hr, rfl, h1⟩⟩⟩
  ·simp only [if_neg ey] at hy
   rcases hw'.mem y c hy with hn | ⟨r', n, h2, h3, h4⟩
   ·exact .inl ⟨hn.1, by simp [ey, hn.2]⟩
   ·exact .inr ⟨r', n, by simp [ey, h2], h3, h4.mono hle⟩
 ·intro y hy
  simp only [Sig.setM] at hy
  by_cases ey : y = x
  ·simp [ey] at hy
  ·simp only [if_neg ey] at hy ⊢
   exact h.free y hy
 ·intro g y hg
  obtain ⟨n, hn⟩ := h.glob g y hg
  exact ⟨n, hle _ _ hn⟩
 ·exact fun t => (h.frame t).mono hle
theorem RelP.alloc (h : RelP v s a w p) {x : Nat} {b : Blk} {cs : Array Value} (hx : s.mem x = none) (hh : ∀ q : Mp, p.le q → q x = some (w.heap.size, cs.size) → b.holds v q cs.toList)
  (h1 : ∀ u ∈ cs.toList, u.oneCell' = true) :
  ∃ q : Mp, p.le q ∧ q x = some (w.heap.size, cs.size) ∧ RelP v (s.setM x b) a (w.alloc (.cells cs b.T)) q :=
 h.fresh hx ((Below.refl _ _).alloc (Nat.le_refl _) _) (Nat.le_refl _) (by show (w.heap.push _)[w.heap.size]? = _; simp) hh h1
theorem RelP.ghost (h : RelP v s a w p) {x : Nat} {b : Blk} (hx : s.mem x = none) (hb : b.row.isSome = true) : RelP v (s.setM x b) a w p := by
 have hpx := h.free x hx
 refine ⟨h.defers, h.size, h.base, h.below, ?_, ?_, ?_, h.glob, h.frame, h.gk, h.g0⟩
 ·intro y z r n m c d hy hcd hz hdd hqy hqz
  simp only [Sig.setM] at hy hz
  have ey : y ≠ x := by rintro rfl; rw [hpx] at hqy; cases hqy
  have ez : z ≠ x := by rintro rfl; rw [hpx] at hqz; cases hqz
  rw [if_neg ey] at hy
  rw [if_neg ez] at hz
  exact h.inj y z r n m c d hy hcd hz hdd hqy hqz
 ·intro y c hy
  simp only [Sig.setM] at hy
  by_cases ey : y = x
  ·simp only [ey, if_true, Option.some.injEq] at hy
   subst hy
   exact .inl ⟨hb, by rw [ey]; exact hpx⟩
  ·simp only [if_neg ey] at hy
   exact h.mem y c hy
 ·intro y hy
  simp only [Sig.setM] at hy
  by_cases ey : y = x
  ·simp [ey] at hy
  ·simp only [if_neg ey] at hy
   exact h.free y hy
theorem RelP.kill (h : RelP v s a w p) {x : Nat} {b : Blk} (hx : s.mem x = some b) : RelP v (s.setM x { b with dead := true }) a w p := by
 refine ⟨h.defers, h.size, h.base, h.below, ?_, ?_, ?_, h.glob, h.frame, h.gk, h.g0⟩
 ·intro y z r n m c d hy hcd hz hdd hqy hqz
  simp only [Sig.setM] at hy hz
  have ey : y ≠ x := by rintro rfl; rw [if_pos rfl] at hy; cases hy; cases hcd
  have ez : z ≠ x := by rintro rfl; rw [if_pos rfl] at hz; cases hz; cases hdd
  rw [if_neg ey] at hy
  rw [if_neg ez] at hz
  exact h.inj y z r n m c d hy hcd hz hdd hqy hqz
 ·intro y c hy
  simp only [Sig.setM] at hy
  by_cases ey : y = x
  ·simp only [ey, if_true, Option.some.injEq] at hy
   subst hy
   rw [ey]
   rcases h.mem x b hx with hn | ⟨r, n, h1, h2, h3⟩
   ·exact .inl hn
   ·exact .inr ⟨r, n, h1, h2, fun hd => by cases hd⟩
  ·simp only [if_neg ey] at hy
   exact h.mem y c hy
 ·intro y hy
  simp only [Sig.setM] at hy
  by_cases ey : y = x
  ·simp [ey] at hy
  ·simp only [if_neg ey] at hy
   exact h.free y hy
theorem RelP.store (h : RelP v s a w p) {x r n : Nat} {b b' : Blk} {cs cs' : Array Value} {fz : Nat × Nat} (hx : s.mem x = some b) (hd : b.dead = false) (ho : v.w.heap.size ≤ r) (hp : p x = some (r, n))
  (hw : w.heap[r]? = some (.cells cs b.T fz)) (hT : b'.T = b.T) (hfz : b'.own = true → fz = (0, 0)) (hs : cs'.size = n) (hh : b'.holds v p cs'.toList) (h1 : ∀ u ∈ cs'.toList, u.oneCell' = true) :
  RelP v (s.setM x b') a (w.setRow r cs') p := by
 have hsz : (w.setRow r cs').heap.size = w.heap.size := by simp [World.setRow]
 have hlt : r < w.heap.size := (Array.getElem?_eq_some_iff.1 hw).1
 refine ⟨h.defers, h.size, by rw [hsz]; exact h.base, ?_, ?_, ?_, ?_, h.glob, h.frame, h.gk, h.g0⟩
 ·exact h.below.trans ⟨rfl, rfl, rfl, by rw [hsz]; exact Nat.le_refl _, fun k hk => setRow_other w r k cs' (by omega)⟩
 ·intro y z r' n' m' c d hy hcd hz hdd hqy hqz
  simp only [Sig.setM] at hy hz
  have fy : ∃ c', s.mem y = some c' ∧ c'.dead = false := by
   by_cases ey : y = x
   ·exact ⟨b, by rw [ey]; exact hx, hd⟩
   ·simp only [if_neg ey] at hy; exact ⟨c, hy, hcd⟩
  have fz' : ∃ c', s.mem z = some c' ∧ c'.dead = false := by
   by_cases ez : z = x
   ·exact ⟨b, by rw [ez]; exact hx, hd⟩
   ·simp only [if_neg ez] at hz; exact ⟨d, hz, hdd⟩
  obtain ⟨c', h2, h3⟩ := fy
  obtain ⟨d', h4, h5⟩ := fz'
  exact h.inj y z r' n' m' c' d' h2 h3 h4 h5 hqy hqz
 ·intro y c hy
  simp only [Sig.setM] at hy
  by_cases ey : y = x
  ·simp only [ey, if_true, Option.some.injEq] at hy
   subst hy
   exact .inr ⟨r, n, by rw [ey]; exact hp, by rw [hsz]; exact hlt, fun _ => ⟨cs', fz, by rw [hT]; exact setRow_heap w r cs cs' b.T fz hw, hs, hh, fun ho' => ⟨ho, hfz ho', h1⟩⟩⟩
  ·simp only [if_neg ey] at hy
   rcases h.mem y c hy with hn | ⟨r', n', h2, h3, h4⟩
   ·exact .inl hn
   ·refine .inr ⟨r', n', h2, by rw [hsz]; exact h3, fun hcd => ?_⟩
    have hne : r' ≠ r := by
     intro e
     subst e
     exact ey (h.inj y x r' n' n c b hy hcd hx hd h2 hp)
    obtain ⟨cs2, fz2, e1, e2⟩ := h4 hcd
    exact ⟨cs2, fz2, by rw [setRow_other w r r' cs' hne]; exact e1, e2⟩
 ·intro y hy
  simp only [Sig.setM] at hy
  by_cases ey : y = x
  ·simp [ey] at hy
  ·simp only [if_neg ey] at hy
   exact h.free y hy
theorem RelP.regrow (h : RelP v s a w p) {m x0 r n : Nat} {b b' : Blk} {cs cs' : Array Value} (hm : s.mem m = some b) (hd : b.dead = false) (hx0 : s.mem x0 = none) (ho : v.w.heap.size ≤ r) (hp : p m = some (r, n))
  (hw : w.heap[r]? = some (.cells cs b.T (0, 0))) (hT : b'.T = b.T) (hs : cs'.size = n) (hh : ∀ q : Mp, p.le q → b'.holds v q cs'.toList) (h1 : ∀ u ∈ cs'.toList, u.oneCell' = true) :
  ∃ q : Mp, p.le q ∧ q x0 = some (r, n) ∧ RelP v ((s.setM m { b with dead := true }).setM x0 b') a (w.setRow r cs') q := by
 have hne0 : m ≠ x0 := by rintro rfl; rw [hm] at hx0; cases hx0
 have hpx := h.free x0 hx0
 have hle : p.le (fun y => if y = x0 then some (r, n) else p y) := by
  intro y r hy
  by_cases e : y = x0
  ·subst e; rw [hpx] at hy; cases hy
  ·simp [e, hy]
 have hsz : (w.setRow r cs').heap.size = w.heap.size := by simp [World.setRow]
 have hlt : r < w.heap.size := (Array.getElem?_eq_some_iff.1 hw).1
 refine ⟨fun y => if y = x0 then some (r, n) else p y, hle, by simp, h.defers, h.size, by rw [hsz]; exact h.base, ?_, ?_, ?_, ?_, ?_, fun t => (h.frame t).mono hle, h.gk, h.g0⟩
 ·exact h.below.trans ⟨rfl, rfl, rfl, by rw [hsz]; exact Nat.le_refl _, fun k hk => setRow_other w r k cs' (by omega)⟩
 ·intro y z r' n' m' c d hy hcd hz hdd hqy hqz
  simp only [Sig.setM] at hy hz
  have alive : ∀ y c, (if y = x0 then some b' else if y = m then some { b with dead := true } else s.mem y) = some c → c.dead = false → y = x0 ∨ (y ≠ x0 ∧ y ≠ m ∧ s.mem y = some c) := by
   intro y c hy hc
   by_cases e : y = x0
   ·exact .inl e
   ·rw [if_neg e] at hy
    by_cases e2 : y = m
    ·rw [if_pos e2] at hy; cases hy; cases hc
    ·rw [if_neg e2] at hy; exact .inr ⟨e, e2, hy⟩
  rcases alive y c hy hcd with ey | ⟨ey, em, hy'⟩
  ·rcases alive z d hz hdd with ez | ⟨ez, ezm, hz'⟩
   ·rw [ey, ez]
   ·exfalso
    simp only [ey, if_true, Option.some.injEq, Prod.mk.injEq] at hqy
    simp only [if_neg ez] at hqz
    rw [← hqy.1] at hqz
    exact ezm (h.inj z m r m' n d b hz' hdd hm hd hqz hp)
  ·rcases alive z d hz hdd with ez | ⟨ez, ezm, hz'⟩
   ·exfalso
    simp only [ez, if_true, Option.some.injEq, Prod.mk.injEq] at hqz
    simp only [if_neg ey] at hqy
    rw [← hqz.1] at hqy
    exact em (h.inj y m r n' n c b hy' hcd hm hd hqy hp)
   ·simp only [if_neg ey] at hqy
    simp only [if_neg ez] at hqz
    exact h.inj y z r' n' m' c d hy' hcd hz' hdd hqy hqz
 ·intro y c hy
  simp only [Sig.setM] at hy
  by_cases ey : y = x0
  ·rw [if_pos ey] at hy
   cases hy
   exact .inr ⟨r, n, by simp [ey], by rw [hsz]; exact hlt, fun _ => ⟨cs', (0, 0), by rw [hT]; exact setRow_heap w r cs cs' b.T (0, 0) hw, hs, hh _ hle, fun _ => ⟨ho, rfl, h1⟩⟩⟩
  ·rw [if_neg ey] at hy
   by_cases em : y = m
   ·rw [if_pos em] at hy
    cases hy
    exact .inr ⟨r, n, by simp only [if_neg ey]; rw [em]; exact hp, by rw [hsz]; exact hlt, fun hdd => by cases hdd⟩
   ·rw [if_neg em] at hy
    rcases h.mem y c hy with hn | ⟨r', n', h2, h3, h4⟩
    ·exact .inl ⟨hn.1, by simp only [if_neg ey]; exact hn.2⟩
    ·refine .inr ⟨r', n', by simp only [if_neg ey]; exact h2, by rw [hsz]; exact h3, fun hcd => ?_⟩
     have hne : r' ≠ r := by
      intro e
      subst e
      exact em (h.inj y m r' n' n c b hy hcd hm hd h2 hp)
     obtain ⟨cs2, fz2, e1, e2, e3, e4⟩ := h4 hcd
     exact ⟨cs2, fz2, by rw [setRow_other w r r' cs' hne]; exact e1, e2, e3.mono hle, e4⟩
 ·intro y hy
  simp only [Sig.setM] at hy
  by_cases ey : y = x0
  ·simp [ey] at hy
  ·rw [if_neg ey] at hy
   simp only [if_neg ey]
   by_cases em : y = m
   ·rw [if_pos em] at hy; cases hy
   ·rw [if_neg em] at hy; exact h.free y hy
 ·intro g y hg
  obtain ⟨k, hk⟩ := h.glob g y hg
  exact ⟨k, hle _ _ hk⟩
end
end Go.Sx
namespace Go.Sx
open Go Go.RowKit
inductive EArg where
 | val (a : A)
 | bytes (l : I)
 | parts (ls : List I)
 | partsV (n : Nat)
 deriving DecidableEq, Repr, Inhabited
inductive ERes where
 | val (a : A)
 | fresh (T : TypeId) (l off len : I) (full : Bool)
 deriving DecidableEq, Repr, Inhabited
inductive SArg where
 | val (u : Value)
 | bytes (bs : List Int)
 | parts (ls : List (List Int))
inductive SRes where
 | val (u : Value)
 | fresh (T : TypeId) (l : List Int) (off len : Nat) (full : Bool)
def SArg.Is (w : World) : SArg → Value → Prop
 | .val u, x => x = u
 | .bytes bs, x => Reads w x bs
 | .parts ls, x => ReadsP w x ls
def SRes.Is (B : Nat) (w : World) : SRes → Value → Prop
 | .val u, x => x = u
 | .fresh T l off len full, x => ∃ b c, x = .slice b len c ∧ len ≤ c ∧ c ≤ maxLen ∧ (c = 0 ∨ ∃ r cs, b = some ⟨r, off, none⟩ ∧ B ≤ r ∧ w.heap[r]? = some (.cells cs T (0, 0)) ∧ cs.toList.take l.length = l.map (Value.int .u8) ∧
   (∀ u ∈ cs.toList, u.oneCell' = true) ∧ (full = true → off = 0 ∧ c = cs.size))
def argsIs (w : World) : List SArg → List Value → Prop
 | [], us => us = []
 | a :: as, us => ∃ u r, us = u :: r ∧ a.Is w u ∧ argsIs w as r
def resIs (B : Nat) (w : World) : List SRes → List Value → Prop
 | [], us => us = []
 | a :: as, us => ∃ u r, us = u :: r ∧ a.Is B w u ∧ resIs B w as r
def retOf : List Value → Value
 | [x] => x
 | l => .tuple l.toArray
def CallS (P : Program) (L : Laid) (f : FuncId) (args : List SArg) (res : List SRes) : Prop := ∀ (w : World) (us : List Value), L.K ≤ w.heap.size → L.G w → argsIs w args us →
 (callFunc f us.toArray).run P w = .ok (.enter f us.toArray) w ∧ Calls P f us.toArray w fun e w' => ∃ vs, e = .returned (retOf vs) ∧ resIs w.heap.size w' res vs ∧ Below w.heap.size w w'
def Reverser (P : Program) (f : FuncId) : Prop := ∀ (w : World) (b : Option Addr) (c : Nat) (bs : List Int), bs.length ≤ c → c ≤ maxLen →
 (callFunc f #[.slice b bs.length c]).run P w = .ok (.enter f #[.slice b bs.length c]) w ∧
 (c = 0 → Calls P f #[.slice b bs.length c] w fun e w' => e = .returned (.tuple #[]) ∧ Below w.heap.size w w') ∧
 ∀ r cs T, b = some ⟨r, 0, none⟩ → w.heap[r]? = some (.cells cs T (0, 0)) → cs.toList.take bs.length = bs.map (Value.int .u8) → 
  Calls P f #[.slice b bs.length c] w fun e w' => e = .returned (.tuple #[]) ∧ ∃ q, w' = (w.drewN q).setRow r (bs.reverse.map (Value.int .u8) ++ cs.toList.drop bs.length).toArray
inductive Ev where
 | dec (b : Bx) (val : Bool)
 | call (f : FuncId) (args : List A) (res : AV)
 | sel (n : Nat) (b : Bx) (x y : I)
 | selB (n : Nat) (b x y : Bx)
 | selL (n : Nat) (b : Bx) (x y : I)
 | callS (f : FuncId) (args : List EArg) (res : List ERes)
 | rev (f : FuncId)
 | imp (b : Bx) (want : Bool) (e : Ev)
 deriving DecidableEq, Repr, Inhabited
def A.val (v : Env) : A → Value
 | .sc s => s.den v
 | .agg l => .agg (l.map (Sc.den v)).toArray
 | .nils => .slice none 0 0
 | _ => undef
def A.pure : A → Bool
 | .sc _ | .agg _ | .nils => true
 | _ => false
def AV.val (v : Env) : AV → Value
 | .one a => a.val v
 | .tup l => .tuple (l.map (A.val v)).toArray
 | _ => Go.undef
def CallP (P : Program) (f : FuncId) (args : Array Value) (u : Value) : Prop := ∀ w : World,
 (∃ w', (callFunc f args).run P w = .ok (.value u) w' ∧ Below w.heap.size w w') ∨
 (∃ g args', (callFunc f args).run P w = .ok (.enter g args') w ∧ Calls P g args' w fun e w' => e = .returned u ∧ Below w.heap.size w w')
def CallG (P : Program) (L : Laid) (f : FuncId) (args : Array Value) (u : Value) : Prop := ∀ w : World, L.K ≤ w.heap.size → L.G w →
 (∃ w', (callFunc f args).run P w = .ok (.value u) w' ∧ Below w.heap.size w w') ∨
 (∃ g args', (callFunc f args).run P w = .ok (.enter g args') w ∧ Calls P g args' w fun e w' => e = .returned u ∧ Below w.heap.size w w')
def EArg.den (v : Env) : EArg → SArg
 | .val a => .val (a.val v)
 | .bytes l => .bytes (l.ldn v)
 | .parts ls => .parts (ls.map (I.ldn v))
 | .partsV n => .parts (v.pp n)
def ERes.den (v : Env) : ERes → SRes
 | .val a => .val (a.val v)
 | .fresh T l off len full => .fresh T (l.ldn v) (off.den v).toNat (len.den v).toNat full
theorem CallP.g {P : Program} {L : Laid} {f : FuncId} {args : Array Value} {u : Value} (h : CallP P f args u) : CallG P L f args u := fun w _ _ => h w
def Ev.holds (P : Program) (v : Env) : Ev → Prop
 | .dec b c => b.den v = c
 | .call f args res => CallG P v.L f (args.map (A.val v)).toArray (res.val v)
 | .sel n b x y => v.i n = if b.den v = true then x.den v else y.den v
 | .selB n b x y => v.b n = if b.den v = true then x.den v else y.den v
 | .selL n b x y => v.l n = if b.den v = true then x.ldn v else y.ldn v
 | .callS f args res => CallS P v.L f (args.map (EArg.den v)) (res.map (ERes.den v))
 | .rev f => Reverser P f
 | .imp b want e => b.den v = want → e.holds P v
structure Out where
 val : AV
 mems : List (Nat × Blk)
 ev : List Ev
 nv : Nat
 ora : List (Option Bool)
 deriving DecidableEq, Repr, Inhabited
def Sig.after (s : Sig) (dst : Option Nat) (o : Out) : Sig := (o.mems.foldl (fun s xb => s.setM xb.1 xb.2) s).put dst o.val
def Does (P : Program) (v : Env) (s : Sig) (o : Oper) (out : Out) : Prop :=
 ∀ (a : Act) (w : World) (p : Mp), RelP v s a w p → ∀ (K : Act → World → Prop) (Q : Exit → Act → World → Prop),
  (∀ a' w' q, RelP v (s.after o.dst out) a' w' q → K a' w') → o.wp P a w K Q
section
variable {P : Program} {v : Env} {s : Sig} {o : Oper}
theorem does_value {x : AV} {ev : List Ev} {nv : Nat} {ora : List (Option Bool)} (hd : ∀ d, o.dst = some d → d < s.n)
  (h : ∀ a w p, RelP v s a w p → ∃ u, (execOp a.eval o).run P w = .ok (.value u) w ∧ x.Is v p u) : Does P v s o ⟨x, [], ev, nv, ora⟩ := by
 intro a w p hr K Q hK
 obtain ⟨u, h1, h2⟩ := h a w p hr
 unfold Oper.wp
 rw [h1, Oper.upon_value]
 exact hK _ _ _ (hr.put hd h2)
def decB (b : Bx) (ora : List (Option Bool)) : Bx × List Ev × List (Option Bool) :=
 match b with
 | .lit c => (.lit c, [], ora)
 | b => match ora with
  | some c :: r => (.lit c, [.dec b c], r)
  | none :: r => (b, [], r)
  | [] => (b, [], [])
theorem decB_den (b : Bx) (ora : List (Option Bool)) (h : ∀ e ∈ (decB b ora).2.1, e.holds P v) : (decB b ora).1.den v = b.den v := by
 unfold decB at *
 split
 ·rfl
 ·split
  ·rename_i c r
   have := h (.dec b c) (by simp_all)
   simpa [Bx.den] using this.symm
  ·rfl
  ·rfl
def decSc (s : Sc) (ora : List (Option Bool)) : Sc × List Ev × List (Option Bool) :=
 match s with
 | .bool b => let r := decB b ora; (.bool r.1, r.2.1, r.2.2)
 | s => (s, [], ora)
theorem decSc_den (s : Sc) (ora : List (Option Bool)) (h : ∀ e ∈ (decSc s ora).2.1, e.holds P v) : (decSc s ora).1.den v = s.den v := by
 cases s with
 | int k e => rfl
 | bool b => simp only [decSc, Sc.den] at *; rw [decB_den b ora h]
def decScs : List Sc → List (Option Bool) → List Sc × List Ev × List (Option Bool)
 | [], ora => ([], [], ora)
 | s :: l, ora => let r := decSc s ora; let q := decScs l r.2.2; (r.1 :: q.1, r.2.1 ++ q.2.1, q.2.2)
theorem decScs_den : ∀ (l : List Sc) (ora : List (Option Bool)), (∀ e ∈ (decScs l ora).2.1, e.holds P v) → (decScs l ora).1.map (Sc.den v) = l.map (Sc.den v)
 | [], _, _ => rfl
 | s :: l, ora, h => by
  simp only [decScs, List.map_cons] at *
  rw [decSc_den s ora (fun e he => h e (by simp [he])), decScs_den l _ (fun e he => h e (by simp [he]))]
def decA (a : A) (ora : List (Option Bool)) : A × List Ev × List (Option Bool) :=
 match a with
 | .sc s => let r := decSc s ora; (.sc r.1, r.2.1, r.2.2)
 | .agg l => let r := decScs l ora; (.agg r.1, r.2.1, r.2.2)
 | a => (a, [], ora)
theorem decA_val (a : A) (ora : List (Option Bool)) (h : ∀ e ∈ (decA a ora).2.1, e.holds P v) : (decA a ora).1.val v = a.val v := by
 cases a with
 | sc s => simp only [decA, A.val] at *; rw [decSc_den s ora h]
 | agg l => simp only [decA, A.val] at *; rw [decScs_den l ora h]
 | _ => rfl
theorem decA_pure (a : A) (ora : List (Option Bool)) (h : a.pure = true) : (decA a ora).1.pure = true := by cases a <;> simp_all [decA, A.pure]
def decAs : List A → List (Option Bool) → List A × List Ev × List (Option Bool)
 | [], ora => ([], [], ora)
 | s :: l, ora => let r := decA s ora; let q := decAs l r.2.2; (r.1 :: q.1, r.2.1 ++ q.2.1, q.2.2)
theorem decAs_val : ∀ (l : List A) (ora : List (Option Bool)), (∀ e ∈ (decAs l ora).2.1, e.holds P v) → (decAs l ora).1.map (A.val v) = l.map (A.val v)
 | [], _, _ => rfl
 | s :: l, ora, h => by
  simp only [decAs, List.map_cons] at *
  rw [decA_val s ora (fun e he => h e (by simp [he])), decAs_val l _ (fun e he => h e (by simp [he]))]
theorem decAs_pure : ∀ (l : List A) (ora : List (Option Bool)), (∀ a ∈ l, a.pure = true) → ∀ a ∈ (decAs l ora).1, a.pure = true
 | [], _, _ => by simp [decAs]
 | s :: l, ora, h => by
  intro a ha
  simp only [decAs, List.mem_cons] at ha
  rcases ha with rfl | ha
  ·exact decA_pure s ora (h s (by simp))
  ·exact decAs_pure l _ (fun a ha => h a (by simp [ha])) a ha
theorem A.pure_is {a : A} (h : a.pure = true) (p : Mp) : a.Is v p (a.val v) := by cases a <;> simp_all [A.pure, A.Is, A.val]
theorem A.is_val {a : A} (h : a.pure = true) {p : Mp} {u : Value} (k : a.Is v p u) : u = a.val v := by cases a <;> simp_all [A.pure, A.Is, A.val]
theorem pures_is (p : Mp) : ∀ {l : List A}, (∀ a ∈ l, a.pure = true) → listIs v p l (l.map (A.val v))
 | [], _ => rfl
 | a :: l, h => ⟨_, _, rfl, A.pure_is (h a (by simp)) p, pures_is p fun a ha => h a (by simp [ha])⟩
theorem does_move {x : Operand} (hd : ∀ d, o.dst = some d → d < s.n) (ho : o.op = .move x ∨ o.op = .assign x) (nv ora) : Does P v s o ⟨s.ev x, [], [], nv, ora⟩ := by
 refine does_value hd fun a w p h => ⟨a.eval x, ?_, h.ev x⟩
 rcases ho with ho | ho <;> (unfold execOp; rw [ho]; rfl)
theorem does_pick {c x y : Operand} {t : Bool} (hd : ∀ d, o.dst = some d → d < s.n) (ho : o.op = .pick c x y) (hc : s.ev c = .one (.sc (.bool (.lit t)))) (nv ora) :
  Does P v s o ⟨if t then s.ev x else s.ev y, [], [], nv, ora⟩ := by
 refine does_value hd fun a w p h => ⟨if t then a.eval x else a.eval y, ?_, ?_⟩
 ·have := h.ev c
  rw [hc] at this
  have hc' : a.eval c = .bool t := this
  unfold execOp
  rw [ho]
  simp [hc', asBool]
 ·cases t
  ·exact h.ev y
  ·exact h.ev x
def boolAt (b : Bx) (want : Bool) : AV → Option Bx
 | .one (.sc (.bool x)) => some x
 | .when b' want' (.sc (.bool x)) => if b' = b ∧ want' = want then some x else none
 | _ => none
theorem boolAt_is {b : Bx} {want : Bool} {x : AV} {y : Bx} (h : boolAt b want x = some y) {p : Mp} {u : Value} (hb : b.den v = want) (k : x.Is v p u) : u = .bool (y.den v) := by
 unfold boolAt at h
 split at h
 ·simp only [Option.some.injEq] at h; subst h; exact k
 ·split at h
  ·rename_i hc
   obtain ⟨rfl, rfl⟩ := hc
   simp only [Option.some.injEq] at h
   subst h
   exact k hb
  ·cases h
 ·cases h
theorem does_pick_sym {c x y : Operand} {b bx bY : Bx} (hd : ∀ d, o.dst = some d → d < s.n) (ho : o.op = .pick c x y) (hc : s.ev c = .one (.sc (.bool b))) (hx : boolAt b true (s.ev x) = some bx) (hy : boolAt b false (s.ev y) = some bY) (nv ora) :
  Does P v s o ⟨.one (.sc (.bool (Bx.ite b bx bY).fold)), [], [], nv, ora⟩ := by
 refine does_value hd fun a w p h => ⟨.bool ((Bx.ite b bx bY).den v), ?_, by show _ = _; simp [Sc.den, Bx.den_fold]⟩
 have := h.ev c
 rw [hc] at this
 have hc' : a.eval c = .bool (b.den v) := this
 unfold execOp
 rw [ho]
 simp only [hc', asBool, Sem.run_bind, Sem.run_pure, Result.andThen_ok, Bx.den]
 cases hb : b.den v with
 | true => simp [boolAt_is hx hb (h.ev x)]
 | false => simp [boolAt_is hy hb (h.ev y)]
theorem does_extract {x : Operand} {i : Nat} {l : List A} {y : A} (hd : ∀ d, o.dst = some d → d < s.n) (ho : o.op = .extract x i) (hx : s.ev x = .tup l) (hy : l[i]? = some y) (nv ora) :
  Does P v s o ⟨.one y, [], [], nv, ora⟩ := by
 refine does_value hd fun a w p h => ?_
 have := h.ev x
 rw [hx] at this
 obtain ⟨us, e, hl⟩ := this
 obtain ⟨u, h1, h2⟩ := hl.get i y hy
 refine ⟨u, ?_, h2⟩
 have h1' : us[i]? = some u := by simpa using h1
 unfold execOp
 rw [ho]
 simp [e, Instr.extract, h1']
theorem does_nilCheck {x : Operand} {y off : Nat} (hd : ∀ d, o.dst = some d → d < s.n) (ho : o.op = .nilCheck x) (hx : s.ev x = .one (.ptr y off)) (nv ora) :
  Does P v s o ⟨.one (.ptr y off), [], [], nv, ora⟩ := by
 refine does_value hd fun a w p h => ?_
 have := h.ev x
 rw [hx] at this
 obtain ⟨r, n, hp, e⟩ := this
 refine ⟨_, ?_, r, n, hp, rfl⟩
 unfold execOp
 rw [ho]
 simp [e]
def unA (op : UnOp) : Sc → Option Sc
 | .bool b => match op with | .not => some (.bool (Bx.not b).fold) | _ => none
 | .int k e => match op with
  | .neg => some (.int k (I.sub k (.lit 0) e).fold)
  | .xor => some (.int k (I.bit .xor k (.lit (if k.signed then -1 else k.max)) e).fold)
  | _ => none
theorem unA_run {op : UnOp} {x y : Sc} (h : unA op x = some y) (w : World) : (Op.unary op (x.den v)).run P w = .ok (y.den v) w := by
 cases x with
 | bool b => cases op <;> simp [unA] at h; subst h; simp [Sc.den, Op.unary, Bx.den_fold, Bx.den]
 | int k e =>
  cases op <;> simp [unA] at h
  ·subst h; simp [Sc.den, Op.unary, I.den_fold, I.den, Op.intArith]
  ·subst h; simp [Sc.den, Op.unary, I.den_fold, I.den, intBits_xor]
theorem does_unOp {op : UnOp} {t : TypeId} {x : Operand} {y z : Sc} (hd : ∀ d, o.dst = some d → d < s.n) (ho : o.op = .unOp op t x) (hx : s.ev x = .one (.sc y)) (hz : unA op y = some z) (nv ora) :
  Does P v s o ⟨.one (.sc z), [], [], nv, ora⟩ := by
 refine does_value hd fun a w p h => ⟨z.den v, ?_, rfl⟩
 have := h.ev x
 rw [hx] at this
 have e : a.eval x = y.den v := this
 unfold execOp
 rw [ho]
 simp [e, unA_run hz]
theorem does_convert {src dst : TypeId} {x : Operand} {k k' : IntKind} {e : I} (hd : ∀ d, o.dst = some d → d < s.n) (ho : o.op = .convert src dst x) (hx : s.ev x = .one (.sc (.int k e)))
  (hs : (P.underlying src).isSome = true) (hk : P.underlying dst = some (.int k')) (nv ora) : Does P v s o ⟨.one (.sc (.int k' (I.conv k' e).fold)), [], [], nv, ora⟩ := by
 refine does_value hd fun a w p h => ⟨.int k' (k'.wrap (e.den v)), ?_, by show Value.int k' _ = Sc.den v _; simp [Sc.den, I.den_fold, I.den]⟩
 have := h.ev x
 rw [hx] at this
 have e' : a.eval x = .int k (e.den v) := this
 have hki : P.intKind dst = k' := by simp [Program.intKind, hk]
 have hr := run_convert_int (P := P) w src dst k (e.den v) hs (by rw [hki]; exact hk)
 unfold execOp
 rw [ho]
 rw [hki] at hr
 simp [e', hr]
def intA (op : BinOp) (k : IntKind) (x y : I) : Option Sc :=
 match op with
 | .add => some (.int k (I.add k x y).fold)
 | .sub => some (.int k (I.sub k x y).fold)
 | .mul => some (.int k (I.mul k x y).fold)
 | .quo => match y with | .lit n => if n = 0 then none else some (.int k (I.quo k x y).fold) | _ => none
 | .rem => match y with | .lit n => if n = 0 then none else some (.int k (I.rem x y).fold) | _ => none
 | .and => some (.int k (I.bit .and k x y).fold)
 | .or => some (.int k (I.bit .or k x y).fold)
 | .xor => some (.int k (I.bit .xor k x y).fold)
 | .andNot => some (.int k (I.bit .andNot k x y).fold)
 | .shl => none
 | .shr => none
 | op => some (.bool (Bx.cmp op x y).fold)
theorem intA_run {op : BinOp} {k : IntKind} {x y : I} {z : Sc} (h : intA op k x y = some z) (t : TypeId) (w : World) :
  (binOp op t (.int k (x.den v)) (.int k (y.den v))).run P w = .ok (z.den v) w := by
 cases op <;> simp only [intA, Option.some.injEq] at h
 case quo =>
  split at h
  ·split at h
   ·cases h
   ·simp only [Option.some.injEq] at h; subst h; simp [binOp_quo, Op.intDiv, Sc.den, I.den_fold, I.den, *]
  ·cases h
 case rem =>
  split at h
  ·split at h
   ·cases h
   ·simp only [Option.some.injEq] at h; subst h; simp [binOp_rem, Op.intDiv, Sc.den, I.den_fold, I.den, *]
  ·cases h
 case shl => cases h
 case shr => cases h
 all_goals
  subst h
  first
   | (simp [binOp_add, binOp_sub, binOp_mul, Op.intArith, Sc.den, I.den_fold, I.den]; done)
   | (simp [binOp_and, binOp_or, binOp_xor, binOp_andNot, intBits_and, intBits_or, intBits_xor, intBits_andNot, Sc.den, I.den_fold, I.den]; done)
   | (simp [binOp_eql, binOp_neq, binOp_lss, binOp_leq, binOp_gtr, binOp_geq, Sc.den, Bx.den_fold, Bx.den, cmpD]; done)
def shEv (y : I) : Option (List Ev) :=
 match y with
 | .lit n => if n < 0 then none else some []
 | y => some [Ev.dec (.cmp .lss y (.lit 0)) false]
theorem shEv_ok {y : I} {ev : List Ev} (h : shEv y = some ev) (he : ∀ e ∈ ev, e.holds P v) : ¬ (y.den v < 0) := by
 unfold shEv at h
 split at h
 ·split at h
  ·cases h
  ·rename_i hn; exact hn
 ·simp only [Option.some.injEq] at h
  subst h
  have := he _ (List.mem_singleton.2 rfl)
  simp only [Ev.holds, Bx.den, cmpD, I.den] at this
  exact of_decide_eq_false this
def shA (op : BinOp) (k : IntKind) (x : I) (y : I) : Option (Sc × List Ev) :=
 match op, shEv y with
 | .shl, some e => some (.int k (I.shl k x y).fold, e)
 | .shr, some e => some (.int k (I.shr k x y).fold, e)
 | _, _ => none
theorem shA_run {op : BinOp} {k k' : IntKind} {x y : I} {z : Sc} {ev : List Ev} (h : shA op k x y = some (z, ev)) (he : ∀ e ∈ ev, e.holds P v) (t : TypeId) (w : World) :
  (binOp op t (.int k (x.den v)) (.int k' (y.den v))).run P w = .ok (z.den v) w := by
 unfold shA at h
 split at h
 ·rename_i e hev
  simp only [Option.some.injEq, Prod.mk.injEq] at h
  obtain ⟨rfl, rfl⟩ := h
  have hy := shEv_ok hev he
  simp [binOp_shl, Op.shift, hy, Sc.den, I.den_fold, I.den]
 ·rename_i e hev
  simp only [Option.some.injEq, Prod.mk.injEq] at h
  obtain ⟨rfl, rfl⟩ := h
  have hy := shEv_ok hev he
  simp [binOp_shr, Op.shift, hy, Sc.den, I.den_fold, I.den]
 ·cases h
def partL (P : Program) (t : TypeId) (l : List Sc) (off : Nat) : List Sc := (l.drop off).take (P.cellsOf t)
def isAggT (P : Program) (t : TypeId) : Option Bool :=
 match P.underlying t with
 | some (.struct _) | some (.array _ _) => some true
 | some _ => some false
 | none => none
theorem run_isAgg {t : TypeId} {b : Bool} (h : isAggT P t = some b) (w : World) : (isAgg t).run P w = .ok b w := by
 unfold isAggT at h
 unfold isAgg
 cases hu : P.underlying t with
 | none => simp [hu] at h
 | some d =>
  rw [Sem.run_bind, run_underlying hu]
  cases d <;> simp_all
def valL (P : Program) (v : Env) (t : TypeId) (l : List Sc) : Value :=
 match isAggT P t with
 | some true => .agg (l.map (Sc.den v)).toArray
 | _ => match l with | [x] => x.den v | _ => undef
theorem run_partL {t : TypeId} {l : List Sc} {off : Nat} {i : TypeInfo} {b : Bool} (hi : P.info? t = some i) (hb : isAggT P t = some b) (hl : off + P.cellsOf t ≤ l.length) (h1 : b = false → P.cellsOf t = 1) (w : World) :
  (part t (l.map (Sc.den v)).toArray off).run P w = .ok (valL P v t (partL P t l off)) w := by
 unfold part
 rw [Sem.run_bind, run_isAgg hb]
 cases b with
 | true =>
  simp only [Result.andThen_ok, if_true, Sem.run_bind, run_sizeOf w hi, Sem.run_pure]
  congr 1
  simp only [valL, hb, partL]
  congr 1
  apply Array.ext'
  simp [List.map_drop, List.map_take]
 | false =>
  have h1' := h1 rfl
  have hlt : off < l.length := by omega
  have hg : (l.map (Sc.den v)).toArray[off]? = some (l[off].den v) := by simp [hlt]
  have hp : partL P t l off = [l[off]] := by
   unfold partL
   rw [h1', List.drop_eq_getElem_cons hlt]
   rfl
  simp only [Result.andThen_ok, Bool.false_eq_true, if_false, hg, Sem.run_pure, valL, hb, hp]
def eqI (P : Program) (e : TypeId) (rec : List Sc → List Sc → Option Bx) (xs ys : List Sc) : List Nat → Option Bx
 | [] => some (.lit true)
 | i :: is =>
  if i * P.cellsOf e + P.cellsOf e ≤ xs.length ∧ i * P.cellsOf e + P.cellsOf e ≤ ys.length then
   match rec (partL P e xs (i * P.cellsOf e)) (partL P e ys (i * P.cellsOf e)), eqI P e rec xs ys is with
   | some a, some b => some (Bx.and a b).fold
   | _, _ => none
  else none
def eqF (P : Program) (rec : TypeId → List Sc → List Sc → Option Bx) (xs ys : List Sc) : List Field → Option Bx
 | [] => some (.lit true)
 | f :: fs =>
  if f.name ≠ "_" ∧ f.offset + P.cellsOf f.type ≤ xs.length ∧ f.offset + P.cellsOf f.type ≤ ys.length ∧ (isAggT P f.type = some true ∨ isAggT P f.type = some false ∧ P.cellsOf f.type = 1) ∧ (P.info? f.type).isSome then
   match rec f.type (partL P f.type xs f.offset) (partL P f.type ys f.offset), eqF P rec xs ys fs with
   | some a, some b => some (Bx.and a b).fold
   | _, _ => none
  else none
def eqT (P : Program) : Nat → TypeId → List Sc → List Sc → Option Bx
 | 0, _, _, _ => none
 | d + 1, t, xs, ys =>
  match P.underlying t with
  | some .bool => match xs, ys with | [.bool a], [.bool b] => some (Bx.beq a b).fold | _, _ => none
  | some (.int _) => match xs, ys with | [.int k a], [.int k' b] => if k = k' then some (Bx.cmp .eql a b).fold else none | _, _ => none
  | some (.array n e) =>
   if (isAggT P e = some true ∨ isAggT P e = some false ∧ P.cellsOf e = 1) ∧ (P.info? e).isSome then eqI P e (eqT P d e) xs ys (List.range n) else none
  | some (.struct _) => if P.stoodInHeld t then none else eqF P (eqT P d) xs ys (P.fieldsOf t).toList
  | _ => none
theorem run_eqI (d : Nat) {e : TypeId} (he : (isAggT P e = some true ∨ isAggT P e = some false ∧ P.cellsOf e = 1)) {i : TypeInfo} (hi : P.info? e = some i)
  (ih : ∀ xs ys b, eqT P d e xs ys = some b → ∀ w, (Op.equalIn d e (valL P v e xs) (valL P v e ys)).run P w = .ok (b.den v) w) (xs ys : List Sc) :
  ∀ (is : List Nat) (b : Bx), eqI P e (eqT P d e) xs ys is = some b → ∀ w, (Op.eqItems d e (P.cellsOf e) (xs.map (Sc.den v)).toArray (ys.map (Sc.den v)).toArray is).run P w = .ok (b.den v) w
 | [], b, h, w => by
  simp only [eqI, Option.some.injEq] at h
  subst h
  simp [Op.eqItems, Bx.den]
 | j :: is, b, h, w => by
  simp only [eqI] at h
  split at h
  ·rename_i hlen
   split at h
   ·rename_i x y hx hy
    simp only [Option.some.injEq] at h
    subst h
    obtain ⟨bb, hb, hb1⟩ : ∃ bb, isAggT P e = some bb ∧ (bb = false → P.cellsOf e = 1) := by
     rcases he with he | ⟨he, h1⟩
     ·exact ⟨true, he, by simp⟩
     ·exact ⟨false, he, fun _ => h1⟩
    simp only [Op.eqItems, Sem.run_bind, run_partL hi hb hlen.1 hb1, run_partL hi hb hlen.2 hb1, Result.andThen_ok, ih _ _ _ hx]
    rw [Bx.den_fold]
    simp only [Bx.den]
    cases hxv : x.den v
    ·simp
    ·simp [run_eqI d he hi ih xs ys is y hy]
   ·cases h
  ·cases h
theorem run_eqF (d : Nat) (ih : ∀ t xs ys b, eqT P d t xs ys = some b → ∀ w, (Op.equalIn d t (valL P v t xs) (valL P v t ys)).run P w = .ok (b.den v) w) (xs ys : List Sc) :
  ∀ (fs : List Field) (b : Bx), eqF P (eqT P d) xs ys fs = some b → ∀ w, (Op.eqFields d (xs.map (Sc.den v)).toArray (ys.map (Sc.den v)).toArray fs).run P w = .ok (b.den v) w
 | [], b, h, w => by
  simp only [eqF, Option.some.injEq] at h
  subst h
  simp [Op.eqFields, Bx.den]
 | f :: fs, b, h, w => by
  simp only [eqF] at h
  split at h
  ·rename_i hc
   obtain ⟨hn, hlx, hly, he, hinf⟩ := hc
   obtain ⟨i, hi⟩ := Option.isSome_iff_exists.1 hinf
   split at h
   ·rename_i x y hx hy
    simp only [Option.some.injEq] at h
    subst h
    obtain ⟨bb, hb, hb1⟩ : ∃ bb, isAggT P f.type = some bb ∧ (bb = false → P.cellsOf f.type = 1) := by
     rcases he with he | ⟨he, h1⟩
     ·exact ⟨true, he, by simp⟩
     ·exact ⟨false, he, fun _ => h1⟩
    simp only [Op.eqFields, hn, ne_eq, not_false_eq_true, if_true, Sem.run_bind, run_partL hi hb hlx hb1, run_partL hi hb hly hb1, Result.andThen_ok, ih _ _ _ _ hx]
    rw [Bx.den_fold]
    simp only [Bx.den]
    cases hxv : x.den v
    ·simp
    ·simp [run_eqF d ih xs ys fs y hy]
   ·cases h
  ·cases h
theorem run_eqT : ∀ (d : Nat) (t : TypeId) (xs ys : List Sc) (b : Bx), eqT P d t xs ys = some b → ∀ w, (Op.equalIn d t (valL P v t xs) (valL P v t ys)).run P w = .ok (b.den v) w
 | 0, _, _, _, _, h, _ => by simp [eqT] at h
 | d + 1, t, xs, ys, b, h, w => by
  simp only [eqT] at h
  split at h
  ·rename_i hu
   split at h
   ·simp only [Option.some.injEq] at h
    subst h
    simp only [valL, isAggT, hu, Sc.den]
    rw [run_equalIn_bool w d t _ _ hu, Bx.den_fold]
    rfl
   ·cases h
  ·rename_i kk hu
   split at h
   ·split at h
    ·rename_i hk
     simp only [Option.some.injEq] at h
     subst h
     subst hk
     simp only [valL, isAggT, hu, Sc.den]
     rw [run_equalIn_int w d t _ _ _ _ hu, Bx.den_fold]
     rfl
    ·cases h
   ·cases h
  ·rename_i n e hu
   split at h
   ·rename_i hc
    obtain ⟨he, hinf⟩ := hc
    obtain ⟨i, hi⟩ := Option.isSome_iff_exists.1 hinf
    simp only [valL, isAggT, hu]
    rw [run_equalIn_array w d _ _ hu hi]
    exact run_eqI d he hi (fun xs ys b hb w => run_eqT d e xs ys b hb w) xs ys _ b h w
   ·cases h
  ·rename_i fs hu
   split at h
   ·cases h
   ·rename_i hst
    have hfs : P.fieldsOf t = fs := by simp [Program.fieldsOf, hu]
    simp only [valL, isAggT, hu]
    rw [run_equalIn_struct w d t _ _ (by rw [hfs]; exact hu) (by simpa using hst)]
    exact run_eqF d (fun t xs ys b hb w => run_eqT d t xs ys b hb w) xs ys _ b h w
  ·cases h
end
end Go.Sx
namespace Go.Sx
open Go Go.RowKit
section
variable {P : Program} {v : Env} {s : Sig} {o : Oper}
def zeroA (P : Program) (t : TypeId) : Option A :=
 match P.info? t with
 | some i => match i.zero with | some z => aOf z | none => none
 | none => none
theorem zeroA_run {t : TypeId} {a : A} (h : zeroA P t = some a) : ∃ z, aOf z = some a ∧ ∀ w, (zeroValue t).run P w = .ok z w := by
 unfold zeroA at h
 cases hi : P.info? t with
 | none => simp [hi] at h
 | some i =>
  cases hz : i.zero with
  | none => simp [hi, hz] at h
  | some z => exact ⟨z, by simpa [hi, hz] using h, fun w => by simp [zeroValue, typeInfo, hi, hz]⟩
def newBlk (t : TypeId) (cells : List A) : Blk := ⟨t, cells, false, true, false, none⟩
def newRowB (t : TypeId) (k : IntKind) (l : I) : Blk := ⟨t, [], true, true, false, some (k, l)⟩
theorem does_newB {x0 : Nat} {b : Blk} {y : AV} {ev nv ora} (hd : ∀ d, o.dst = some d → d < s.n) (hx : s.mem x0 = none)
  (h : ∀ a w p, RelP v s a w p → ∃ cs : Array Value, (∀ q : Mp, p.le q → b.holds v q cs.toList) ∧ (∀ u ∈ cs.toList, u.oneCell' = true) ∧ ∀ q : Mp, p.le q → q x0 = some (w.heap.size, cs.size) →
   ∃ u, (execOp a.eval o).run P w = .ok (.value u) (w.alloc (.cells cs b.T)) ∧ y.Is v q u) :
  Does P v s o ⟨y, [(x0, b)], ev, nv, ora⟩ := by
 intro a w p hr K Q hK
 obtain ⟨cs, hl, h1, hu⟩ := h a w p hr
 obtain ⟨q, hq, hqx, hr'⟩ := hr.alloc (b := b) hx (fun q hq _ => hl q hq) h1
 obtain ⟨u, hrun, hy⟩ := hu q hq hqx
 unfold Oper.wp
 rw [hrun, Oper.upon_value]
 exact hK _ _ _ (hr'.put hd hy)
theorem does_new {x0 : Nat} {t : TypeId} {l : List A} {y : AV} {ev nv ora} (hd : ∀ d, o.dst = some d → d < s.n) (hx : s.mem x0 = none) (h1 : ∀ c ∈ l, c.oneCell = true)
  (h : ∀ a w p, RelP v s a w p → ∃ cs : Array Value, listIs v p l cs.toList ∧ ∀ q : Mp, p.le q → q x0 = some (w.heap.size, cs.size) →
   ∃ u, (execOp a.eval o).run P w = .ok (.value u) (w.alloc (.cells cs t)) ∧ y.Is v q u) :
  Does P v s o ⟨y, [(x0, newBlk t l)], ev, nv, ora⟩ := by
 refine does_newB hd hx fun a w p hr => ?_
 obtain ⟨cs, hl, hu⟩ := h a w p hr
 refine ⟨cs, fun q hq => ?_, hl.ones h1, hu⟩
 have hlen := hl.length
 refine ⟨fun _ => hlen, ?_⟩
 show listIs v q l (cs.toList.take l.length)
 rw [List.take_of_length_le (Nat.le_of_eq hlen)]
 exact hl.mono hq
theorem does_alloc {x0 : Nat} {t : TypeId} {z : A} (hd : ∀ d, o.dst = some d → d < s.n) (ho : o.op = .alloc t) (hz : zeroA P t = some z) (hx : s.mem x0 = none) (nv ora) :
  Does P v s o ⟨.one (.ptr x0 0), [(x0, newBlk t z.cells)], [], nv, ora⟩ := by
 obtain ⟨zv, hza, hrun⟩ := zeroA_run hz
 refine does_new hd hx (cells_one z) fun a w p h => ⟨zv.cells, (aOf_is (p := p) hza).cells, fun q hq hqx => ⟨.pointer (some ⟨w.heap.size, 0, none⟩), ?_, w.heap.size, _, hqx, rfl⟩⟩
 unfold execOp
 rw [ho]
 simp [Instr.alloc, hrun, newVar, newRow]
theorem does_box {x0 : Nat} {t : TypeId} {x : Operand} {y : A} (hd : ∀ d, o.dst = some d → d < s.n) (ho : o.op = .box t x) (hy : s.ev x = .one y) (hx : s.mem x0 = none) (nv ora) :
  Does P v s o ⟨.one (.ptr x0 0), [(x0, newBlk t y.cells)], [], nv, ora⟩ := by
 refine does_new hd hx (cells_one y) fun a w p h => ?_
 have := h.ev x
 rw [hy] at this
 refine ⟨(a.eval x).cells, A.Is.cells this, fun q hq hqx => ⟨.pointer (some ⟨w.heap.size, 0, none⟩), ?_, w.heap.size, _, hqx, rfl⟩⟩
 unfold execOp
 rw [ho]
 simp [Instr.box, newVar, newRow]
theorem cell_of {w : World} {p : Mp} {b : Blk} {r n off : Nat} {y : A} (h : b.Is v p v.w.heap.size w r n) (hd : b.dead = false) (hw : b.row = none) (hc : b.cells[off]? = some y) :
  ∃ u, w.cell? ⟨r, off, none⟩ = some u ∧ y.Is v p u := by
 obtain ⟨cs, fz, h1, h2, h3, h5⟩ := h hd
 unfold Blk.holds at h3
 rw [hw] at h3
 obtain ⟨h3, h4⟩ := h3
 obtain ⟨u, hu, hy⟩ := h4.get off y hc
 refine ⟨u, ?_, hy⟩
 have hlt : off < b.cells.length := (List.getElem?_eq_some_iff.1 hc).1
 rw [List.getElem?_take, if_pos hlt] at hu
 simp only [World.cell?, h1]
 simpa using hu
theorem range_of {w : World} {p : Mp} {b : Blk} {r n off len : Nat} {ss : List Sc} (h : b.Is v p v.w.heap.size w r n) (hd : b.dead = false) (hw : b.row = none) (hc : scs ((b.cells.drop off).take len) = some ss) :
  w.rangeAt r off (ss.map (Sc.den v)) := by
 obtain ⟨cs, fz, h1, h2, h3, h5⟩ := h hd
 unfold Blk.holds at h3
 rw [hw] at h3
 obtain ⟨h3, h4⟩ := h3
 have hl := scs_is hc ((h4.drop off).take len)
 intro j u hj
 rw [← hl] at hj
 simp only [World.cell?, h1]
 rw [List.getElem?_take] at hj
 split at hj
 ·rw [List.getElem?_drop, List.getElem?_take] at hj
  split at hj
  ·simpa using hj
  ·cases hj
 ·cases hj
theorem does_load_one {t : TypeId} {x : Operand} {m off : Nat} {b : Blk} {y : A} (hd : ∀ d, o.dst = some d → d < s.n) (ho : o.op = .load t x) (hx : s.ev x = .one (.ptr m off)) (hm : s.mem m = some b) (hb : b.dead = false) (hw : b.row = none)
  (ha : isAggT P t = some false) (hc : b.cells[off]? = some y) (nv ora) : Does P v s o ⟨.one y, [], [], nv, ora⟩ := by
 refine does_value hd fun a w p h => ?_
 have := h.ev x
 rw [hx] at this
 obtain ⟨r, n, hp, e⟩ := this
 obtain ⟨hlt, hB⟩ := h.at hm hp
 obtain ⟨u, hu, hy⟩ := cell_of hB hb hw hc
 refine ⟨u, ?_, hy⟩
 unfold execOp
 rw [ho]
 simp [e, Instr.loadAt, Instr.sureAddr, loadVar, run_isAgg ha, hu]
theorem does_load_agg {t : TypeId} {x : Operand} {m off : Nat} {b : Blk} {ss : List Sc} (hd : ∀ d, o.dst = some d → d < s.n) (ho : o.op = .load t x) (hx : s.ev x = .one (.ptr m off)) (hm : s.mem m = some b) (hb : b.dead = false) (hw : b.row = none)
  (ha : isAggT P t = some true) (hi : (P.info? t).map (·.size) = some ss.length) (hc : scs ((b.cells.drop off).take ss.length) = some ss) (nv ora) : Does P v s o ⟨.one (.agg ss), [], [], nv, ora⟩ := by
 refine does_value hd fun a w p h => ?_
 have := h.ev x
 rw [hx] at this
 obtain ⟨r, n, hp, e⟩ := this
 obtain ⟨hlt, hB⟩ := h.at hm hp
 have hr := range_of hB hb hw hc
 have hd' : ∃ d : TypeDesc, P.underlying t = some d ∧ d.isRow = true := by
  unfold isAggT at ha
  cases hu : P.underlying t with
  | none => simp [hu] at ha
  | some d => refine ⟨d, rfl, ?_⟩; cases d <;> simp_all
 obtain ⟨d, hu, hd2⟩ := hd'
 refine ⟨.agg (ss.map (Sc.den v)).toArray, ?_, rfl⟩
 unfold execOp
 rw [ho]
 simp [e, Instr.loadAt, Instr.sureAddr, run_loadVar_mid w r off t (ss.map (Sc.den v)) d hr hu hd2 (by simpa using hi)]
theorem holds_cells {p : Mp} {b : Blk} {l : List A} {cs : List Value} (hw : b.row = none) (h1 : b.more = false → cs.length = l.length) (h2 : listIs v p l (cs.take l.length)) : ({ b with cells := l } : Blk).holds v p cs := by
 unfold Blk.holds
 simp only [hw]
 exact ⟨h1, h2⟩
def putCells (l : List A) (off : Nat) (cs : List A) : List A := l.take off ++ cs ++ l.drop (off + cs.length)
theorem does_store {t : TypeId} {x y : Operand} {m off : Nat} {b : Blk} {z : A} (hd : ∀ d, o.dst = some d → d < s.n) (ho : o.op = .store t x y) (hx : s.ev x = .one (.ptr m off)) (hy : s.ev y = .one z) (hm : s.mem m = some b) (hb : b.dead = false) (hw : b.row = none) (hown : b.own = true)
  (hi : (P.info? t).map (·.size) = some z.cells.length) (hlen : off + z.cells.length ≤ b.cells.length) (nv ora) : Does P v s o ⟨.undef, [(m, { b with cells := putCells b.cells off z.cells })], [], nv, ora⟩ := by
 intro a w p h K Q hK
 have hxx := h.ev x
 rw [hx] at hxx
 obtain ⟨r, n, hp, e⟩ := hxx
 obtain ⟨hlt, hB⟩ := h.at hm hp
 obtain ⟨cs, fz, h1, h2, h3, h5⟩ := hB hb
 unfold Blk.holds at h3
 rw [hw] at h3
 obtain ⟨h3, h4⟩ := h3
 obtain ⟨h6, rfl, h7⟩ := h5 hown
 have hyy := h.ev y
 rw [hy] at hyy
 have hc := A.Is.cells hyy
 have hcl := hc.length
 have hones := hc.ones (cells_one z)
 have hbl := h4.length
 have hcs : b.cells.length ≤ cs.size := by
  rw [List.length_take] at hbl
  simp only [Array.length_toList] at hbl
  omega
 have hst := run_storeCells_at P r off b.T (a.eval y).cells.toList 0 cs w h1 (by omega) hones
 simp only [Nat.add_zero] at hst
 have hsz : ((a.eval y).cells.size ≠ ((P.info? t).map (·.size)).getD 0) = False := by
  rw [hi]
  simp only [Option.getD_some, ne_eq, eq_iff_iff, iff_false, Decidable.not_not]
  simpa using hcl
 cases hq : P.info? t with
 | none => simp [hq] at hi
 | some i =>
  simp only [hq, Option.map_some, Option.some.injEq] at hi
  have hsz' : (a.eval y).cells.size = i.size := by rw [hi]; simpa using hcl
  unfold Oper.wp
  have hrun : (execOp a.eval o).run P w = .ok .skip (w.setRow r (cs.toList.take off ++ (a.eval y).cells.toList ++ cs.toList.drop (off + (a.eval y).cells.toList.length)).toArray) := by
   unfold execOp
   rw [ho]
   simp [e, Instr.storeAt, Instr.sureAddr, storeVar, sizeOf, typeInfo, hq, hsz', hst]
  rw [hrun, Oper.upon_skip]
  have hrel := h.store (x := m) (b := b) (b' := { b with cells := putCells b.cells off z.cells }) (cs' := (cs.toList.take off ++ (a.eval y).cells.toList ++ cs.toList.drop (off + (a.eval y).cells.toList.length)).toArray)
   hm hb h6 hp h1 rfl (fun _ => rfl) ?_ (holds_cells hw ?_ ?_) ?_
  ·exact hK _ _ _ (hrel.put hd trivial)
  ·rw [← h2]; simp; omega
  ·intro hmo; have := h3 hmo; simp only [Array.length_toList] at this; simp [putCells]; omega
  ·have hpl : (putCells b.cells off z.cells).length = b.cells.length := by simp [putCells]; omega
   rw [hpl]
   have e1 := h4.take off
   have e2 := h4.drop (off + z.cells.length)
   have := (e1.append hc).append e2
   unfold putCells
   have heq : (cs.toList.take off ++ (a.eval y).cells.toList ++ cs.toList.drop (off + (a.eval y).cells.toList.length)).toArray.toList.take b.cells.length =
     (cs.toList.take b.cells.length).take off ++ (a.eval y).cells.toList ++ (cs.toList.take b.cells.length).drop (off + z.cells.length) := by
    rw [hcl]
    apply List.ext_getElem?
    intro j
    simp only [List.getElem?_take, List.getElem?_append, List.length_append, List.length_take, List.getElem?_drop, Array.length_toList]
    have hcl' : (a.eval y).cells.size = z.cells.length := by simpa using hcl
    have m1 : min off (min b.cells.length cs.size) = off := by omega
    have m2 : min off cs.size = off := by omega
    simp only [hcl', m1, m2]
    by_cases c1 : j < b.cells.length
    ·rw [if_pos c1]
     by_cases c2 : j < off + z.cells.length
     ·rw [if_pos c2, if_pos c2]
      by_cases c3 : j < off
      ·rw [if_pos c3, if_pos c3, if_pos c3, if_pos c3, if_pos c1]
      ·rw [if_neg c3, if_neg c3]
     ·rw [if_neg c2, if_neg c2, if_pos (by omega)]
    ·rw [if_neg c1, if_neg (by omega), if_neg (by omega)]
   rw [heq]
   exact this
  ·intro u hu
   simp only [List.toList_toArray, List.mem_append] at hu
   rcases hu with (hu | hu) | hu
   ·exact h7 u (List.mem_of_mem_take hu)
   ·exact hones u hu
   ·exact h7 u (List.mem_of_mem_drop hu)
theorem does_indexAddr_array {t e : TypeId} {x i : Operand} {m off n : Nat} {k : IntKind} {j : Int} (hd : ∀ d, o.dst = some d → d < s.n) (ho : o.op = .indexAddr t x i) (hx : s.ev x = .one (.ptr m off)) (hi : s.ev i = .one (.sc (.int k (.lit j))))
  (hu : P.underlying t = some (.array n e)) (hs : (P.info? e).isSome = true) (h0 : 0 ≤ j) (h1 : j < n) (nv ora) : Does P v s o ⟨.one (.ptr m (off + j.toNat * P.cellsOf e)), [], [], nv, ora⟩ := by
 refine does_value hd fun a w p h => ?_
 have hxx := h.ev x
 rw [hx] at hxx
 obtain ⟨r, n', hp, ex⟩ := hxx
 have hii := h.ev i
 rw [hi] at hii
 have ei : a.eval i = .int k j := hii
 obtain ⟨ti, hti⟩ := Option.isSome_iff_exists.1 hs
 refine ⟨_, ?_, r, n', hp, rfl⟩
 unfold execOp
 rw [ho]
 simp [ex, ei, Instr.indexAt, asIntOf, run_underlying hu, Instr.sureAddr, h0, h1, run_sizeOf w hti, Addr.add_mid]
theorem does_indexAddr_slice {t e : TypeId} {x i : Operand} {m off len : Nat} {cap : Option Nat} {k : IntKind} {j : Int} (hd : ∀ d, o.dst = some d → d < s.n) (ho : o.op = .indexAddr t x i) (hx : s.ev x = .one (.slc m off len cap)) (hi : s.ev i = .one (.sc (.int k (.lit j))))
  (hu : P.underlying t = some (.slice e)) (hs : (P.info? e).isSome = true) (h0 : 0 ≤ j) (h1 : j < len) (nv ora) : Does P v s o ⟨.one (.ptr m (off + j.toNat * P.cellsOf e)), [], [], nv, ora⟩ := by
 refine does_value hd fun a w p h => ?_
 have hxx := h.ev x
 rw [hx] at hxx
 obtain ⟨r, n', hp, hn, ex, hcap⟩ := hxx
 have hii := h.ev i
 rw [hi] at hii
 have ei : a.eval i = .int k j := hii
 obtain ⟨ti, hti⟩ := Option.isSome_iff_exists.1 hs
 refine ⟨_, ?_, r, n', hp, rfl⟩
 unfold execOp
 rw [ho]
 simp [ex, ei, Instr.indexAt, asIntOf, run_underlying hu, h0, h1, run_sizeOf w hti, Addr.add_mid]
theorem does_index {t e : TypeId} {x i : Operand} {l : List Sc} {n : Nat} {k : IntKind} {j : Int} {y : Sc} (hd : ∀ d, o.dst = some d → d < s.n) (ho : o.op = .index t x i) (hx : s.ev x = .one (.agg l)) (hi : s.ev i = .one (.sc (.int k (.lit j))))
  (hu : P.underlying t = some (.array n e)) (hs : (P.info? e).isSome = true) (ha : isAggT P e = some false) (h0 : 0 ≤ j) (h1 : j < n) (hy : l[j.toNat * P.cellsOf e]? = some y) (nv ora) : Does P v s o ⟨.one (.sc y), [], [], nv, ora⟩ := by
 refine does_value hd fun a w p h => ⟨y.den v, ?_, rfl⟩
 have hxx := h.ev x
 rw [hx] at hxx
 have ex : a.eval x = .agg (l.map (Sc.den v)).toArray := hxx
 have hii := h.ev i
 rw [hi] at hii
 have ei : a.eval i = .int k j := hii
 obtain ⟨ti, hti⟩ := Option.isSome_iff_exists.1 hs
 unfold execOp
 rw [ho]
 simp [ex, ei, Instr.index, asIntOf, run_underlying hu, h0, h1, run_sizeOf w hti, part, run_isAgg ha, hy]
theorem does_fieldAddr {t : TypeId} {x : Operand} {m off i : Nat} {fs : Array Field} {f : Field} (hd : ∀ d, o.dst = some d → d < s.n) (ho : o.op = .fieldAddr t x i) (hx : s.ev x = .one (.ptr m off))
  (hu : P.underlying t = some (.struct fs)) (hf : fs[i]? = some f) (hs : (P.info? f.type).isSome = true) (h0 : P.cellsOf f.type ≠ 0) (nv ora) : Does P v s o ⟨.one (.ptr m (off + f.offset)), [], [], nv, ora⟩ := by
 refine does_value hd fun a w p h => ?_
 have hxx := h.ev x
 rw [hx] at hxx
 obtain ⟨r, n', hp, ex⟩ := hxx
 obtain ⟨ti, hti⟩ := Option.isSome_iff_exists.1 hs
 refine ⟨_, ?_, r, n', hp, rfl⟩
 unfold execOp
 rw [ho]
 simp [ex, Instr.fieldAt, run_underlying hu, hf, Instr.sureAddr, fieldPlace, run_sizeOf w hti, h0, Addr.add_mid]
def A.ofL (P : Program) (t : TypeId) (l : List Sc) : Option A :=
 match isAggT P t with
 | some true => some (.agg l)
 | some false => match l with | [x] => some (.sc x) | _ => none
 | none => none
theorem A.ofL_is {t : TypeId} {l : List Sc} {a : A} (h : A.ofL P t l = some a) (p : Mp) : a.Is v p (valL P v t l) := by
 unfold A.ofL at h
 split at h
 ·rename_i e; simp only [Option.some.injEq] at h; subst h; simp only [valL, e]; rfl
 ·rename_i e
  split at h
  ·simp only [Option.some.injEq] at h; subst h; simp only [valL, e]; rfl
  ·cases h
 ·cases h
theorem does_field {t : TypeId} {x : Operand} {i : Nat} {l : List Sc} {fs : Array Field} {f : Field} {y : A} (hd : ∀ d, o.dst = some d → d < s.n) (ho : o.op = .field t x i) (hx : s.ev x = .one (.agg l))
  (hu : P.underlying t = some (.struct fs)) (hf : fs[i]? = some f) (hs : (P.info? f.type).isSome = true) (hl : f.offset + P.cellsOf f.type ≤ l.length) (h1 : isAggT P f.type = some false → P.cellsOf f.type = 1) (hy : A.ofL P f.type (partL P f.type l f.offset) = some y) (nv ora) :
  Does P v s o ⟨.one y, [], [], nv, ora⟩ := by
 refine does_value hd fun a w p h => ⟨_, ?_, A.ofL_is hy p⟩
 have hxx := h.ev x
 rw [hx] at hxx
 have ex : a.eval x = .agg (l.map (Sc.den v)).toArray := hxx
 obtain ⟨ti, hti⟩ := Option.isSome_iff_exists.1 hs
 obtain ⟨bb, hbb⟩ : ∃ bb, isAggT P f.type = some bb := by
  unfold A.ofL at hy
  cases hq : isAggT P f.type with
  | none => simp [hq] at hy
  | some bb => exact ⟨bb, rfl⟩
 have hr := run_partL (v := v) hti hbb hl (fun e => h1 (by rw [hbb, e])) w
 unfold execOp
 rw [ho]
 simp only [ex, Instr.field, Sem.run_bind, run_underlying hu, Result.andThen_ok, hf, asAgg, Sem.run_pure, hr]
def fillA (place : Nat → Option (Nat × Nat)) (cells : List A) : List (Nat × A) → Option (List A)
 | [] => some cells
 | (i, a) :: rest =>
  match place i with
  | none => none
  | some (off, size) =>
   if a.cells.length ≠ size ∨ off + a.cells.length > cells.length then none
   else fillA place (a.cells.zipIdx.foldl (fun cs cj => cs.set (off + cj.2) cj.1) cells) rest
theorem zip_is {p : Mp} (off : Nat) : ∀ {as : List A} {us : List Value}, listIs v p as us → ∀ (k : Nat) {cells : List A} {l : Array Value}, listIs v p cells l.toList →
  listIs v p ((as.zipIdx k).foldl (fun cs cj => cs.set (off + cj.2) cj.1) cells) ((us.zipIdx k).foldl (fun cs cj => cs.setIfInBounds (off + cj.2) cj.1) l).toList
 | [], us, h, k, cells, l, hc => by rw [show us = [] from h]; exact hc
 | a :: as, us, ⟨u, us', e, h1, h2⟩, k, cells, l, hc => by
  subst e
  simp only [List.zipIdx_cons, List.foldl_cons]
  refine zip_is off h2 (k + 1) ?_
  have := hc.set (off + k) a u h1
  simpa using this
def partsIs (v : Env) (p : Mp) : List (Nat × A) → List (Nat × Value) → Prop
 | [], l => l = []
 | (i, a) :: as, l => ∃ u us, l = (i, u) :: us ∧ a.Is v p u ∧ partsIs v p as us
theorem fill_is {p : Mp} (place : Nat → Option (Nat × Nat)) : ∀ (as : List (Nat × A)) (us : List (Nat × Value)), partsIs v p as us → ∀ (cells : List A) (l : Array Value), listIs v p cells l.toList → ∀ r, fillA place cells as = some r →
  ∃ l', Instr.fill place l us = some l' ∧ listIs v p r l'.toList
 | [], us, h, cells, l, hc, r, hr => by
  rw [show us = [] from h]
  simp only [fillA, Option.some.injEq] at hr
  subst hr
  exact ⟨l, rfl, hc⟩
 | (i, a) :: as, us, ⟨u, us', e, h1, h2⟩, cells, l, hc, r, hr => by
  subst e
  simp only [fillA] at hr
  unfold Instr.fill
  cases hp : place i with
  | none => simp [hp] at hr
  | some os =>
   obtain ⟨off, size⟩ := os
   simp only [hp] at hr
   split at hr
   ·cases hr
   ·rename_i hn
    have hcl := (A.Is.cells h1).length
    have hll := hc.length
    simp only [Array.length_toList] at hcl hll
    have hcond : ¬ ((decide (u.cells.size ≠ size) || decide (off + u.cells.size > l.size)) = true) := by
     simp only [Bool.or_eq_true, decide_eq_true_eq]
     omega
    have hz := zip_is off (A.Is.cells h1) 0 hc
    obtain ⟨l', hl', hr'⟩ := fill_is place as us' h2 _ ((u.cells.toList.zipIdx 0).foldl (fun cs cj => cs.setIfInBounds (off + cj.2) cj.1) l) hz r hr
    refine ⟨l', ?_, hr'⟩
    simp only []
    rw [if_neg hcond, ← hl']
    congr 1
    rw [← Array.foldl_toList, Array.toList_zipIdx]
def partsA (s : Sig) : List (Nat × Operand) → Option (List (Nat × A))
 | [] => some []
 | (i, x) :: l => match s.ev x, partsA s l with | .one a, some r => some ((i, a) :: r) | _, _ => none
theorem partsA_is {a : Act} {w : World} {p : Mp} (h : RelP v s a w p) : ∀ (l : List (Nat × Operand)) (r : List (Nat × A)), partsA s l = some r → partsIs v p r (l.map fun ix => (ix.1, a.eval ix.2))
 | [], r, hr => by simp only [partsA, Option.some.injEq] at hr; subst hr; rfl
 | (i, x) :: l, r, hr => by
  simp only [partsA] at hr
  split at hr
  ·rename_i y r' hy hr'
   simp only [Option.some.injEq] at hr
   subst hr
   have := h.ev x
   rw [hy] at this
   exact ⟨_, _, rfl, this, partsA_is h l r' hr'⟩
  ·cases hr
def sizesOf (P : Program) : List Field → Option (List (Nat × Nat))
 | [] => some []
 | f :: l => match P.info? f.type, sizesOf P l with | some i, some r => some ((f.offset, i.size) :: r) | _, _ => none
theorem sizesOf_run : ∀ (l : List Field) (r : List (Nat × Nat)), sizesOf P l = some r → ∀ w, (l.mapM fun f => (do pure (f.offset, ← sizeOf f.type) : Sem (Nat × Nat))).run P w = .ok r w
 | [], r, h, w => by simp only [sizesOf, Option.some.injEq] at h; subst h; rfl
 | f :: l, r, h, w => by
  simp only [sizesOf] at h
  split at h
  ·rename_i i r' hi hr'
   simp only [Option.some.injEq] at h
   subst h
   have hs : (sizeOf f.type).run P w = .ok i.size w := by simp [sizeOf, typeInfo, hi]
   rw [List.mapM_cons]
   simp only [Sem.run_bind, hs, Result.andThen_ok, Sem.run_pure, sizesOf_run l r' hr']
  ·cases h
def placeOf (P : Program) (t : TypeId) : Option (Nat → Option (Nat × Nat)) :=
 match P.underlying t with
 | some (.struct fs) => match sizesOf P fs.toList with | some l => some (fun i => l[i]?) | none => none
 | some (.array _ e) => if (P.info? e).isSome then some (fun i => some (i * P.cellsOf e, P.cellsOf e)) else none
 | _ => none
theorem does_build {t : TypeId} {parts : Array (Nat × Operand)} {pl : Nat → Option (Nat × Nat)} {z : A} {ps : List (Nat × A)} {r : List A} {ss : List Sc} (hd : ∀ d, o.dst = some d → d < s.n) (ho : o.op = .build t parts)
  (hz : zeroA P t = some z) (hpl : placeOf P t = some pl) (hps : partsA s parts.toList = some ps) (hr : fillA pl z.cells ps = some r) (hss : scs r = some ss) (nv ora) : Does P v s o ⟨.one (.agg ss), [], [], nv, ora⟩ := by
 obtain ⟨zv, hza, hrun⟩ := zeroA_run hz
 refine does_value hd fun a w p h => ?_
 have hpi := partsA_is h _ _ hps
 obtain ⟨l', hl', hli⟩ := fill_is pl ps _ hpi z.cells zv.cells (aOf_is (p := p) hza).cells r hr
 have he := scs_is hss hli
 refine ⟨.agg (ss.map (Sc.den v)).toArray, ?_, rfl⟩
 have hagg : l' = (ss.map (Sc.den v)).toArray := by apply Array.ext'; simpa using he
 rw [← hagg]
 unfold execOp
 rw [ho]
 have hmap : (parts.map fun (i, x) => (i, a.eval x)).toList = parts.toList.map fun ix => (ix.1, a.eval ix.2) := by simp
 unfold placeOf at hpl
 split at hpl
 ·rename_i fs hu
  split at hpl
  ·rename_i sz hsz
   simp only [Option.some.injEq] at hpl
   subst hpl
   have hm := sizesOf_run fs.toList sz hsz w
   have hm2 : (fs.mapM fun f => (do pure (f.offset, ← sizeOf f.type) : Sem (Nat × Nat))).run P w = .ok sz.toArray w := by
    rw [Array.mapM_eq_mapM_toList]
    simp only [Sem.run_map, hm, Result.andThen_ok]
   have hl2 : Instr.fill (fun x => sz.toArray[x]?) zv.cells (parts.toList.map fun ix => (ix.1, a.eval ix.2)) = some l' := by simpa using hl'
   simp only [Instr.build, Sem.run_bind, hrun, Result.andThen_ok, run_underlying hu, hm2, hmap, hl2, Sem.run_pure]
  ·cases hpl
 ·rename_i n e hu
  split at hpl
  ·rename_i hs
   simp only [Option.some.injEq] at hpl
   subst hpl
   obtain ⟨ti, hti⟩ := Option.isSome_iff_exists.1 hs
   simp only [Instr.build, Sem.run_bind, hrun, Result.andThen_ok, run_underlying hu, run_sizeOf w hti, hmap, hl', Sem.run_pure]
  ·cases hpl
 ·cases hpl
end
end Go.Sx
namespace Go.Sx
open Go Go.RowKit
section
variable {P : Program} {v : Env} {s : Sig} {o : Oper}
def nnI : I → Bool
 | .lit n => decide (0 ≤ n)
 | .len _ => true
 | .plen _ => true
 | .sum x y => nnI x && nnI y
 | _ => false
theorem nnI_ok : ∀ {x : I}, nnI x = true → 0 ≤ x.den v := by
 intro x
 induction x with
 | lit n => intro h; simp only [nnI] at h; simp only [I.den]; exact of_decide_eq_true h
 | len l => intro _; simp only [I.den]; omega
 | plen n => intro _; simp only [I.den]; omega
 | sum x y ih1 ih2 =>
  intro h
  simp only [nnI, Bool.and_eq_true] at h
  have h1 := ih1 h.1
  have h2 := ih2 h.2
  simp only [I.den]; omega
 | _ => intro h; simp [nnI] at h
def leEv (x y : I) : Option (List Ev) :=
 if x = y then some [] else
 match x, y with
 | .lit a, .lit b => if a ≤ b then some [] else none
 | .lit 0, y => if nnI y then some [] else some [Ev.dec (.cmp .leq (.lit 0) y) true]
 | x, y => some [Ev.dec (.cmp .leq x y) true]
def ltEv (x y : I) : Option (List Ev) :=
 match x, y with
 | .lit a, .lit b => if a < b then some [] else none
 | x, y => some [Ev.dec (.cmp .lss x y) true]
theorem leEv_ok {x y : I} {ev : List Ev} (h : leEv x y = some ev) (he : ∀ e ∈ ev, e.holds P v) : x.den v ≤ y.den v := by
 unfold leEv at h
 split at h
 ·rename_i e; subst e; exact Int.le_refl _
 ·split at h
  ·split at h
   ·rename_i hab; simpa [I.den] using hab
   ·cases h
  ·split at h
   ·rename_i hn; have := nnI_ok (v := v) hn; simpa [I.den] using this
   ·simp only [Option.some.injEq] at h
    subst h
    have := he _ (List.mem_singleton.2 rfl)
    simp only [Ev.holds, Bx.den, cmpD] at this
    exact of_decide_eq_true this
  ·simp only [Option.some.injEq] at h
   subst h
   have := he _ (List.mem_singleton.2 rfl)
   simp only [Ev.holds, Bx.den, cmpD] at this
   exact of_decide_eq_true this
theorem ltEv_ok {x y : I} {ev : List Ev} (h : ltEv x y = some ev) (he : ∀ e ∈ ev, e.holds P v) : x.den v < y.den v := by
 unfold ltEv at h
 split at h
 ·split at h
  ·rename_i hab; simpa [I.den] using hab
  ·cases h
 ·simp only [Option.some.injEq] at h
  subst h
  have := he _ (List.mem_singleton.2 rfl)
  simp only [Ev.holds, Bx.den, cmpD] at this
  exact of_decide_eq_true this
def placeA : A → Option (Nat × I)
 | .ptr m off => some (m, .lit off)
 | .bptr m i => some (m, i)
 | _ => none
theorem placeA_is {a : A} {m : Nat} {i : I} (h : placeA a = some (m, i)) {p : Mp} {u : Value} (k : a.Is v p u) : ∃ r N o, p m = some (r, N) ∧ i.den v = ((o : Nat) : Int) ∧ u = .pointer (some ⟨r, o, none⟩) := by
 cases a <;> simp only [placeA, Option.some.injEq, Prod.mk.injEq, reduceCtorEq] at h
 ·obtain ⟨rfl, rfl⟩ := h
  obtain ⟨r, n, h1, h2⟩ := k
  exact ⟨r, n, _, h1, by simp only [I.den], h2⟩
 ·obtain ⟨rfl, rfl⟩ := h
  exact k
theorem nums_cell {w : World} {p : Mp} {b : Blk} {r n : Nat} (h : b.Is v p v.w.heap.size w r n) (hd : b.dead = false) {k : IntKind} {l : I} (hi : b.nums = some (k, l)) :
  ∃ cs fz, w.heap[r]? = some (.cells cs b.T fz) ∧ cs.size = n ∧ cs.toList.take (l.ldn v).length = (l.ldn v).map (Value.int k) ∧ (l.ldn v).length ≤ n ∧
   (∀ j x, (l.ldn v)[j]? = some x → w.cell? ⟨r, j, none⟩ = some (.int k x)) ∧ (b.own = true → v.w.heap.size ≤ r ∧ fz = (0, 0) ∧ ∀ u ∈ cs.toList, u.oneCell' = true) := by
 obtain ⟨cs, fz, h1, h2, h3, h4⟩ := h hd
 have h5 := h3.nums hi
 have hle : (l.ldn v).length ≤ cs.size := by
  have := congrArg List.length h5
  simp only [List.length_take, List.length_map, Array.length_toList] at this
  omega
 refine ⟨cs, fz, h1, h2, h5, by omega, fun j x hj => ?_, h4⟩
 have hlt : j < (l.ldn v).length := (List.getElem?_eq_some_iff.1 hj).1
 have e : (cs.toList.take (l.ldn v).length)[j]? = some (Value.int k x) := by rw [h5, List.getElem?_map, hj]; rfl
 rw [List.getElem?_take, if_pos hlt] at e
 simp only [World.cell?, h1]
 simpa using e
theorem getD_some {l : List Int} {j : Nat} (h : j < l.length) : l[j]? = some (l.getD j 0) := by
 rw [List.getD_eq_getElem?_getD, List.getElem?_eq_getElem h]; rfl
theorem does_load_num {t : TypeId} {x : Operand} {a : A} {m : Nat} {i l : I} {k : IntKind} {b : Blk} {ev : List Ev} (hd : ∀ d, o.dst = some d → d < s.n) (ho : o.op = .load t x) (hx : s.ev x = .one a) (hp : placeA a = some (m, i)) (hm : s.mem m = some b) (hb : b.dead = false)
  (ha : isAggT P t = some false) (hn : b.nums = some (k, l)) (hev : ltEv i (mkLen l) = some ev) (he : ∀ e ∈ ev, e.holds P v) (nv ora) : Does P v s o ⟨.one (.sc (.int k (mkGet l i))), [], ev, nv, ora⟩ := by
 refine does_value hd fun ac w p h => ?_
 have := h.ev x
 rw [hx] at this
 obtain ⟨r, N, q, h1, h2, e⟩ := placeA_is hp this
 obtain ⟨_, hB⟩ := h.at hm h1
 obtain ⟨cs, fz, _, _, _, _, hc, _⟩ := nums_cell hB hb hn
 have hlt := ltEv_ok hev he
 rw [mkLen_den, h2] at hlt
 have hj : q < (l.ldn v).length := by omega
 have hcell := hc q _ (getD_some hj)
 refine ⟨.int k ((l.ldn v).getD q 0), ?_, ?_⟩
 ·unfold execOp
  rw [ho]
  simp [e, Instr.loadAt, Instr.sureAddr, loadVar, run_isAgg ha, hcell]
 ·show _ = Sc.den v _
  simp only [Sc.den, mkGet_den, h2, Int.toNat_natCast]
def arrA (k : IntKind) (l i : I) (n : Nat) : List Sc := (List.range n).map fun (j : Nat) => .int k (mkGet l (mkSum i (.lit (j : Int))))
theorem does_load_arr {t : TypeId} {x : Operand} {a : A} {m n : Nat} {i l : I} {k : IntKind} {b : Blk} {ev : List Ev} (hd : ∀ d, o.dst = some d → d < s.n) (ho : o.op = .load t x) (hx : s.ev x = .one a) (hp : placeA a = some (m, i)) (hm : s.mem m = some b) (hb : b.dead = false)
  (ha : isAggT P t = some true) (hi : (P.info? t).map (·.size) = some n) (hn : b.nums = some (k, l)) (hev : leEv (mkSum i (.lit n)) (mkLen l) = some ev) (he : ∀ e ∈ ev, e.holds P v) (nv ora) : Does P v s o ⟨.one (.agg (arrA k l i n)), [], ev, nv, ora⟩ := by
 refine does_value hd fun ac w p h => ?_
 have := h.ev x
 rw [hx] at this
 obtain ⟨r, N, q, h1, h2, e⟩ := placeA_is hp this
 obtain ⟨_, hB⟩ := h.at hm h1
 obtain ⟨cs, fz, _, _, _, _, hc, _⟩ := nums_cell hB hb hn
 have hle := leEv_ok hev he
 rw [mkLen_den, mkSum_den, h2] at hle
 simp only [I.den] at hle
 have hr : w.rangeAt r q ((arrA k l i n).map (Sc.den v)) := by
  intro j u hj
  unfold arrA at hj
  simp only [List.getElem?_map, List.map_map] at hj
  rcases Nat.lt_or_ge j n with hjn | hjn
  ·simp only [List.getElem?_range hjn, Option.map_some, Option.some.injEq, Function.comp] at hj
   subst hj
   have hq : q + j < (l.ldn v).length := by omega
   have := hc (q + j) _ (getD_some hq)
   rw [this]
   simp only [Sc.den, mkGet_den, mkSum_den, h2, I.den]
   rw [show ((q : Int) + (j : Nat)).toNat = q + j by omega]
  ·rw [List.getElem?_eq_none (by simpa using hjn)] at hj
   cases hj
 have hd' : ∃ d : TypeDesc, P.underlying t = some d ∧ d.isRow = true := by
  unfold isAggT at ha
  cases hu : P.underlying t with
  | none => simp [hu] at ha
  | some d => refine ⟨d, rfl, ?_⟩; cases d <;> simp_all
 obtain ⟨d, hu, hd2⟩ := hd'
 refine ⟨.agg ((arrA k l i n).map (Sc.den v)).toArray, ?_, rfl⟩
 unfold execOp
 rw [ho]
 simp [e, Instr.loadAt, Instr.sureAddr, run_loadVar_mid w r q t ((arrA k l i n).map (Sc.den v)) d hr hu hd2 (by simpa [arrA] using hi)]
theorem does_load_imm {t : TypeId} {x : Operand} {z : I} (hd : ∀ d, o.dst = some d → d < s.n) (ho : o.op = .load t x) (hx : s.ev x = .one (.immp z)) (ha : isAggT P t = some false) (nv ora) : Does P v s o ⟨.one (.sc (.int .u8 z)), [], [], nv, ora⟩ := by
 refine does_value hd fun ac w p h => ?_
 have := h.ev x
 rw [hx] at this
 obtain ⟨r, q, e, hc⟩ := this
 have hc' : w.cell? ⟨r, q, none⟩ = some (.int .u8 (z.den v)) := by rw [h.below.cell (World.block_lt_of_cell? _ _ hc)]; exact hc
 refine ⟨.int .u8 (z.den v), ?_, rfl⟩
 unfold execOp
 rw [ho]
 simp [e, Instr.loadAt, Instr.sureAddr, loadVar, run_isAgg ha, hc']
theorem does_load_immP {t : TypeId} {x : Operand} {n : Nat} {i : I} (hd : ∀ d, o.dst = some d → d < s.n) (ho : o.op = .load t x) (hx : s.ev x = .one (.immPp n i)) (ha : isAggT P t = some false) (nv ora) : Does P v s o ⟨.one (.imm (.item n i) none), [], [], nv, ora⟩ := by
 refine does_value hd fun ac w p h => ?_
 have := h.ev x
 rw [hx] at this
 obtain ⟨r, q, y, e, hc, hy⟩ := this
 have hc' : w.cell? ⟨r, q, none⟩ = some y := by rw [h.below.cell (World.block_lt_of_cell? _ _ hc)]; exact hc
 refine ⟨y, ?_, ?_, fun b hb => by cases hb⟩
 ·unfold execOp
  rw [ho]
  simp [e, Instr.loadAt, Instr.sureAddr, loadVar, run_isAgg ha, hc']
 ·simpa [I.ldn] using hy
theorem does_store_num {t : TypeId} {x y : Operand} {a : A} {m : Nat} {i l z : I} {k : IntKind} {b : Blk} {ev : List Ev} (hd : ∀ d, o.dst = some d → d < s.n) (ho : o.op = .store t x y) (hx : s.ev x = .one a) (hp : placeA a = some (m, i)) (hy : s.ev y = .one (.sc (.int k z))) (hm : s.mem m = some b) (hb : b.dead = false)
  (hown : b.own = true) (hi : (P.info? t).map (·.size) = some 1) (hn : b.nums = some (k, l)) (hev : ltEv i (mkLen l) = some ev) (he : ∀ e ∈ ev, e.holds P v) (nv ora) :
  Does P v s o ⟨.undef, [(m, { b with cells := [], row := some (k, mkSet l i z) })], ev, nv, ora⟩ := by
 intro ac w p h K Q hK
 have hxx := h.ev x
 rw [hx] at hxx
 obtain ⟨r, N, q, hp', h2, e⟩ := placeA_is hp hxx
 obtain ⟨_, hB⟩ := h.at hm hp'
 obtain ⟨cs, fz, h3, h4, h5, h6, hc, h7⟩ := nums_cell hB hb hn
 obtain ⟨h8, rfl, h9⟩ := h7 hown
 have hlt := ltEv_ok hev he
 rw [mkLen_den, h2] at hlt
 have hj : q < (l.ldn v).length := by omega
 have hyy := h.ev y
 rw [hy] at hyy
 have ey : ac.eval y = .int k (z.den v) := hyy
 have hst := run_storeCells_at P r q b.T [Value.int k (z.den v)] 0 cs w h3 (by simp; omega) (by simp [Value.oneCell'])
 simp only [Nat.add_zero, List.length_cons, List.length_nil, Nat.zero_add] at hst
 cases hq : P.info? t with
 | none => simp [hq] at hi
 | some info =>
  simp only [hq, Option.map_some, Option.some.injEq] at hi
  unfold Oper.wp
  have hrun : (execOp ac.eval o).run P w = .ok .skip (w.setRow r (cs.toList.take q ++ [Value.int k (z.den v)] ++ cs.toList.drop (q + 1)).toArray) := by
   unfold execOp
   rw [ho]
   simp [e, ey, Instr.storeAt, Instr.sureAddr, storeVar, sizeOf, typeInfo, hq, hi, Value.cells, hst]
  rw [hrun, Oper.upon_skip]
  have hrel := h.store (x := m) (b := b) (b' := { b with cells := [], row := some (k, mkSet l i z) }) (cs' := (cs.toList.take q ++ [Value.int k (z.den v)] ++ cs.toList.drop (q + 1)).toArray) hm hb h8 hp' h3 rfl (fun _ => rfl) ?_ ?_ ?_
  ·exact hK _ _ _ (hrel.put hd trivial)
  ·simp; omega
  ·show List.take ((mkSet l i z).ldn v).length _ = _
   rw [mkSet_ldn, List.length_set, h2, Int.toNat_natCast]
   have hset : (cs.toList.take q ++ [Value.int k (z.den v)] ++ cs.toList.drop (q + 1)).toArray.toList = cs.toList.set q (.int k (z.den v)) := by
    rw [List.toList_toArray, List.set_eq_take_append_cons_drop, if_pos (by simp; omega)]
    simp
   rw [hset, List.take_set, h5, List.map_set]
  ·intro u hu
   simp only [List.toList_toArray, List.mem_append, List.mem_singleton] at hu
   rcases hu with (hu | hu) | hu
   ·exact h9 u (List.mem_of_mem_take hu)
   ·subst hu; rfl
   ·exact h9 u (List.mem_of_mem_drop hu)
theorem does_indexAddr_sym {t e : TypeId} {x i : Operand} {m off n : Nat} {k : IntKind} {z : I} {ev : List Ev} (hd : ∀ d, o.dst = some d → d < s.n) (ho : o.op = .indexAddr t x i) (hx : s.ev x = .one (.ptr m off)) (hi : s.ev i = .one (.sc (.int k z)))
  (hu : P.underlying t = some (.array n e)) (hs : (P.info? e).isSome = true) (h1 : P.cellsOf e = 1) {e1 e2 : List Ev} (he1 : leEv (.lit 0) z = some e1) (he2 : ltEv z (.lit n) = some e2) (hev : ev = e1 ++ e2) (he : ∀ e ∈ ev, e.holds P v) (nv ora) :
  Does P v s o ⟨.one (.bptr m (mkSum (.lit off) z)), [], ev, nv, ora⟩ := by
 subst hev
 refine does_value hd fun a w p h => ?_
 have hxx := h.ev x
 rw [hx] at hxx
 obtain ⟨r, n', hp, ex⟩ := hxx
 have hii := h.ev i
 rw [hi] at hii
 have ei : a.eval i = .int k (z.den v) := hii
 obtain ⟨ti, hti⟩ := Option.isSome_iff_exists.1 hs
 have h0 := leEv_ok he1 (fun e hm => he e (by simp [hm]))
 have h2 := ltEv_ok he2 (fun e hm => he e (by simp [hm]))
 simp only [I.den] at h0 h2
 refine ⟨.pointer (some ⟨r, off + (z.den v).toNat, none⟩), ?_, r, n', off + (z.den v).toNat, hp, ?_, rfl⟩
 ·unfold execOp
  rw [ho]
  simp [ex, ei, Instr.indexAt, asIntOf, run_underlying hu, Instr.sureAddr, h0, h2, run_sizeOf w hti, h1, Addr.add_mid]
 ·rw [mkSum_den]; simp only [I.den]; omega
theorem does_indexAddr_bsl {t e : TypeId} {x i : Operand} {m : Nat} {off len : I} {full : Bool} {k : IntKind} {z : I} {ev : List Ev} (hd : ∀ d, o.dst = some d → d < s.n) (ho : o.op = .indexAddr t x i) (hx : s.ev x = .one (.bsl m off len full)) (hi : s.ev i = .one (.sc (.int k z)))
  (hu : P.underlying t = some (.slice e)) (hs : (P.info? e).isSome = true) (h1 : P.cellsOf e = 1) {e1 e2 : List Ev} (he1 : leEv (.lit 0) z = some e1) (he2 : ltEv z len = some e2) (hev : ev = e1 ++ e2) (he : ∀ e ∈ ev, e.holds P v) (nv ora) :
  Does P v s o ⟨.one (.bptr m (mkSum off z)), [], ev, nv, ora⟩ := by
 subst hev
 refine does_value hd fun a w p h => ?_
 have hxx := h.ev x
 rw [hx] at hxx
 obtain ⟨b, n, c, l1, ex, l2, l3, l4⟩ := hxx
 have hii := h.ev i
 rw [hi] at hii
 have ei : a.eval i = .int k (z.den v) := hii
 obtain ⟨ti, hti⟩ := Option.isSome_iff_exists.1 hs
 have h0 := leEv_ok he1 (fun e hm => he e (by simp [hm]))
 have h2 := ltEv_ok he2 (fun e hm => he e (by simp [hm]))
 simp only [I.den] at h0
 rw [l1] at h2
 rcases l4 with l4 | ⟨r, N, q, l5, l6, rfl, l7⟩
 ·exfalso; omega
 ·refine ⟨.pointer (some ⟨r, q + (z.den v).toNat, none⟩), ?_, r, N, q + (z.den v).toNat, l5, ?_, rfl⟩
  ·unfold execOp
   rw [ho]
   simp [ex, ei, Instr.indexAt, asIntOf, run_underlying hu, h0, h2, run_sizeOf w hti, h1, Addr.add_mid]
  ·rw [mkSum_den, l6]; omega
theorem does_indexAddr_imm {t e : TypeId} {x i : Operand} {l z : I} {nl : Option Bx} {k : IntKind} {ev : List Ev} (hd : ∀ d, o.dst = some d → d < s.n) (ho : o.op = .indexAddr t x i) (hx : s.ev x = .one (.imm l nl)) (hi : s.ev i = .one (.sc (.int k z)))
  (hu : P.underlying t = some (.slice e)) (hs : (P.info? e).isSome = true) (h1 : P.cellsOf e = 1) {e1 e2 : List Ev} (he1 : leEv (.lit 0) z = some e1) (he2 : ltEv z (mkLen l) = some e2) (hev : ev = e1 ++ e2) (he : ∀ e ∈ ev, e.holds P v) (nv ora) :
  Does P v s o ⟨.one (.immp (mkGet l z)), [], ev, nv, ora⟩ := by
 subst hev
 refine does_value hd fun a w p h => ?_
 have hxx := h.ev x
 rw [hx] at hxx
 obtain ⟨⟨b, c, ex, l2, l3, l4⟩, _⟩ := hxx
 have hii := h.ev i
 rw [hi] at hii
 have ei : a.eval i = .int k (z.den v) := hii
 obtain ⟨ti, hti⟩ := Option.isSome_iff_exists.1 hs
 have h0 := leEv_ok he1 (fun e hm => he e (by simp [hm]))
 have h2 := ltEv_ok he2 (fun e hm => he e (by simp [hm]))
 simp only [I.den] at h0
 rw [mkLen_den] at h2
 rcases l4 with l4 | ⟨r, q, rfl, l5⟩
 ·exfalso; omega
 ·refine ⟨.pointer (some ⟨r, q + (z.den v).toNat, none⟩), ?_, r, q + (z.den v).toNat, rfl, ?_⟩
  ·unfold execOp
   rw [ho]
   simp [ex, ei, Instr.indexAt, asIntOf, run_underlying hu, h0, h2, run_sizeOf w hti, h1, Addr.add_mid]
  ·rw [mkGet_den]
   exact l5 _ _ (getD_some (by omega))
theorem does_indexAddr_immP {t e : TypeId} {x i : Operand} {n : Nat} {z : I} {k : IntKind} {ev : List Ev} (hd : ∀ d, o.dst = some d → d < s.n) (ho : o.op = .indexAddr t x i) (hx : s.ev x = .one (.immP n)) (hi : s.ev i = .one (.sc (.int k z)))
  (hu : P.underlying t = some (.slice e)) (hs : (P.info? e).isSome = true) (h1 : P.cellsOf e = 1) {e1 e2 : List Ev} (he1 : leEv (.lit 0) z = some e1) (he2 : ltEv z (.plen n) = some e2) (hev : ev = e1 ++ e2) (he : ∀ e ∈ ev, e.holds P v) (nv ora) :
  Does P v s o ⟨.one (.immPp n z), [], ev, nv, ora⟩ := by
 subst hev
 refine does_value hd fun a w p h => ?_
 have hxx := h.ev x
 rw [hx] at hxx
 obtain ⟨b, c, ex, l2, l3, l4⟩ := hxx
 have hii := h.ev i
 rw [hi] at hii
 have ei : a.eval i = .int k (z.den v) := hii
 obtain ⟨ti, hti⟩ := Option.isSome_iff_exists.1 hs
 have h0 := leEv_ok he1 (fun e hm => he e (by simp [hm]))
 have h2 := ltEv_ok he2 (fun e hm => he e (by simp [hm]))
 simp only [I.den] at h0 h2
 rcases l4 with l4 | ⟨r, q, rfl, l5⟩
 ·exfalso; omega
 ·have hlt : (z.den v).toNat < (v.pp n).length := by omega
  obtain ⟨y, hy1, hy2⟩ := l5 (z.den v).toNat _ (List.getElem?_eq_getElem hlt)
  refine ⟨.pointer (some ⟨r, q + (z.den v).toNat, none⟩), ?_, r, q + (z.den v).toNat, y, rfl, hy1, ?_⟩
  ·unfold execOp
   rw [ho]
   simp [ex, ei, Instr.indexAt, asIntOf, run_underlying hu, h0, h2, run_sizeOf w hti, h1, Addr.add_mid]
  ·rw [List.getD_eq_getElem?_getD, List.getElem?_eq_getElem hlt]
   exact hy2
end
end Go.Sx
namespace Go.Sx
open Go Go.RowKit
section
variable {P : Program} {v : Env} {s : Sig} {o : Oper}
def boundA (s : Sig) (d : I) : Option Operand → Option I
 | none => some d
 | some x => match s.ev x with | .one (.sc (.int _ z)) => some z | _ => none
theorem bounds_run {a : Act} {w : World} {p : Mp} (h : RelP v s a w p) {lo hi : Option Operand} {zl zh d : I} (hl : boundA s (.lit 0) lo = some zl) (hh : boundA s d hi = some zh) {n c : Nat} (hd : d.den v = (n : Int)) (b : Bool)
  (h0 : 0 ≤ zl.den v) (h1 : zl.den v ≤ zh.den v) (h2 : zh.den v ≤ c) :
  (Instr.sliceBounds b n c (lo.map a.eval) (hi.map a.eval) none).run P w = .ok ((zl.den v).toNat, (zh.den v).toNat, c) w := by
 have ezh : ((zh.den v).toNat : Int) = zh.den v := Int.toNat_of_nonneg (by omega)
 cases lo with
 | none =>
  simp only [boundA, Option.some.injEq] at hl
  subst hl
  cases hi with
  | none =>
   simp only [boundA, Option.some.injEq] at hh
   subst hh
   simp [Instr.sliceBounds, I.den, hd]
  | some y =>
   simp only [boundA] at hh
   split at hh
   ·rename_i k z hy
    simp only [Option.some.injEq] at hh
    subst hh
    have hyy := h.ev y
    rw [hy] at hyy
    have ey : a.eval y = .int k (z.den v) := hyy
    simp only [I.den] at h1 h0 ⊢
    simp [Instr.sliceBounds, ey, run_sliceBound, h1, h2]
   ·cases hh
 | some x =>
  simp only [boundA] at hl
  split at hl
  ·rename_i k z hx
   simp only [Option.some.injEq] at hl
   subst hl
   have hxx := h.ev x
   rw [hx] at hxx
   have ex : a.eval x = .int k (z.den v) := hxx
   cases hi with
   | none =>
    simp only [boundA, Option.some.injEq] at hh
    subst hh
    rw [hd] at h1
    simp [Instr.sliceBounds, ex, run_sliceBound, h0, h1, hd]
   | some y =>
    simp only [boundA] at hh
    split at hh
    ·rename_i k' z' hy
     simp only [Option.some.injEq] at hh
     subst hh
     have hyy := h.ev y
     rw [hy] at hyy
     have ey : a.eval y = .int k' (z'.den v) := hyy
     simp [Instr.sliceBounds, ex, ey, run_sliceBound, h0, h1, h2, ezh, show 0 ≤ z'.den v by omega]
    ·cases hh
  ·cases hl
theorem add_lit1 (r q l : Nat) : Addr.add ⟨r, q, none⟩ l = ⟨r, q + l, none⟩ := Addr.add_mid r q l
theorem does_slice_bsl {t e : TypeId} {x : Operand} {lo hi : Option Operand} {m : Nat} {off len zl zh : I} {full : Bool} {ev e1 e2 e3 : List Ev} (hd : ∀ d, o.dst = some d → d < s.n) (ho : o.op = .slice t x lo hi none) (hx : s.ev x = .one (.bsl m off len full))
  (hu : P.underlying t = some (.slice e)) (hs : (P.info? e).isSome = true) (h1 : P.cellsOf e = 1) (hl : boundA s (.lit 0) lo = some zl) (hh : boundA s len hi = some zh) (he1 : leEv (.lit 0) zl = some e1) (he2 : leEv zl zh = some e2) (he3 : leEv zh len = some e3)
  (hev : ev = e1 ++ e2 ++ e3) (he : ∀ e ∈ ev, e.holds P v) (nv ora) : Does P v s o ⟨.one (.bsl m (mkSum off zl) (mkDif zh zl) (full && decide (zl = .lit 0))), [], ev, nv, ora⟩ := by
 subst hev
 refine does_value hd fun a w p h => ?_
 have hxx := h.ev x
 rw [hx] at hxx
 obtain ⟨b, n, c, l1, ex, l2, l3, l4⟩ := hxx
 obtain ⟨ti, hti⟩ := Option.isSome_iff_exists.1 hs
 have g0 := leEv_ok he1 (fun e hm => he e (by simp [hm]))
 have g1 := leEv_ok he2 (fun e hm => he e (by simp [hm]))
 have g2 := leEv_ok he3 (fun e hm => he e (by simp [hm]))
 simp only [I.den] at g0
 rw [l1] at g2
 have hb := bounds_run (P := P) (n := n) (c := c) h hl hh l1 true g0 g1 (by omega)
 refine ⟨.slice (if c = (zl.den v).toNat then b else b.map (·.add (zl.den v).toNat)) ((zh.den v).toNat - (zl.den v).toNat) (c - (zl.den v).toNat), ?_, ?_⟩
 ·unfold execOp
  rw [ho]
  simp only [Option.map_none] at hb ⊢
  simp [Instr.sliceAt, Instr.slice, run_underlying hu, ex, hb, run_sizeOf w hti, h1]
 ·refine ⟨_, (zh.den v).toNat - (zl.den v).toNat, c - (zl.den v).toNat, by rw [mkDif_den]; omega, rfl, by omega, by omega, ?_⟩
  by_cases hc : c = (zl.den v).toNat
  ·left; omega
  ·rcases l4 with l4 | ⟨r, N, q, l5, l6, rfl, l7⟩
   ·exfalso; omega
   ·refine .inr ⟨r, N, q + (zl.den v).toNat, l5, by rw [mkSum_den, l6]; omega, ?_, fun hf => ?_⟩
    ·rw [if_neg hc]; simp [add_lit1]
    ·simp only [Bool.and_eq_true, decide_eq_true_eq] at hf
     obtain ⟨hf, rfl⟩ := hf
     obtain ⟨rfl, rfl⟩ := l7 hf
     simp [I.den]
theorem does_slice_arr {t e : TypeId} {x : Operand} {lo hi : Option Operand} {m off n : Nat} {zl zh : I} {ev e1 e2 e3 : List Ev} (hd : ∀ d, o.dst = some d → d < s.n) (ho : o.op = .slice t x lo hi none) (hx : s.ev x = .one (.ptr m off))
  (hu : P.underlying t = some (.array n e)) (hs : (P.info? e).isSome = true) (h1 : P.cellsOf e = 1) (hn : n ≤ maxLen) (hl : boundA s (.lit 0) lo = some zl) (hh : boundA s (.lit n) hi = some zh) (he1 : leEv (.lit 0) zl = some e1) (he2 : leEv zl zh = some e2) (he3 : leEv zh (.lit n) = some e3)
  (hev : ev = e1 ++ e2 ++ e3) (he : ∀ e ∈ ev, e.holds P v) (nv ora) : Does P v s o ⟨.one (.bsl m (mkSum (.lit off) zl) (mkDif zh zl) false), [], ev, nv, ora⟩ := by
 subst hev
 refine does_value hd fun a w p h => ?_
 have hxx := h.ev x
 rw [hx] at hxx
 obtain ⟨r, N, hp, ex⟩ := hxx
 obtain ⟨ti, hti⟩ := Option.isSome_iff_exists.1 hs
 have g0 := leEv_ok he1 (fun e hm => he e (by simp [hm]))
 have g1 := leEv_ok he2 (fun e hm => he e (by simp [hm]))
 have g2 := leEv_ok he3 (fun e hm => he e (by simp [hm]))
 simp only [I.den] at g0 g2
 have hb := bounds_run (P := P) (n := n) (c := n) h hl hh (by simp only [I.den]) false g0 g1 g2
 refine ⟨.slice (some (if n = (zl.den v).toNat then ⟨r, off, none⟩ else Addr.add ⟨r, off, none⟩ (zl.den v).toNat)) ((zh.den v).toNat - (zl.den v).toNat) (n - (zl.den v).toNat), ?_, ?_⟩
 ·unfold execOp
  rw [ho]
  simp only [Option.map_none] at hb ⊢
  simp [Instr.sliceAt, Instr.sureAddr, run_underlying hu, ex, hb, run_sizeOf w hti, h1]
 ·refine ⟨_, (zh.den v).toNat - (zl.den v).toNat, n - (zl.den v).toNat, by rw [mkDif_den]; omega, rfl, by omega, by omega, ?_⟩
  by_cases hc : n = (zl.den v).toNat
  ·left; omega
  ·exact .inr ⟨r, N, off + (zl.den v).toNat, hp, by rw [mkSum_den]; simp only [I.den]; omega, by rw [if_neg hc, add_lit1], fun hf => by cases hf⟩
theorem does_slice_imm {t e : TypeId} {x : Operand} {lo hi : Option Operand} {l zl zh : I} {nl : Option Bx} {ev e1 e2 e3 : List Ev} (hd : ∀ d, o.dst = some d → d < s.n) (ho : o.op = .slice t x lo hi none) (hx : s.ev x = .one (.imm l nl))
  (hu : P.underlying t = some (.slice e)) (hs : (P.info? e).isSome = true) (h1 : P.cellsOf e = 1) (hl : boundA s (.lit 0) lo = some zl) (hh : boundA s (mkLen l) hi = some zh) (he1 : leEv (.lit 0) zl = some e1) (he2 : leEv zl zh = some e2) (he3 : leEv zh (mkLen l) = some e3)
  (hev : ev = e1 ++ e2 ++ e3) (he : ∀ e ∈ ev, e.holds P v) (nv ora) : Does P v s o ⟨.one (.imm (mkPart l zl (mkDif zh zl)) nl), [], ev, nv, ora⟩ := by
 subst hev
 refine does_value hd fun a w p h => ?_
 have hxx := h.ev x
 rw [hx] at hxx
 obtain ⟨⟨b, c, ex, l2, l3, l4⟩, hnl⟩ := hxx
 obtain ⟨ti, hti⟩ := Option.isSome_iff_exists.1 hs
 have g0 := leEv_ok he1 (fun e hm => he e (by simp [hm]))
 have g1 := leEv_ok he2 (fun e hm => he e (by simp [hm]))
 have g2 := leEv_ok he3 (fun e hm => he e (by simp [hm]))
 simp only [I.den] at g0
 rw [mkLen_den] at g2
 have hb := bounds_run (P := P) (n := (l.ldn v).length) (c := c) h hl hh (mkLen_den v l) true g0 g1 (by omega)
 have hlen : (((l.ldn v).drop (zl.den v).toNat).take (zh.den v - zl.den v).toNat).length = (zh.den v).toNat - (zl.den v).toNat := by
  rw [List.length_take, List.length_drop]; omega
 refine ⟨.slice (if c = (zl.den v).toNat then b else b.map (·.add (zl.den v).toNat)) ((zh.den v).toNat - (zl.den v).toNat) (c - (zl.den v).toNat), ?_, ?_, ?_⟩
 ·unfold execOp
  rw [ho]
  simp only [Option.map_none] at hb ⊢
  simp [Instr.sliceAt, Instr.slice, run_underlying hu, ex, hb, run_sizeOf w hti, h1]
 ·refine ⟨if c = (zl.den v).toNat then b else b.map (·.add (zl.den v).toNat), c - (zl.den v).toNat, ?_, ?_, by omega, ?_⟩
  ·rw [mkPart_ldn, mkDif_den, hlen]
  ·rw [mkPart_ldn, mkDif_den, hlen]; omega
  ·by_cases hc : c = (zl.den v).toNat
   ·left; omega
   ·rcases l4 with l4 | ⟨r, q, rfl, l5⟩
    ·exfalso; omega
    ·refine .inr ⟨r, q + (zl.den v).toNat, by rw [if_neg hc]; simp [add_lit1], fun j x hj => ?_⟩
     rw [mkPart_ldn, List.getElem?_take] at hj
     split at hj
     ·rw [List.getElem?_drop] at hj
      have := l5 _ _ hj
      rw [Nat.add_assoc]
      exact this
     ·cases hj
 ·intro b' hb'
  rw [← hnl b' hb', ex]
  cases b with
  | none => simp [Value.isNil]
  | some ad => by_cases hc : c = (zl.den v).toNat <;> simp [Value.isNil, hc]
theorem does_slice_nils {t e : TypeId} {x : Operand} {lo hi : Option Operand} (hd : ∀ d, o.dst = some d → d < s.n) (ho : o.op = .slice t x lo hi none) (hx : s.ev x = .one .nils)
  (hu : P.underlying t = some (.slice e)) (hs : (P.info? e).isSome = true) (hl : boundA s (.lit 0) lo = some (.lit 0)) (hh : boundA s (.lit 0) hi = some (.lit 0)) (nv ora) : Does P v s o ⟨.one .nils, [], [], nv, ora⟩ := by
 refine does_value hd fun a w p h => ?_
 have hxx := h.ev x
 rw [hx] at hxx
 have ex : a.eval x = .slice none 0 0 := hxx
 obtain ⟨ti, hti⟩ := Option.isSome_iff_exists.1 hs
 have hb := bounds_run (P := P) (n := 0) (c := 0) h hl hh (by simp [I.den]) true (by simp [I.den]) (by simp [I.den]) (by simp [I.den])
 refine ⟨.slice none 0 0, ?_, rfl⟩
 unfold execOp
 rw [ho]
 simp only [Option.map_none, I.den, Int.toNat_zero] at hb ⊢
 simp [Instr.sliceAt, Instr.slice, run_underlying hu, ex, hb, run_sizeOf w hti]
theorem aOf_int {z : Value} {k : IntKind} {n : Int} (h : aOf z = some (.sc (.int k (.lit n)))) : z = .int k n := by
 unfold aOf at h
 split at h
 ·simp at h; obtain ⟨rfl, rfl⟩ := h; rfl
 ·simp at h
 ·simp only [Option.map_eq_some_iff] at h; obtain ⟨_, _, h⟩ := h; cases h
 ·simp at h
 ·simp at h
theorem elem_of {e : TypeId} {k : IntKind} (hz : zeroA P e = some (.sc (.int k (.lit 0)))) (h1 : P.cellsOf e = 1) : ∃ i, P.info? e = some i ∧ i.zero = some (.int k 0) ∧ i.size = 1 := by
 unfold zeroA at hz
 cases hi : P.info? e with
 | none => simp [hi] at hz
 | some i =>
  cases hzz : i.zero with
  | none => simp [hi, hzz] at hz
  | some z =>
   simp only [hi, hzz] at hz
   refine ⟨i, rfl, by rw [hzz, aOf_int hz], ?_⟩
   simpa [Program.cellsOf, hi] using h1
theorem does_makeSlice {t e : TypeId} {x y : Operand} {x0 n : Nat} {k k1 k2 : IntKind} (hd : ∀ d, o.dst = some d → d < s.n) (ho : o.op = .makeSlice t x y) (hx : s.ev x = .one (.sc (.int k1 (.lit n)))) (hy : s.ev y = .one (.sc (.int k2 (.lit n))))
  (hu : P.underlying t = some (.slice e)) (hz : zeroA P e = some (.sc (.int k (.lit 0)))) (h1 : P.cellsOf e = 1) (hb : ∀ i, P.info? e = some i → i.bytes ≤ 8) (hn : n ≤ 1099511627776) (hx0 : s.mem x0 = none) (nv ora) :
  Does P v s o ⟨.one (.bsl x0 (.lit 0) (.lit n) true), [(x0, newRowB e k (mkRep (.lit n)))], [], nv, ora⟩ := by
 obtain ⟨i, hi, hzv, hsz⟩ := elem_of hz h1
 have hby := hb i hi
 refine does_newB hd hx0 fun a w p h => ⟨madeCells #[.int k 0] n, fun q _ => ?_, ?_, fun q hq hqx => ?_⟩
 ·show List.take ((mkRep (.lit n)).ldn v).length _ = _
  rw [mkRep_ldn, toList_madeCells_one]
  simp [I.den]
 ·rw [toList_madeCells_one]
  intro u hu
  rw [List.eq_of_mem_replicate hu]; rfl
 ·have hxx := h.ev x
  rw [hx] at hxx
  have ex : a.eval x = .int k1 (n : Int) := by have := hxx; simpa [AV.Is, A.Is, Sc.den, I.den] using this
  have hyy := h.ev y
  rw [hy] at hyy
  have ey : a.eval y = .int k2 (n : Int) := by have := hyy; simpa [AV.Is, A.Is, Sc.den, I.den] using this
  have hbn : (i.bytes : Int) * (n : Int) ≤ 281474976710656 := by
   have : i.bytes * n ≤ 8 * 1099511627776 := Nat.mul_le_mul hby hn
   have e : ((i.bytes * n : Nat) : Int) = (i.bytes : Int) * (n : Int) := Int.natCast_mul _ _
   omega
  have hr := run_make (P := P) w t e i (.int k 0) hu hi hzv k1 k2 (n : Int) (n : Int) (by omega) (Int.le_refl _) hbn (by omega)
  refine ⟨.slice (some ⟨w.heap.size, 0, none⟩) n n, ?_, ?_⟩
  ·unfold execOp
   rw [ho]
   simp only [Int.toNat_natCast, hsz, Nat.mul_one, Value.cells] at hr
   simp only [ex, ey, Sem.run_bind, hr, Result.andThen_ok, Sem.run_pure]
   rfl
  ·refine ⟨_, n, n, by simp only [I.den], rfl, Nat.le_refl _, by unfold maxLen; omega, .inr ⟨_, _, 0, hqx, by simp only [I.den]; rfl, rfl, fun _ => ⟨rfl, ?_⟩⟩⟩
   have := size_madeCells #[Value.int k 0] n
   simp [madeCells]
theorem size_fill (place : Nat → Option (Nat × Nat)) : ∀ (us : List (Nat × Value)) (l r : Array Value), Instr.fill place l us = some r → r.size = l.size
 | [], l, r, h => by simp [Instr.fill] at h; rw [h]
 | (i, u) :: us, l, r, h => by
  unfold Instr.fill at h
  cases hp : place i with
  | none => simp [hp] at h
  | some os =>
   obtain ⟨off, size⟩ := os
   simp only [hp] at h
   split at h
   ·cases h
   ·have := size_fill place us _ r h
    rw [this]
    have key : ∀ (m : List (Value × Nat)) (c : Array Value), (m.foldl (fun cs cj => cs.setIfInBounds (off + cj.2) cj.1) c).size = c.size := by
     intro m
     induction m with
     | nil => intro c; rfl
     | cons x m ih => intro c; rw [List.foldl_cons, ih]; simp
    rw [← Array.foldl_toList]
    exact key _ _
theorem buildSlice_run {t e : TypeId} {len : Nat} {parts : Array (Nat × Operand)} {z : A} {ps : List (Nat × A)} {r : List A} {i : TypeInfo} (hu : P.underlying t = some (.slice e)) (hz : zeroA P e = some z) (h1 : P.cellsOf e = 1) (hz1 : z.oneCell = true) (hi : P.info? e = some i)
  (hlen : len ≤ 16777216) (hps : partsA s parts.toList = some ps) (hr : fillA (fun j => some (j * 1, 1)) (List.replicate len z) ps = some r) {a : Act} {w : World} {p : Mp} (h : RelP v s a w p) :
  ∃ cs : Array Value, cs.size = len ∧ listIs v p r cs.toList ∧ (Instr.buildSlice t len (parts.map fun (j, x) => (j, a.eval x))).run P w = .ok (.slice (some ⟨w.heap.size, 0, none⟩) len len) (w.alloc (.cells cs e)) := by
 have hsz : i.size = 1 := by simpa [Program.cellsOf, hi] using h1
 have hpi := partsA_is h _ _ hps
 unfold zeroA at hz
 rw [hi] at hz
 cases hzz : i.zero with
 | none => simp [hzz] at hz
 | some zv =>
  simp only [hzz] at hz
  have hzi : z.Is v p zv := aOf_is hz
  have hinit : listIs v p (List.replicate len z) (List.replicate len zv) := by
   clear hr hlen
   induction len with
   | zero => rfl
   | succ n ih => exact ⟨zv, _, rfl, hzi, ih⟩
  obtain ⟨l', hl', hli⟩ := fill_is (fun j => some (j * 1, 1)) ps _ hpi (List.replicate len z) (List.replicate len zv).toArray (by simpa using hinit) r hr
  refine ⟨l', ?_, hli, ?_⟩
  ·have := size_fill _ _ _ _ hl'
   simpa using this
  ·have hmap : (parts.map fun (j, x) => (j, a.eval x)).toList = parts.toList.map fun ix => (ix.1, a.eval ix.2) := by simp
   have hzc : zv.cells = #[zv] := by
    have := (hzi.one hz1).2
    apply Array.ext'
    simpa using this
   have hzero : (zeroValue e).run P w = .ok zv w := by simp [zeroValue, typeInfo, hi, hzz]
   have hrange : (Array.range len).map (fun j => #[zv][j % 1]!) = (List.replicate len zv).toArray := by
    apply Array.ext'
    apply List.ext_getElem?
    intro j
    by_cases hj : j < len
    ·simp [hj, Nat.mod_one]
    ·simp [hj]
   by_cases h0 : len = 0
   ·subst h0
    have hr0 : ∀ f : Nat → Value, Array.map f (Array.range 0) = #[] := fun f => by apply Array.ext'; simp
    simp only [List.replicate_zero] at hl'
    simp only [Nat.mul_one] at hl'
    simp [Instr.buildSlice, run_underlying hu, run_sizeOf w hi, h1, hr0, hl', newRow]
   ·have hrun := run_buildSlice (P := P) w t e len (parts.map fun (j, x) => (j, a.eval x)) l' i zv hu hi hzz (by rw [hsz]; omega) (by rw [hsz]; omega) (by
     rw [hsz, hmap, hzc, Nat.mul_one]
     simp only [List.size_toArray, List.length_singleton]
     rw [hrange]
     exact hl')
    exact hrun
theorem does_buildSlice_num {t e : TypeId} {len : Nat} {parts : Array (Nat × Operand)} {ps : List (Nat × A)} {r : List A} {k : IntKind} {es : List I} {x0 : Nat} (hd : ∀ d, o.dst = some d → d < s.n) (ho : o.op = .buildSlice t len parts) (hu : P.underlying t = some (.slice e))
  (hz : zeroA P e = some (.sc (.int k (.lit 0)))) (h1 : P.cellsOf e = 1) (hlen : len ≤ 16777216) (hps : partsA s parts.toList = some ps) (hr : fillA (fun j => some (j * 1, 1)) (List.replicate len (.sc (.int k (.lit 0)))) ps = some r) (hes : r = es.map fun z => .sc (.int k z)) (hx0 : s.mem x0 = none) (nv ora) :
  Does P v s o ⟨.one (.bsl x0 (.lit 0) (.lit len) true), [(x0, newRowB e k (I.ofL es))], [], nv, ora⟩ := by
 obtain ⟨i, hi, hzv, hsz⟩ := elem_of hz h1
 refine does_newB hd hx0 fun a w p h => ?_
 obtain ⟨cs, c1, c2, c3⟩ := buildSlice_run (i := i) hu hz h1 rfl hi hlen hps hr h
 have hcs : cs.toList = (es.map (I.den v)).map (Value.int k) := by
  subst hes
  clear c3 hr
  have key : ∀ (es : List I) (l : List Value), listIs v p (es.map fun z => A.sc (.int k z)) l → l = (es.map (I.den v)).map (Value.int k) := by
   intro es
   induction es with
   | nil => intro l hl; exact hl
   | cons x es ih => intro l ⟨u, us, e, k1, k2⟩; rw [e, show u = _ from k1, ih us k2]; rfl
  exact key es _ c2
 have hl : es.length = len := by have := congrArg List.length hcs; simp at this; omega
 refine ⟨cs, fun q _ => ?_, ?_, fun q hq hqx => ⟨.slice (some ⟨w.heap.size, 0, none⟩) len len, ?_, ?_⟩⟩
 ·show List.take ((I.ofL es).ldn v).length _ = _
  rw [I.ofL_ldn, hcs, List.take_of_length_le (by simp)]
 ·rw [hcs]
  intro u hu
  obtain ⟨x, _, rfl⟩ := List.mem_map.1 hu
  rfl
 ·unfold execOp
  rw [ho]
  simp only [Sem.run_bind, c3, Result.andThen_ok, Sem.run_pure]
  rfl
 ·exact ⟨_, len, len, by simp only [I.den], rfl, Nat.le_refl _, by unfold maxLen; omega, .inr ⟨_, _, 0, hqx, by simp only [I.den]; rfl, rfl, fun _ => ⟨rfl, c1.symm⟩⟩⟩
theorem does_buildSlice_any {t e : TypeId} {len : Nat} {parts : Array (Nat × Operand)} {z : A} {ps : List (Nat × A)} {r : List A} {x0 : Nat} (hd : ∀ d, o.dst = some d → d < s.n) (ho : o.op = .buildSlice t len parts) (hu : P.underlying t = some (.slice e))
  (hz : zeroA P e = some z) (h1 : P.cellsOf e = 1) (hz1 : z.oneCell = true) (hlen : len ≤ 16777216) (hps : partsA s parts.toList = some ps) (hr : fillA (fun j => some (j * 1, 1)) (List.replicate len z) ps = some r) (hone : r.all A.oneCell = true) (hx0 : s.mem x0 = none) (nv ora) :
  Does P v s o ⟨.one (.slc x0 0 len none), [(x0, newBlk e r)], [], nv, ora⟩ := by
 obtain ⟨i, hi⟩ : ∃ i, P.info? e = some i := by
  unfold zeroA at hz
  cases hi : P.info? e with
  | none => simp [hi] at hz
  | some i => exact ⟨i, rfl⟩
 refine does_new hd hx0 (fun c hc => List.all_eq_true.1 hone c hc) fun a w p h => ?_
 obtain ⟨cs, c1, c2, c3⟩ := buildSlice_run (i := i) hu hz h1 hz1 hi hlen hps hr h
 refine ⟨cs, c2, fun q hq hqx => ⟨.slice (some ⟨w.heap.size, 0, none⟩) len len, ?_, ?_⟩⟩
 ·unfold execOp
  rw [ho]
  simp only [Sem.run_bind, c3, Result.andThen_ok, Sem.run_pure]
 ·refine ⟨w.heap.size, cs.size, hqx, by omega, ?_, by simp <;> omega, by simp <;> omega, by rw [c1]; unfold maxLen; omega⟩
  simp [c1]
theorem does_len_bsl {c : Call} {x : Operand} {t e : TypeId} {m : Nat} {off len : I} {full : Bool} (hd : ∀ d, o.dst = some d → d < s.n) (ho : o.op = .call c) (hf : c.callee = .builtin .len) (hx : c.args = #[x]) (ht : c.argTypes[0]? = some t) (hu : P.underlying t = some (.slice e))
  (he : s.ev x = .one (.bsl m off len full)) (nv ora) : Does P v s o ⟨.one (.sc (.int .i64 len)), [], [], nv, ora⟩ := by
 refine does_value hd fun a w p h => ?_
 have hxx := h.ev x
 rw [he] at hxx
 obtain ⟨b, n, cc, l1, ex, _⟩ := hxx
 refine ⟨.int .i64 n, ?_, by show _ = Sc.den v _; simp only [Sc.den, l1]⟩
 unfold execOp
 rw [ho]
 simp [resolve, hf, hx, ex, invoke, builtin, Builtin.len_, ht, run_underlying hu, goInt]
theorem does_len_imm {c : Call} {x : Operand} {t e : TypeId} {l : I} {nl : Option Bx} (hd : ∀ d, o.dst = some d → d < s.n) (ho : o.op = .call c) (hf : c.callee = .builtin .len) (hx : c.args = #[x]) (ht : c.argTypes[0]? = some t) (hu : P.underlying t = some (.slice e))
  (he : s.ev x = .one (.imm l nl)) (nv ora) : Does P v s o ⟨.one (.sc (.int .i64 (mkLen l))), [], [], nv, ora⟩ := by
 refine does_value hd fun a w p h => ?_
 have hxx := h.ev x
 rw [he] at hxx
 obtain ⟨⟨b, cc, ex, _⟩, _⟩ := hxx
 refine ⟨.int .i64 ((l.ldn v).length : Nat), ?_, by show _ = Sc.den v _; simp only [Sc.den, mkLen_den]⟩
 unfold execOp
 rw [ho]
 simp [resolve, hf, hx, ex, invoke, builtin, Builtin.len_, ht, run_underlying hu, goInt]
theorem does_len_immP {c : Call} {x : Operand} {t e : TypeId} {n : Nat} (hd : ∀ d, o.dst = some d → d < s.n) (ho : o.op = .call c) (hf : c.callee = .builtin .len) (hx : c.args = #[x]) (ht : c.argTypes[0]? = some t) (hu : P.underlying t = some (.slice e))
  (he : s.ev x = .one (.immP n)) (nv ora) : Does P v s o ⟨.one (.sc (.int .i64 (.plen n))), [], [], nv, ora⟩ := by
 refine does_value hd fun a w p h => ?_
 have hxx := h.ev x
 rw [he] at hxx
 obtain ⟨b, cc, ex, _⟩ := hxx
 refine ⟨.int .i64 ((v.pp n).length : Nat), ?_, by show _ = Sc.den v _; simp only [Sc.den, I.den]⟩
 unfold execOp
 rw [ho]
 simp [resolve, hf, hx, ex, invoke, builtin, Builtin.len_, ht, run_underlying hu, goInt]
theorem does_cap_nil {c : Call} {x : Operand} {t e : TypeId} (hd : ∀ d, o.dst = some d → d < s.n) (ho : o.op = .call c) (hf : c.callee = .builtin .cap) (hx : c.args = #[x]) (ht : c.argTypes[0]? = some t) (hu : P.underlying t = some (.slice e))
  (he : s.ev x = .one .nils) (nv ora) : Does P v s o ⟨.one (.sc (.int .i64 (.lit 0))), [], [], nv, ora⟩ := by
 refine does_value hd fun a w p h => ⟨.int .i64 0, ?_, by show _ = Sc.den v _; simp only [Sc.den, I.den]⟩
 have hxx := h.ev x
 rw [he] at hxx
 have ex : a.eval x = .slice none 0 0 := hxx
 unfold execOp
 rw [ho]
 simp [resolve, hf, hx, ex, invoke, builtin, Builtin.cap_, ht, run_underlying hu, goInt]
theorem does_s2ap {t e : TypeId} {x : Operand} {m n : Nat} {off len : I} {full : Bool} {ev : List Ev} (hd : ∀ d, o.dst = some d → d < s.n) (ho : o.op = .sliceToArrayPointer t x) (hx : s.ev x = .one (.bsl m off len full))
  (hu : P.underlying t = some (.array n e)) (hn : 0 < n) (hev : leEv (.lit n) len = some ev) (he : ∀ e ∈ ev, e.holds P v) (nv ora) : Does P v s o ⟨.one (.bptr m off), [], ev, nv, ora⟩ := by
 refine does_value hd fun a w p h => ?_
 have hxx := h.ev x
 rw [hx] at hxx
 obtain ⟨b, k, c, l1, ex, l2, l3, l4⟩ := hxx
 have g := leEv_ok hev he
 simp only [I.den] at g
 rw [l1] at g
 have hle : n ≤ k := by omega
 rcases l4 with l4 | ⟨r, N, q, l5, l6, rfl, l7⟩
 ·exfalso; omega
 ·refine ⟨.pointer (some ⟨r, q, none⟩), ?_, r, N, q, l5, l6, rfl⟩
  unfold execOp
  rw [ho]
  have := run_arrayAt (P := P) (w := w) t e n (some ⟨r, q, none⟩) k c hu hle
  simp [ex, this]
end
end Go.Sx
