/- Regions: in the text's order; and in whatever order, where every two operations that touch one place are ordered. -/
import Derived.Test.YtijnfclocanhkaaDoorSy6
set_option linter.unusedVariables false
set_option linter.unusedSimpArgs false
namespace Go.Sx
open Go Go.RowKit

section
variable {P : Program} {v : Env} {s s' : Sig} {o : Oper}

/-! ### places -/
inductive Loc where
  | t (n : Nat)
  | m (n : Nat)
  deriving DecidableEq, Repr, Inhabited

def same (s s' : Sig) : Loc → Prop
  | .t n => s.fr n = s'.fr n
  | .m n => s.mem n = s'.mem n

def tmpsOf (l : List Operand) : List Loc := l.filterMap fun | .tmp t => some (.t t) | _ => none

def memL (s : Sig) (a : A) : List Loc :=
  match a with
  | .ptr m _ => [.m m]
  | .bptr m _ => [.m m]
  | .bsl m _ _ _ => [.m m]
  | .slc m _ _ _ => .m m :: (match s.mem m with | some b => b.cells.flatMap (fun c => match c with | .bsl y _ _ _ => [Loc.m y] | _ => []) | none => [])
  | _ => []

def memAV (s : Sig) (x : AV) : List Loc :=
  match x with
  | .one a => memL s a
  | .when _ _ a => memL s a
  | _ => []

def memOf (s : Sig) (o : Oper) : List Loc :=
  match o.op with
  | .load _ x => memAV s (s.ev x)
  | .store _ x _ => memAV s (s.ev x)
  | .call c => c.args.toList.flatMap fun x => memAV s (s.ev x)
  | _ => []

def guardT (ops : Array Oper) (o : Oper) : List Loc :=
  match o.guard with
  | none => []
  | some (j, _) => match (ops[j]?).bind (·.dst) with | some t => [.t t] | none => []

def readsOf (s : Sig) (ops : Array Oper) (x0 : Nat) (o : Oper) : List Loc := .m x0 :: guardT ops o ++ tmpsOf o.op.operands.toList ++ memOf s o

def writesOf (o : Oper) (out : Out) : List Loc := (match o.dst with | some d => [.t d] | none => []) ++ out.mems.map fun xb => .m xb.1

theorem ev_same (hg : s.gl = s'.gl) {l : List Operand} (h : ∀ q ∈ tmpsOf l, same s s' q) {x : Operand} (hx : x ∈ l) : s.ev x = s'.ev x := by
  cases x with
  | tmp t => exact h (.t t) (List.mem_filterMap.2 ⟨.tmp t, hx, rfl⟩)
  | const u => rfl
  | global g => simp only [Sig.ev, hg]
  | func f => rfl

theorem argsA_same : ∀ {l : List Operand}, (∀ x ∈ l, s.ev x = s'.ev x) → argsA s l = argsA s' l
  | [], _ => rfl
  | x :: l, h => by
    simp only [argsA, h x (by simp), argsA_same (l := l) fun y hy => h y (by simp [hy])]

theorem partsA_same : ∀ {l : List (Nat × Operand)}, (∀ x ∈ l, s.ev x.2 = s'.ev x.2) → partsA s l = partsA s' l
  | [], _ => rfl
  | (i, x) :: l, h => by
    simp only [partsA, h (i, x) (by simp), partsA_same (l := l) fun y hy => h y (by simp [hy])]

theorem loads_same {t : TypeId} {x : Operand} (hx : s.ev x = s'.ev x) (hm : ∀ q ∈ memAV s (s.ev x), same s s' q) (nv : Nat) (ora : List (Option Bool)) : coreLoad P s nv ora t x = coreLoad P s' nv ora t x := by
  unfold coreLoad
  rw [← hx]
  have key : ∀ a m, s.ev x = .one a → (Loc.m m) ∈ memL s a → s.mem m = s'.mem m := fun a m he hmem => hm (.m m) (by rw [he]; exact hmem)
  cases he : s.ev x with
  | one a =>
    cases a with
    | ptr m off => simp only [show s.mem m = s'.mem m from key _ m he (by simp [memL])]
    | bptr m i => simp only [show s.mem m = s'.mem m from key _ m he (by simp [memL])]
    | _ => rfl
  | _ => rfl

theorem stores_same {t : TypeId} {x y : Operand} (hx : s.ev x = s'.ev x) (hy : s.ev y = s'.ev y) (hm : ∀ q ∈ memAV s (s.ev x), same s s' q) (nv : Nat) (ora : List (Option Bool)) : coreStore P s nv ora t x y = coreStore P s' nv ora t x y := by
  unfold coreStore
  rw [← hx, ← hy]
  have key : ∀ a m, s.ev x = .one a → (Loc.m m) ∈ memL s a → s.mem m = s'.mem m := fun a m he hmem => hm (.m m) (by rw [he]; exact hmem)
  cases he : s.ev x with
  | one a =>
    cases s.ev y with
    | one z =>
      cases a with
      | ptr m off => simp only [show s.mem m = s'.mem m from key _ m he (by simp [memL])]
      | bptr m i => simp only [show s.mem m = s'.mem m from key _ m he (by simp [memL])]
      | _ => rfl
    | _ => cases a <;> rfl
  | _ => rfl

theorem bound_same {d : I} {x : Option Operand} (h : ∀ y, x = some y → s.ev y = s'.ev y) : boundA s d x = boundA s' d x := by
  cases x with
  | none => rfl
  | some y => simp only [boundA, h y rfl]

theorem slices_same {t : TypeId} {x : Operand} {lo hi : Option Operand} (hx : s.ev x = s'.ev x) (hl : ∀ y, lo = some y → s.ev y = s'.ev y) (hh : ∀ y, hi = some y → s.ev y = s'.ev y) (nv : Nat) (ora : List (Option Bool)) : coreSlice P s nv ora t x lo hi = coreSlice P s' nv ora t x lo hi := by
  unfold coreSlice
  rw [← hx]
  simp only [bound_same (s := s) (s' := s') hl, bound_same (s := s) (s' := s') hh]

theorem readA_same {k : IntKind} {a : A} (hm : ∀ q ∈ memL s a, same s s' q) : readA s k a = readA s' k a := by
  unfold readA
  cases a with
  | bsl y off len full => simp only [show s.mem y = s'.mem y from hm (.m y) (by simp [memL])]
  | _ => rfl

theorem partsL_same : ∀ {l : List A}, (∀ y off len full, A.bsl y off len full ∈ l → s.mem y = s'.mem y) → partsL s l = partsL s' l
  | [], _ => rfl
  | a :: l, h => by
    have ha : readA s .u8 a = readA s' .u8 a := by
      unfold readA
      cases a with
      | bsl y off len full => simp only [h y off len full (by simp)]
      | _ => rfl
    simp only [partsL, ha, partsL_same (l := l) fun y off len full hy => h y off len full (by simp [hy])]

theorem argE_same {t : TypeId} {a : A} (hm : ∀ q ∈ memL s a, same s s' q) : argE P s t a = argE P s' t a := by
  unfold argE
  rw [readA_same hm]
  cases P.underlying t with
  | none => rfl
  | some d =>
    cases d with
    | slice e =>
      simp only
      cases P.underlying e with
      | none => rfl
      | some d' =>
        cases d' with
        | slice e' =>
          simp only
          cases a with
          | slc x off n cap =>
            have hx : s.mem x = s'.mem x := hm (.m x) (by simp [memL])
            have hp : ∀ b, s.mem x = some b → partsL s b.cells = partsL s' b.cells := by
              intro b hb
              refine partsL_same fun y o l f hy => hm (.m y) ?_
              simp only [memL, hb, List.mem_cons]
              refine .inr (List.mem_flatMap.2 ⟨_, hy, ?_⟩)
              simp
            cases cap with
            | some c => rfl
            | none =>
              cases hb : s.mem x with
              | none => rw [hb] at hx; simp only [← hx, hb]
              | some b => rw [hb] at hx; simp only [← hx, hb, hp b hb]
          | _ => rfl
        | int kk => cases kk <;> rfl
        | _ => rfl
    | _ => rfl

theorem argsE_same : ∀ {l : List Operand} {ts : List TypeId}, (∀ x ∈ l, s.ev x = s'.ev x ∧ ∀ q ∈ memAV s (s.ev x), same s s' q) → argsE P s l ts = argsE P s' l ts
  | [], [], _ => rfl
  | x :: l, t :: ts, h => by
    obtain ⟨h1, h2⟩ := h x (by simp)
    have ih := argsE_same (l := l) (ts := ts) fun y hy => h y (by simp [hy])
    simp only [argsE]
    rw [← h1, ih]
    cases he : s.ev x with
    | one a => simp only [argE_same (P := P) (t := t) (a := a) fun q hq => h2 q (by rw [he]; exact hq)]
    | _ => rfl
  | [], _ :: _, _ => rfl
  | _ :: _, [], _ => rfl

theorem callsS_same {c : Call} {f : FuncId} {fn : Func} (h : ∀ x ∈ c.args.toList, s.ev x = s'.ev x ∧ ∀ q ∈ memAV s (s.ev x), same s s' q) (x0 nv : Nat) (ora : List (Option Bool)) : coreCallS P s x0 nv ora c f fn = coreCallS P s' x0 nv ora c f fn := by
  have ha := argsE_same (P := P) (ts := fn.params.toList) h
  unfold coreCallS
  split
  · rename_i x _ hargs
    obtain ⟨h1, h2⟩ := h x (by rw [hargs]; simp)
    rw [← h1]
    cases he : s.ev x with
    | one a =>
      cases a with
      | bsl m off len full =>
        cases full with
        | true => simp only [show s.mem m = s'.mem m from h2 (.m m) (by rw [he]; simp [memAV, memL])]
        | false => rfl
      | _ => rfl
    | _ => rfl
  · rw [ha]

theorem appends_same {c : Call} (h : ∀ x ∈ c.args.toList, s.ev x = s'.ev x ∧ ∀ q ∈ memAV s (s.ev x), same s s' q) (x0 nv : Nat) (ora : List (Option Bool)) : coreAppend P s x0 nv ora c = coreAppend P s' x0 nv ora c := by
  unfold coreAppend
  split
  · rename_i x y t t' hargs _
    obtain ⟨h1, h2⟩ := h x (by rw [hargs]; simp)
    obtain ⟨h3, h4⟩ := h y (by rw [hargs]; simp)
    rw [← h1, ← h3]
    cases P.underlying t with
    | none => rfl
    | some d =>
      cases d with
      | slice e =>
        cases hx : s.ev x with
        | one a =>
          cases hy : s.ev y with
          | one b =>
            have hr : ∀ k, readA s k b = readA s' k b := fun k => readA_same fun q hq => h4 q (by rw [hy]; exact hq)
            have happ : ∀ k e news, appA s x0 k e a news = appA s' x0 k e a news := by
              intro k e news
              unfold appA
              cases a with
              | bsl m off len full =>
                cases full with
                | true => simp only [show s.mem m = s'.mem m from h2 (.m m) (by rw [hx]; simp [memAV, memL])]
                | false => rfl
              | _ => rfl
            simp only [hr, happ]
          | _ => rfl
        | _ => rfl
      | _ => rfl
  · rfl

theorem core_same (hg : s.gl = s'.gl) (hn : s.n = s'.n) (h : ∀ q ∈ tmpsOf o.op.operands.toList ++ memOf s o, same s s' q) (x0 nv : Nat) (ora : List (Option Bool)) : core P s x0 nv ora o = core P s' x0 nv ora o := by
  have ht : ∀ x ∈ o.op.operands.toList, s.ev x = s'.ev x := fun x hx => ev_same hg (fun q hq => h q (by simp [hq])) hx
  have hd : dstOk s o = dstOk s' o := by unfold dstOk; rw [hn]
  unfold core
  rw [hd]
  cases dstOk s' o with
  | false => rfl
  | true =>
    simp only
    cases ho : o.op <;> simp only [ho, Op.operands] at ht <;> first | rfl | (try simp only)
    case move x => rw [ht x (by simp)]
    case assign x => rw [ht x (by simp)]
    case pick c x y => rw [ht c (by simp), ht x (by simp), ht y (by simp)]
    case box t x => rw [ht x (by simp)]
    case load t x => exact loads_same (ht x (by simp)) (fun q hq => h q (by simp [memOf, ho, hq])) nv ora
    case store t x y => exact stores_same (ht x (by simp)) (ht y (by simp)) (fun q hq => h q (by simp [memOf, ho, hq])) nv ora
    case binOp op t x y yt => rw [ht x (by simp), ht y (by simp)]
    case unOp op t x => rw [ht x (by simp)]
    case convert a b x => rw [ht x (by simp)]
    case extract x i => rw [ht x (by simp)]
    case nilCheck x => rw [ht x (by simp)]
    case indexAddr t x i => unfold coreIndex; rw [ht x (by simp), ht i (by simp)]
    case index t x i => rw [ht x (by simp), ht i (by simp)]
    case fieldAddr t x i => rw [ht x (by simp)]
    case field t x i => rw [ht x (by simp)]
    case sliceToArrayPointer t x => rw [ht x (by simp)]
    case makeSlice t x y => unfold coreMake; rw [ht x (by simp), ht y (by simp)]
    case slice t x lo hi mx =>
      cases mx with
      | some z => rfl
      | none => exact slices_same (ht x (by simp)) (fun y hy => ht y (by subst hy; simp)) (fun y hy => ht y (by subst hy; simp)) nv ora
    case build t parts =>
      have : partsA s parts.toList = partsA s' parts.toList := partsA_same fun x hx => ht x.2 (by simp; exact ⟨x.1, by simpa using hx⟩)
      rw [this]
    case buildSlice t len parts =>
      have : partsA s parts.toList = partsA s' parts.toList := partsA_same fun x hx => ht x.2 (by simp; exact ⟨x.1, by simpa using hx⟩)
      unfold coreBuildS
      rw [this]
    case makeFunc f first captured =>
      cases f with
      | func f =>
        simp only
        cases h1 : first.toList with
        | nil => rfl
        | cons x l =>
          cases l with
          | nil =>
            have : s.ev x = s'.ev x := ht x (by rw [Array.toList_append, h1]; simp)
            cases captured.toList with
            | nil => simp only [this]
            | cons y l => rfl
          | cons y l => rfl
      | _ => rfl
    case call c =>
      have hargs : ∀ x ∈ c.args.toList, s.ev x = s'.ev x := fun x hx => ht x (by simp [Call.operands]; exact .inr (by simpa using hx))
      have hargs2 : ∀ x ∈ c.args.toList, s.ev x = s'.ev x ∧ ∀ q ∈ memAV s (s.ev x), same s s' q := fun x hx => ⟨hargs x hx, fun q hq => h q (by
        rw [List.mem_append]; right
        simp only [memOf, ho]
        exact List.mem_flatMap.2 ⟨x, hx, hq⟩)⟩
      rw [argsA_same hargs]
      cases hcal : c.callee with
      | builtin b =>
        cases b <;> first | rfl | skip
        case append => exact appends_same hargs2 x0 nv ora
        all_goals
          simp only
          cases hop : c.argTypes[0]? with
          | none =>
            cases hc : c.args.toList with
            | nil => rfl
            | cons x l => cases l <;> rfl
          | some t =>
            cases hc : c.args.toList with
            | nil => rfl
            | cons x l =>
              cases l with
              | nil => simp only [hargs x (by simp [hc])]
              | cons y l => rfl
      | value f =>
        cases f with
        | func g => simp only [callsS_same hargs2]
        | tmp g =>
          have hg : s.ev (.tmp g) = s'.ev (.tmp g) := ht (.tmp g) (by simp [Call.operands, hcal])
          have hg' : s.fr g = s'.fr g := hg
          simp only [hg']
        | _ => rfl
      | invoke r m => rfl

theorem given_ev (b : Bx) (want : Bool) (x : Operand) : (s.given b want).ev x = (s.ev x).given b want := by
  cases x with
  | tmp t => rfl
  | const u => simp only [Sig.ev]; cases aOf u <;> rfl
  | global g => simp only [Sig.ev, Sig.given]; cases s.gl g <;> rfl
  | func f => rfl

theorem memAV_given (b : Bx) (want : Bool) (x : AV) : ∀ q ∈ memAV (s.given b want) (x.given b want), q ∈ memAV s x := by
  intro q hq
  unfold AV.given at hq
  split at hq
  · split at hq
    · exact hq
    · exact hq
  · exact hq

theorem memOf_given (b : Bx) (want : Bool) (o : Oper) : ∀ q ∈ memOf (s.given b want) o, q ∈ memOf s o := by
  intro q hq
  unfold memOf at *
  split at hq
  · rw [given_ev] at hq; exact memAV_given _ _ _ q hq
  · rw [given_ev] at hq; exact memAV_given _ _ _ q hq
  · obtain ⟨x, hx, hq⟩ := List.mem_flatMap.1 hq
    rw [given_ev] at hq
    exact List.mem_flatMap.2 ⟨x, hx, memAV_given _ _ _ q hq⟩
  · exact hq

theorem stepO_same {ops : Array Oper} (hg : s.gl = s'.gl) (hn : s.n = s'.n) {x0 : Nat} (h : ∀ q ∈ readsOf s ops x0 o, same s s' q) (nv : Nat) (ora : List (Option Bool)) : stepO P s x0 nv ora ops o = stepO P s' x0 nv ora ops o := by
  have hgd : guardOf s ops o = guardOf s' ops o := by
    unfold guardOf
    cases hgo : o.guard with
    | none => rfl
    | some jw =>
      obtain ⟨j, want⟩ := jw
      simp only
      cases hj : (ops[j]?).bind (·.dst) with
      | none => rfl
      | some t =>
        have : s.fr t = s'.fr t := h (.t t) (by simp [readsOf, guardT, hgo, hj])
        simp only [this]
  have hd : dstOk s o = dstOk s' o := by unfold dstOk; rw [hn]
  have hgiven : ∀ b want, core P (s.given b want) x0 nv [] o = core P (s'.given b want) x0 nv [] o := by
    intro b want
    refine core_same (s := s.given b want) (s' := s'.given b want) hg hn (fun q hq => ?_) x0 nv []
    have hq' : same s s' q := by
      rw [List.mem_append] at hq
      rcases hq with hq | hq
      · exact h q (by simp [readsOf, hq])
      · exact h q (by simp [readsOf, memOf_given b want o q hq])
    cases q with
    | t n => exact congrArg (AV.given b want) hq'
    | m n => exact hq'
  unfold stepO
  rw [hgd, hd, core_same hg hn (fun q hq => h q (by rw [List.mem_append] at hq; rcases hq with hq | hq <;> simp [readsOf, hq]))]
  simp only [hgiven]

/-! ### what an update does to a place -/
theorem foldl_setM_fr (l : List (Nat × Blk)) : ∀ s : Sig, (l.foldl (fun s xb => s.setM xb.1 xb.2) s).fr = s.fr := by
  induction l with
  | nil => intro s; rfl
  | cons x l ih => intro s; rw [List.foldl_cons, ih]; rfl
theorem foldl_setM_n (l : List (Nat × Blk)) : ∀ s : Sig, (l.foldl (fun s xb => s.setM xb.1 xb.2) s).n = s.n := by
  induction l with
  | nil => intro s; rfl
  | cons x l ih => intro s; rw [List.foldl_cons, ih]; rfl
theorem foldl_setM_gl (l : List (Nat × Blk)) : ∀ s : Sig, (l.foldl (fun s xb => s.setM xb.1 xb.2) s).gl = s.gl := by
  induction l with
  | nil => intro s; rfl
  | cons x l ih => intro s; rw [List.foldl_cons, ih]; rfl
theorem foldl_setM_not (l : List (Nat × Blk)) (m : Nat) : ∀ s : Sig, (∀ xb ∈ l, xb.1 ≠ m) → (l.foldl (fun s xb => s.setM xb.1 xb.2) s).mem m = s.mem m := by
  induction l with
  | nil => intro s _; rfl
  | cons x l ih =>
    intro s h
    rw [List.foldl_cons, ih _ fun xb hx => h xb (by simp [hx])]
    simp [Sig.setM, Ne.symm (h x (by simp))]
theorem foldl_setM_in (l : List (Nat × Blk)) (m : Nat) : ∀ s s' : Sig, (s.mem m = s'.mem m ∨ ∃ xb ∈ l, xb.1 = m) → (l.foldl (fun s xb => s.setM xb.1 xb.2) s).mem m = (l.foldl (fun s xb => s.setM xb.1 xb.2) s').mem m := by
  induction l with
  | nil => intro s s' h; rcases h with h | ⟨_, h, _⟩; exact h; cases h
  | cons x l ih =>
    intro s s' h
    rw [List.foldl_cons, List.foldl_cons]
    refine ih _ _ ?_
    by_cases e : x.1 = m
    · left; simp [Sig.setM, e]
    · rcases h with h | ⟨xb, hx, he⟩
      · left; simp [Sig.setM, Ne.symm e, h]
      · rcases List.mem_cons.1 hx with rfl | hx
        · exact absurd he e
        · exact .inr ⟨xb, hx, he⟩

theorem put_mem (s : Sig) (dst : Option Nat) (x : AV) : (s.put dst x).mem = s.mem := by cases dst <;> rfl
theorem put_n (s : Sig) (dst : Option Nat) (x : AV) : (s.put dst x).n = s.n := by cases dst <;> rfl
theorem put_gl (s : Sig) (dst : Option Nat) (x : AV) : (s.put dst x).gl = s.gl := by cases dst <;> rfl

theorem after_n (s : Sig) (dst : Option Nat) (out : Out) : (s.after dst out).n = s.n := by unfold Sig.after; rw [put_n, foldl_setM_n]
theorem after_gl (s : Sig) (dst : Option Nat) (out : Out) : (s.after dst out).gl = s.gl := by unfold Sig.after; rw [put_gl, foldl_setM_gl]

theorem after_not {out : Out} {q : Loc} (h : q ∉ writesOf o out) (s : Sig) : same (s.after o.dst out) s q := by
  cases q with
  | t n =>
    show (s.after o.dst out).fr n = s.fr n
    unfold Sig.after
    cases hd : o.dst with
    | none => simp only [Sig.put, foldl_setM_fr]
    | some d =>
      have : n ≠ d := by rintro rfl; exact h (by simp [writesOf, hd])
      simp only [Sig.put, if_neg this, foldl_setM_fr]
  | m n =>
    show (s.after o.dst out).mem n = s.mem n
    unfold Sig.after
    rw [put_mem]
    exact foldl_setM_not _ _ _ fun xb hx e => h (List.mem_append.2 (.inr (List.mem_map.2 ⟨xb, hx, by rw [e]⟩)))

theorem after_in {out : Out} {q : Loc} (h : q ∈ writesOf o out) (s s' : Sig) : same (s.after o.dst out) (s'.after o.dst out) q := by
  cases q with
  | t n =>
    show (s.after o.dst out).fr n = (s'.after o.dst out).fr n
    unfold Sig.after
    simp only [writesOf, List.mem_append, List.mem_map, reduceCtorEq, and_false, exists_false, or_false] at h
    cases hd : o.dst with
    | none => simp [hd] at h
    | some d =>
      simp only [hd, List.mem_singleton, Loc.t.injEq] at h
      simp only [Sig.put, h, if_true]
  | m n =>
    show (s.after o.dst out).mem n = (s'.after o.dst out).mem n
    unfold Sig.after
    rw [put_mem, put_mem]
    refine foldl_setM_in _ _ _ _ (.inr ?_)
    simp only [writesOf, List.mem_append, List.mem_map, Loc.m.injEq] at h
    rcases h with h | ⟨xb, hx, e⟩
    · cases hd : o.dst <;> simp [hd] at h
    · exact ⟨xb, hx, e⟩

theorem same.trans {a b c : Sig} {q : Loc} (h : same a b q) (k : same b c q) : same a c q := by
  cases q
  · exact Eq.trans (show a.fr _ = b.fr _ from h) k
  · exact Eq.trans (show a.mem _ = b.mem _ from h) k
theorem same.symm {a b : Sig} {q : Loc} (h : same a b q) : same b a q := by
  cases q
  · exact Eq.symm (show a.fr _ = b.fr _ from h)
  · exact Eq.symm (show a.mem _ = b.mem _ from h)
theorem same.refl (a : Sig) (q : Loc) : same a a q := by cases q <;> rfl
theorem sig_ext {a b : Sig} (h : ∀ q, same a b q) (hn : a.n = b.n) (hg : a.gl = b.gl) : a = b := by
  cases a with
  | mk f m n g =>
    cases b with
    | mk f' m' n' g' =>
      simp only at hn hg
      subst hn hg
      have hf : f = f' := funext fun t => h (.t t)
      have hm : m = m' := funext fun t => h (.m t)
      rw [hf, hm]

/-! ### the updates of a set of operations, in the text's order -/
section any
variable (ops : Array Oper) (outs : Nat → Out) (s0 : Sig)

def upd1 (i : Nat) (s : Sig) : Sig := match ops[i]? with | some o => s.after o.dst (outs i) | none => s

def upds (L : Nat → Bool) (n : Nat) : Sig := (List.range n).foldl (fun s i => if L i then upd1 ops outs i s else s) s0

theorem upds_succ (L : Nat → Bool) (n : Nat) : upds ops outs s0 L (n + 1) = if L n then upd1 ops outs n (upds ops outs s0 L n) else upds ops outs s0 L n := by
  unfold upds
  rw [List.range_succ, List.foldl_append]
  rfl

def writes (i : Nat) : List Loc := match ops[i]? with | some o => writesOf o (outs i) | none => []

theorem upd1_not {i : Nat} {q : Loc} (h : q ∉ writes ops outs i) (s : Sig) : same (upd1 ops outs i s) s q := by
  unfold upd1
  unfold writes at h
  cases ho : ops[i]? with
  | none => exact same.refl _ _
  | some o => rw [ho] at h; exact after_not h s
theorem upd1_in {i : Nat} {q : Loc} (h : q ∈ writes ops outs i) (s s' : Sig) : same (upd1 ops outs i s) (upd1 ops outs i s') q := by
  unfold upd1
  unfold writes at h
  cases ho : ops[i]? with
  | none => rw [ho] at h; cases h
  | some o => rw [ho] at h; exact after_in h s s'
theorem upd1_same {i : Nat} {q : Loc} {s s' : Sig} (h : same s s' q) : same (upd1 ops outs i s) (upd1 ops outs i s') q := by
  by_cases hq : q ∈ writes ops outs i
  · exact upd1_in ops outs hq s s'
  · exact ((upd1_not ops outs hq s).trans h).trans (upd1_not ops outs hq s').symm
theorem upd1_n (i : Nat) (s : Sig) : (upd1 ops outs i s).n = s.n := by
  unfold upd1
  split
  · exact after_n _ _ _
  · rfl
theorem upd1_gl (i : Nat) (s : Sig) : (upd1 ops outs i s).gl = s.gl := by
  unfold upd1
  split
  · exact after_gl _ _ _
  · rfl
theorem upds_n (L : Nat → Bool) : ∀ n, (upds ops outs s0 L n).n = s0.n
  | 0 => rfl
  | n + 1 => by rw [upds_succ]; split <;> simp only [upd1_n, upds_n L n]
theorem upds_gl (L : Nat → Bool) : ∀ n, (upds ops outs s0 L n).gl = s0.gl
  | 0 => rfl
  | n + 1 => by rw [upds_succ]; split <;> simp only [upd1_gl, upds_gl L n]

theorem upds_same {L M : Nat → Bool} {q : Loc} : ∀ n, (∀ j, j < n → q ∈ writes ops outs j → L j = M j) → same (upds ops outs s0 L n) (upds ops outs s0 M n) q
  | 0, _ => same.refl _ _
  | n + 1, h => by
    have ih := upds_same n fun j hj => h j (by omega)
    rw [upds_succ, upds_succ]
    by_cases hq : q ∈ writes ops outs n
    · rw [h n (by omega) hq]
      split
      · exact upd1_in ops outs hq _ _
      · exact ih
    · split
      · split
        · exact upd1_same ops outs ih
        · exact (upd1_not ops outs hq _).trans ih
      · split
        · exact ih.trans (upd1_not ops outs hq _).symm
        · exact ih

/-- up to n, then no more -/
theorem upds_cut (L : Nat → Bool) (n : Nat) : ∀ m, upds ops outs s0 (fun j => L j && decide (j < n)) (n + m) = upds ops outs s0 L n
  | 0 => by
    have : ∀ k, k ≤ n → upds ops outs s0 (fun j => L j && decide (j < n)) k = upds ops outs s0 L k := by
      intro k hk
      induction k with
      | zero => rfl
      | succ k ih => rw [upds_succ, upds_succ, ih (by omega)]; simp [show k < n by omega]
    exact this n (Nat.le_refl _)
  | m + 1 => by
    have hf : decide (n + m < n) = false := by simp
    rw [show n + (m + 1) = (n + m) + 1 by omega, upds_succ, upds_cut L n m]
    simp [hf]

end any

/-! ### any order -/
structure Fits (P : Program) (v : Env) (ops : Array Oper) (s0 : Sig) (outs : Nat → Out) (anc : Nat → Nat → Bool) : Prop where
  step : ∀ i o, ops[i]? = some o → ∃ x0 nv ora, stepO P (upds ops outs s0 (fun _ => true) i) x0 nv ora ops o = some (outs i) ∧ (∀ e ∈ (outs i).ev, e.holds P v) ∧ (upds ops outs s0 (fun _ => true) i).mem x0 = none ∧
    (∀ j oj, ops[j]? = some oj → j ≠ i → (∃ q ∈ writes ops outs j, q ∈ readsOf (upds ops outs s0 (fun _ => true) i) ops x0 o ∨ q ∈ writes ops outs i) → (j < i → anc i j = true) ∧ (i < j → anc j i = true))
  back : ∀ i o, ops[i]? = some o → ∀ e ∈ o.after, Region.binds .any e = true → e.on < i
  anc : ∀ i o, ops[i]? = some o → ∀ j, anc i j = true → ∃ e ∈ o.after, Region.binds .any e = true ∧ (e.on = j ∨ anc e.on j = true)

def lst (listed : Array Bool) (i : Nat) : Bool := listed.getD i false

structure Down (ops : Array Oper) (listed : Array Bool) : Prop where
  size : listed.size = ops.size
  down : ∀ i o, ops[i]? = some o → lst listed i = true → ∀ e ∈ o.after, Region.binds .any e = true → lst listed e.on = true

theorem Down.anc {ops : Array Oper} {outs : Nat → Out} {s0 : Sig} {anc : Nat → Nat → Bool} (hf : Fits P v ops s0 outs anc) {listed : Array Bool} (hd : Down ops listed) : ∀ (n i : Nat), i < n → ∀ o, ops[i]? = some o → (∀ e ∈ o.after, Region.binds .any e = true → lst listed e.on = true) → ∀ j, anc i j = true → lst listed j = true
  | 0, i, hi, _, _, _, _, _ => by omega
  | n + 1, i, hi, o, ho, hall, j, ha => by
    obtain ⟨e, he, hb, hj⟩ := hf.anc i o ho j ha
    have hl := hall e he hb
    rcases hj with rfl | hj
    · exact hl
    · have hlt := hf.back i o ho e he hb
      have hsz : e.on < ops.size := by
        have : i < ops.size := (Array.getElem?_eq_some_iff.1 ho).1
        omega
      exact Down.anc hf hd n e.on (by omega) _ (Array.getElem?_eq_getElem hsz) (hd.down e.on _ (Array.getElem?_eq_getElem hsz) hl) j hj

theorem lst_set {listed : Array Bool} {i : Nat} (hi : i < listed.size) (j : Nat) : lst (listed.setIfInBounds i true) j = (decide (j = i) || lst listed j) := by
  unfold lst
  by_cases e : j = i
  · subst e; simp [hi]
  · simp [e, Array.getElem?_setIfInBounds_ne (Ne.symm e)]

theorem any_order {ops : Array Oper} {outs : Nat → Out} {s0 : Sig} {anc : Nat → Nat → Bool} (hf : Fits P v ops s0 outs anc) {Q : Exit → Act → World → Prop}
    (hQ : ∀ a w p, RelP v (upds ops outs s0 (fun _ => true) ops.size) a w p → Q .normal a w) :
    ∀ (fuel : Nat) (listed : Array Bool), Down ops listed → ((List.range ops.size).filter fun i => !lst listed i).length = fuel → ∀ a w p, RelP v (upds ops outs s0 (lst listed) ops.size) a w p → wpAny P .any ops Q fuel listed a w := by
  have hall : ∀ listed : Array Bool, ((List.range ops.size).filter fun i => !lst listed i) = [] → upds ops outs s0 (lst listed) ops.size = upds ops outs s0 (fun _ => true) ops.size := by
    intro listed h
    refine sig_ext (fun q => upds_same ops outs s0 _ fun j hj _ => ?_) (by rw [upds_n, upds_n]) (by rw [upds_gl, upds_gl])
    have := List.filter_eq_nil_iff.1 h j (List.mem_range.2 hj)
    simpa using this
  intro fuel
  induction fuel with
  | zero =>
    intro listed hd hc a w p hr
    have hnil := List.eq_nil_of_length_eq_zero hc
    rw [hall listed hnil] at hr
    refine ⟨?_, hQ a w p hr⟩
    apply List.eq_nil_iff_forall_not_mem.2
    intro i hi
    obtain ⟨h1, o, ho, _⟩ := mem_ready.1 hi
    have hlt : i < ops.size := (Array.getElem?_eq_some_iff.1 ho).1
    have := List.filter_eq_nil_iff.1 hnil i (List.mem_range.2 hlt)
    have hl : lst listed i = true := by simpa using this
    unfold lst at hl
    have hlt' : i < listed.size := by rw [hd.size]; exact hlt
    simp [hlt'] at h1 hl
    rw [h1] at hl
    cases hl
  | succ fuel ih =>
    intro listed hd hc a w p hr
    refine ⟨fun hrn => ?_, fun i hi => ?_⟩
    · exfalso
      -- the first that is not listed is ready
      have hex : ∃ i, i < ops.size ∧ lst listed i = false := by
        cases hl : (List.range ops.size).filter fun i => !lst listed i with
        | nil => rw [hl] at hc; simp at hc
        | cons x l =>
          have hx : x ∈ (List.range ops.size).filter fun i => !lst listed i := by rw [hl]; simp
          obtain ⟨h1, h2⟩ := List.mem_filter.1 hx
          exact ⟨x, List.mem_range.1 h1, by simpa using h2⟩
      have hmin : ∀ n, (∃ i, i < n ∧ i < ops.size ∧ lst listed i = false) → ∃ i, i < ops.size ∧ lst listed i = false ∧ ∀ j, j < i → lst listed j = true := by
        intro n
        induction n with
        | zero => rintro ⟨i, h, _⟩; omega
        | succ n ihn =>
          rintro ⟨i, h1, h2, h3⟩
          by_cases hex' : ∃ i, i < n ∧ i < ops.size ∧ lst listed i = false
          · exact ihn hex'
          · refine ⟨i, h2, h3, fun j hj => ?_⟩
            cases hb : lst listed j with
            | true => rfl
            | false => exact absurd ⟨j, by omega, by omega, hb⟩ hex'
      obtain ⟨i, h1, h2⟩ := hex
      obtain ⟨m, hm1, hm2, hm3⟩ := hmin ops.size ⟨i, h1, h1, h2⟩
      have : m ∈ Region.ready .any ops listed := by
        rw [mem_ready]
        refine ⟨?_, _, Array.getElem?_eq_getElem hm1, fun e he hb => hm3 e.on (hf.back m _ (Array.getElem?_eq_getElem hm1) e he hb)⟩
        unfold lst at hm2
        have hlt' : m < listed.size := by rw [hd.size]; exact hm1
        simpa [hlt'] using hm2
      rw [hrn] at this
      cases this
    · obtain ⟨h1, o, ho, hready⟩ := mem_ready.1 hi
      have hlt : i < ops.size := (Array.getElem?_eq_some_iff.1 ho).1
      have hlt' : i < listed.size := by rw [hd.size]; exact hlt
      have hli : lst listed i = false := by unfold lst; simpa [hlt'] using h1
      obtain ⟨x0, nv, ora, hstep, hev, hx0, hconf⟩ := hf.step i o ho
      have hanc : ∀ j, anc i j = true → lst listed j = true := Down.anc hf hd (i + 1) i (Nat.lt_succ_self i) o ho hready
      have hnot : ∀ j oj, ops[j]? = some oj → anc j i = true → lst listed j = false := by
        intro j oj hoj ha
        cases hb : lst listed j with
        | false => rfl
        | true =>
          have := Down.anc hf hd (j + 1) j (Nat.lt_succ_self j) oj hoj (hd.down j oj hoj hb) i ha
          rw [hli] at this
          cases this
      have hwr : ∀ j q, q ∈ writes ops outs j → ∃ oj, ops[j]? = some oj := by
        intro j q hq
        unfold writes at hq
        cases hoj : ops[j]? with
        | none => rw [hoj] at hq; cases hq
        | some oj => exact ⟨oj, rfl⟩
      -- the state at hand agrees with the text's at what i reads
      have hreads : ∀ q ∈ readsOf (upds ops outs s0 (fun _ => true) i) ops x0 o, same (upds ops outs s0 (fun _ => true) i) (upds ops outs s0 (lst listed) ops.size) q := by
        intro q hq
        have hcut := upds_cut ops outs s0 (fun _ => true) i (ops.size - i)
        rw [show i + (ops.size - i) = ops.size by omega] at hcut
        rw [← hcut]
        refine upds_same ops outs s0 _ fun j hj hw => ?_
        obtain ⟨oj, hoj⟩ := hwr j q hw
        simp only [Bool.true_and]
        by_cases hji : j = i
        · subst hji; rw [hli]; simp
        · obtain ⟨c1, c2⟩ := hconf j oj hoj hji ⟨q, hw, .inl hq⟩
          by_cases hjl : j < i
          · rw [hanc j (c1 hjl)]; simpa using hjl
          · rw [hnot j oj hoj (c2 (by omega))]; simpa using hjl
      have hstep' : stepO P (upds ops outs s0 (lst listed) ops.size) x0 nv ora ops o = some (outs i) := by
        rw [← stepO_same (by rw [upds_gl, upds_gl]) (by rw [upds_n, upds_n]) hreads]
        exact hstep
      have hx0' : (upds ops outs s0 (lst listed) ops.size).mem x0 = none := by
        have := hreads (.m x0) (by simp [readsOf])
        rw [← show (upds ops outs s0 (fun _ => true) i).mem x0 = _ from this]
        exact hx0
      -- and its update is that of the greater set
      have hnew : (upds ops outs s0 (lst listed) ops.size).after o.dst (outs i) = upds ops outs s0 (lst (listed.setIfInBounds i true)) ops.size := by
        refine sig_ext (fun q => ?_) (by rw [after_n, upds_n, upds_n]) (by rw [after_gl, upds_gl, upds_gl])
        by_cases hq : q ∈ writes ops outs i
        · have hq' : q ∈ writesOf o (outs i) := by unfold writes at hq; rw [ho] at hq; exact hq
          have e1 : same (upds ops outs s0 (lst (listed.setIfInBounds i true)) ops.size) (upds ops outs s0 (fun j => lst (listed.setIfInBounds i true) j && decide (j < i + 1)) ops.size) q := by
            refine upds_same ops outs s0 _ fun j hj hw => ?_
            obtain ⟨oj, hoj⟩ := hwr j q hw
            by_cases hji : j = i
            · subst hji; simp
            · by_cases hjl : j < i
              · simp [show j < i + 1 by omega]
              · obtain ⟨c1, c2⟩ := hconf j oj hoj hji ⟨q, hw, .inr hq⟩
                rw [lst_set hlt']
                have := hnot j oj hoj (c2 (by omega))
                simp [this, hji]
          have e2 := upds_cut ops outs s0 (lst (listed.setIfInBounds i true)) (i + 1) (ops.size - (i + 1))
          rw [show i + 1 + (ops.size - (i + 1)) = ops.size by omega] at e2
          rw [e2, upds_succ, lst_set hlt'] at e1
          simp only [decide_true, Bool.true_or, if_true] at e1
          refine same.trans ?_ e1.symm
          unfold upd1
          rw [ho]
          exact after_in hq' _ _
        · have hq' : q ∉ writesOf o (outs i) := by unfold writes at hq; rw [ho] at hq; exact hq
          refine (after_not hq' _).trans ?_
          refine upds_same ops outs s0 _ fun j hj hw => ?_
          rw [lst_set hlt']
          have : j ≠ i := by rintro rfl; exact hq hw
          simp [this]
      have hd' : Down ops (listed.setIfInBounds i true) := by
        refine ⟨by simpa using hd.size, fun j oj hoj hl e he hb => ?_⟩
        rw [lst_set hlt'] at hl ⊢
        by_cases hji : j = i
        · subst hji
          rw [ho] at hoj
          cases hoj
          have := hready e he hb
          unfold lst
          simp [this]
        · have hl' : lst listed j = true := by simpa [hji] using hl
          rw [hd.down j oj hoj hl' e he hb]
          simp
      have hc' : ((List.range ops.size).filter fun j => !lst (listed.setIfInBounds i true) j).length = fuel := by
        have hperm : ((List.range ops.size).filter fun j => !lst (listed.setIfInBounds i true) j) = ((List.range ops.size).filter fun j => !lst listed j).erase i := by
          have hnd : ((List.range ops.size).filter fun j => !lst listed j).Nodup := List.Pairwise.filter _ List.nodup_range
          rw [hnd.erase_eq_filter, List.filter_filter]
          apply List.filter_congr
          intro j _
          rw [lst_set hlt']
          by_cases e : j = i <;> simp [e]
        rw [hperm, List.length_erase_of_mem (List.mem_filter.2 ⟨List.mem_range.2 hlt, by simp [hli]⟩), hc]
        rfl
      refine stepO_does ho hstep' hev hx0' hr fun a' w' q' hr' => ?_
      rw [hnew] at hr'
      exact ih _ hd' hc' a' w' q' hr'

end
end Go.Sx
