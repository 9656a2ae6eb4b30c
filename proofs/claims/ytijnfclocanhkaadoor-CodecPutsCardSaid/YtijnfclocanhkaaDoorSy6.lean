/- One symbolic step for every operation. -/
import Derived.Test.YtijnfclocanhkaaDoorSyV
set_option linter.unusedVariables false
set_option linter.unusedSimpArgs false
namespace Go.Sx
open Go Go.RowKit

section
variable {P : Program} {v : Env} {s s' : Sig} {o : Oper}

def dstOk (s : Sig) (o : Oper) : Bool := match o.dst with | some d => decide (d < s.n) | none => true

/-! ### loads and stores -/
def loadNum (P : Program) (t : TypeId) (i : I) (b : Blk) (nv : Nat) (ora : List (Option Bool)) : Option Out :=
  match b.dead, b.nums, isAggT P t with
  | false, some (k, l), some false => match ltEv i (mkLen l) with | some ev => some ⟨.one (.sc (.int k (mkGet l i))), [], ev, nv, ora⟩ | none => none
  | false, some (k, l), some true => match ((P.info? t).map (·.size) : Option Nat) with
    | some n => match leEv (mkSum i (.lit n)) (mkLen l) with | some ev => some ⟨.one (.agg (arrA k l i n)), [], ev, nv, ora⟩ | none => none
    | none => none
  | _, _, _ => none

theorem loadNum_does {t : TypeId} {x : Operand} {a : A} {m nv : Nat} {i : I} {b : Blk} {ora : List (Option Bool)} {out : Out} (h : loadNum P t i b nv ora = some out) (he : ∀ e ∈ out.ev, e.holds P v) (hd : ∀ d, o.dst = some d → d < s.n) (ho : o.op = .load t x) (hx : s.ev x = .one a)
    (hp : placeA a = some (m, i)) (hm : s.mem m = some b) : Does P v s o out := by
  unfold loadNum at h
  split at h
  · rename_i k l hb hn ha
    split at h
    · rename_i ev hev
      simp only [Option.some.injEq] at h; subst h
      exact does_load_num hd ho hx hp hm hb ha hn hev he _ _
    · cases h
  · rename_i k l hb hn ha
    split at h
    · rename_i n hi
      split at h
      · rename_i ev hev
        simp only [Option.some.injEq] at h; subst h
        exact does_load_arr hd ho hx hp hm hb ha hi hn hev he _ _
      · cases h
    · cases h
  · cases h

def coreLoad (P : Program) (s : Sig) (nv : Nat) (ora : List (Option Bool)) (t : TypeId) (x : Operand) : Option Out :=
  match s.ev x with
  | .one (.ptr m off) => match s.mem m with
    | some b => match b.row with
      | none => match b.dead, isAggT P t with
        | false, some false => match b.cells[off]? with | some y => some ⟨.one y, [], [], nv, ora⟩ | none => none
        | false, some true => match (P.info? t).map (·.size) with
          | some sz => match scs ((b.cells.drop off).take sz) with | some ss => if ss.length = sz then some ⟨.one (.agg ss), [], [], nv, ora⟩ else none | none => none
          | none => none
        | _, _ => none
      | some _ => loadNum P t (.lit off) b nv ora
    | none => none
  | .one (.bptr m i) => match s.mem m with
    | some b => loadNum P t i b nv ora
    | none => none
  | .one (.immp z) => match isAggT P t with | some false => some ⟨.one (.sc (.int .u8 z)), [], [], nv, ora⟩ | _ => none
  | .one (.immPp n i) => match isAggT P t with | some false => some ⟨.one (.imm (.item n i) none), [], [], nv, ora⟩ | _ => none
  | _ => none

theorem coreLoad_does {t : TypeId} {x : Operand} {nv : Nat} {ora : List (Option Bool)} {out : Out} (h : coreLoad P s nv ora t x = some out) (he : ∀ e ∈ out.ev, e.holds P v) (hd : ∀ d, o.dst = some d → d < s.n) (ho : o.op = .load t x) : Does P v s o out := by
  unfold coreLoad at h
  split at h
  · rename_i m off hxx
    split at h
    · rename_i b hm
      split at h
      · rename_i hw
        split at h
        · rename_i hb ha
          split at h
          · rename_i y hc
            simp only [Option.some.injEq] at h; subst h
            exact does_load_one hd ho hxx hm hb hw ha hc _ _
          · cases h
        · rename_i hb ha
          split at h
          · rename_i sz hi
            split at h
            · rename_i ss hss
              split at h
              · rename_i hl
                subst hl
                simp only [Option.some.injEq] at h; subst h
                exact does_load_agg hd ho hxx hm hb hw ha hi hss _ _
              · cases h
            · cases h
          · cases h
        · cases h
      · exact loadNum_does h he hd ho hxx rfl hm
    · cases h
  · rename_i m i hxx
    split at h
    · rename_i b hm
      exact loadNum_does h he hd ho hxx rfl hm
    · cases h
  · rename_i z hxx
    split at h
    · rename_i ha
      simp only [Option.some.injEq] at h; subst h
      exact does_load_imm hd ho hxx ha _ _
    · cases h
  · rename_i n i hxx
    split at h
    · rename_i ha
      simp only [Option.some.injEq] at h; subst h
      exact does_load_immP hd ho hxx ha _ _
    · cases h
  · cases h

def storeNum (P : Program) (t : TypeId) (m : Nat) (i : I) (b : Blk) (z : A) (nv : Nat) (ora : List (Option Bool)) : Option Out :=
  match z, b.nums with
  | .sc (.int k z), some (k', l) =>
    if b.dead = false ∧ b.own = true ∧ (P.info? t).map (·.size) = some 1 ∧ k' = k then
      match ltEv i (mkLen l) with
      | some ev => some ⟨.undef, [(m, { b with cells := [], row := some (k, mkSet l i z) })], ev, nv, ora⟩
      | none => none
    else none
  | _, _ => none

theorem storeNum_does {t : TypeId} {x y : Operand} {a z : A} {m nv : Nat} {i : I} {b : Blk} {ora : List (Option Bool)} {out : Out} (h : storeNum P t m i b z nv ora = some out) (he : ∀ e ∈ out.ev, e.holds P v) (hd : ∀ d, o.dst = some d → d < s.n) (ho : o.op = .store t x y) (hx : s.ev x = .one a)
    (hp : placeA a = some (m, i)) (hy : s.ev y = .one z) (hm : s.mem m = some b) : Does P v s o out := by
  unfold storeNum at h
  split at h
  · rename_i k z k' l hn
    split at h
    · rename_i hc
      obtain ⟨h1, h2, h3, rfl⟩ := hc
      split at h
      · rename_i ev hev
        simp only [Option.some.injEq] at h; subst h
        exact does_store_num hd ho hx hp hy hm h1 h2 h3 hn hev he _ _
      · cases h
    · cases h
  · cases h

def coreStore (P : Program) (s : Sig) (nv : Nat) (ora : List (Option Bool)) (t : TypeId) (x y : Operand) : Option Out :=
  match s.ev x, s.ev y with
  | .one (.ptr m off), .one z => match s.mem m with
    | some b => match b.row with
      | none => if b.dead = false ∧ b.own = true ∧ (P.info? t).map (·.size) = some z.cells.length ∧ off + z.cells.length ≤ b.cells.length then some ⟨.undef, [(m, { b with cells := putCells b.cells off z.cells })], [], nv, ora⟩ else none
      | some _ => storeNum P t m (.lit off) b z nv ora
    | none => none
  | .one (.bptr m i), .one z => match s.mem m with
    | some b => storeNum P t m i b z nv ora
    | none => none
  | _, _ => none

theorem coreStore_does {t : TypeId} {x y : Operand} {nv : Nat} {ora : List (Option Bool)} {out : Out} (h : coreStore P s nv ora t x y = some out) (he : ∀ e ∈ out.ev, e.holds P v) (hd : ∀ d, o.dst = some d → d < s.n) (ho : o.op = .store t x y) : Does P v s o out := by
  unfold coreStore at h
  split at h
  · rename_i m off z hxx hyy
    split at h
    · rename_i b hm
      split at h
      · rename_i hw
        split at h
        · rename_i hc
          obtain ⟨h1, h2, h3, h4⟩ := hc
          simp only [Option.some.injEq] at h; subst h
          exact does_store hd ho hxx hyy hm h1 hw h2 h3 h4 _ _
        · cases h
      · exact storeNum_does h he hd ho hxx rfl hyy hm
    · cases h
  · rename_i m i z hxx hyy
    split at h
    · rename_i b hm
      exact storeNum_does h he hd ho hxx rfl hyy hm
    · cases h
  · cases h

/-! ### addresses -/
def takeU : List (Option Bool) → Nat → Option (Nat × List (Option Bool))
  | some true :: r, n => takeU r (n + 1)
  | some false :: r, n => some (n, r)
  | _, _ => none

def idxEv (z n : I) : Option (List Ev) := match leEv (.lit 0) z, ltEv z n with | some a, some b => some (a ++ b) | _, _ => none
theorem idxEv_ok {z n : I} {ev : List Ev} (h : idxEv z n = some ev) : ∃ a b, leEv (.lit 0) z = some a ∧ ltEv z n = some b ∧ ev = a ++ b := by
  unfold idxEv at h
  split at h
  · rename_i a b h1 h2
    simp only [Option.some.injEq] at h
    exact ⟨a, b, h1, h2, h.symm⟩
  · cases h

def coreIndex (P : Program) (s : Sig) (nv : Nat) (ora : List (Option Bool)) (t : TypeId) (x i : Operand) : Option Out :=
  match s.ev x, s.ev i with
  | .one (.ptr m off), .one (.sc (.int _ (.lit j))) => match P.underlying t with
    | some (.array n e) => if (P.info? e).isSome = true ∧ 0 ≤ j ∧ j < n then some ⟨.one (.ptr m (off + j.toNat * P.cellsOf e)), [], [], nv, ora⟩ else none
    | _ => none
  | .one (.slc m off len _), .one (.sc (.int _ (.lit j))) => match P.underlying t with
    | some (.slice e) => if (P.info? e).isSome = true ∧ 0 ≤ j ∧ j < len then some ⟨.one (.ptr m (off + j.toNat * P.cellsOf e)), [], [], nv, ora⟩ else none
    | _ => none
  | .one (.ptr m off), .one (.sc (.int _ z)) => match P.underlying t with
    | some (.array n e) =>
      if (P.info? e).isSome = true ∧ P.cellsOf e = 1 then
        match idxEv z (.lit n) with | some ev => some ⟨.one (.bptr m (mkSum (.lit off) z)), [], ev, nv, ora⟩ | none => none
      else match takeU ora 0 with
        | some (j, r) => if (P.info? e).isSome = true ∧ j < n then some ⟨.one (.ptr m (off + j * P.cellsOf e)), [], [.dec (.cmp .eql z (.lit j)) true], nv, r⟩ else none
        | none => none
    | _ => none
  | .one (.bsl m off len _), .one (.sc (.int _ z)) => match P.underlying t with
    | some (.slice e) => if (P.info? e).isSome = true ∧ P.cellsOf e = 1 then (match idxEv z len with | some ev => some ⟨.one (.bptr m (mkSum off z)), [], ev, nv, ora⟩ | none => none) else none
    | _ => none
  | .one (.imm l _), .one (.sc (.int _ z)) => match P.underlying t with
    | some (.slice e) => if (P.info? e).isSome = true ∧ P.cellsOf e = 1 then (match idxEv z (mkLen l) with | some ev => some ⟨.one (.immp (mkGet l z)), [], ev, nv, ora⟩ | none => none) else none
    | _ => none
  | .one (.immP n), .one (.sc (.int _ z)) => match P.underlying t with
    | some (.slice e) => if (P.info? e).isSome = true ∧ P.cellsOf e = 1 then (match idxEv z (.plen n) with | some ev => some ⟨.one (.immPp n z), [], ev, nv, ora⟩ | none => none) else none
    | _ => none
  | _, _ => none

theorem does_indexAddr_pick {t e : TypeId} {x i : Operand} {m off n j : Nat} {k : IntKind} {z : I} (hd : ∀ d, o.dst = some d → d < s.n) (ho : o.op = .indexAddr t x i) (hx : s.ev x = .one (.ptr m off)) (hi : s.ev i = .one (.sc (.int k z)))
    (hu : P.underlying t = some (.array n e)) (hs : (P.info? e).isSome = true) (h1 : j < n) (he : ∀ e ∈ [Ev.dec (.cmp .eql z (.lit j)) true], e.holds P v) (nv ora) : Does P v s o ⟨.one (.ptr m (off + j * P.cellsOf e)), [], [.dec (.cmp .eql z (.lit j)) true], nv, ora⟩ := by
  have hz := he _ (List.mem_singleton.2 rfl)
  simp only [Ev.holds, Bx.den, cmpD, I.den, beq_iff_eq] at hz
  refine does_value hd fun a w p h => ?_
  have hxx := h.ev x
  rw [hx] at hxx
  obtain ⟨r, n', hp, ex⟩ := hxx
  have hii := h.ev i
  rw [hi] at hii
  have ei : a.eval i = .int k (j : Int) := by rw [← hz]; exact hii
  obtain ⟨ti, hti⟩ := Option.isSome_iff_exists.1 hs
  refine ⟨_, ?_, r, n', hp, rfl⟩
  unfold execOp
  rw [ho]
  simp [ex, ei, Instr.indexAt, asIntOf, run_underlying hu, Instr.sureAddr, h1, run_sizeOf w hti, Addr.add_mid]

theorem coreIndex_does {t : TypeId} {x i : Operand} {nv : Nat} {ora : List (Option Bool)} {out : Out} (h : coreIndex P s nv ora t x i = some out) (he : ∀ e ∈ out.ev, e.holds P v) (hd : ∀ d, o.dst = some d → d < s.n) (ho : o.op = .indexAddr t x i) : Does P v s o out := by
  unfold coreIndex at h
  split at h
  · rename_i m off k j hxx hii
    split at h
    · rename_i n e hu
      split at h
      · rename_i hc
        simp only [Option.some.injEq] at h; subst h
        exact does_indexAddr_array hd ho hxx hii hu hc.1 hc.2.1 hc.2.2 _ _
      · cases h
    · cases h
  · rename_i m off len cap k j hxx hii
    split at h
    · rename_i e hu
      split at h
      · rename_i hc
        simp only [Option.some.injEq] at h; subst h
        exact does_indexAddr_slice hd ho hxx hii hu hc.1 hc.2.1 hc.2.2 _ _
      · cases h
    · cases h
  · rename_i m off k z _ hxx hii
    split at h
    · rename_i n e hu
      split at h
      · rename_i hc
        split at h
        · rename_i ev hev
          simp only [Option.some.injEq] at h; subst h
          obtain ⟨a, b, h1, h2, h3⟩ := idxEv_ok hev
          exact does_indexAddr_sym hd ho hxx hii hu hc.1 hc.2 h1 h2 h3 he _ _
        · cases h
      · split at h
        · rename_i j r hj
          split at h
          · rename_i hc
            simp only [Option.some.injEq] at h; subst h
            exact does_indexAddr_pick hd ho hxx hii hu hc.1 hc.2 he _ _
          · cases h
        · cases h
    · cases h
  · rename_i m off len full k z hxx hii
    split at h
    · rename_i e hu
      split at h
      · rename_i hc
        split at h
        · rename_i ev hev
          simp only [Option.some.injEq] at h; subst h
          obtain ⟨a, b, h1, h2, h3⟩ := idxEv_ok hev
          exact does_indexAddr_bsl hd ho hxx hii hu hc.1 hc.2 h1 h2 h3 he _ _
        · cases h
      · cases h
    · cases h
  · rename_i l nl k z hxx hii
    split at h
    · rename_i e hu
      split at h
      · rename_i hc
        split at h
        · rename_i ev hev
          simp only [Option.some.injEq] at h; subst h
          obtain ⟨a, b, h1, h2, h3⟩ := idxEv_ok hev
          exact does_indexAddr_imm hd ho hxx hii hu hc.1 hc.2 h1 h2 h3 he _ _
        · cases h
      · cases h
    · cases h
  · rename_i n k z hxx hii
    split at h
    · rename_i e hu
      split at h
      · rename_i hc
        split at h
        · rename_i ev hev
          simp only [Option.some.injEq] at h; subst h
          obtain ⟨a, b, h1, h2, h3⟩ := idxEv_ok hev
          exact does_indexAddr_immP hd ho hxx hii hu hc.1 hc.2 h1 h2 h3 he _ _
        · cases h
      · cases h
    · cases h
  · cases h

/-! ### slices -/
def sliceEv (zl zh n : I) : Option (List Ev) := match leEv (.lit 0) zl, leEv zl zh, leEv zh n with | some a, some b, some c => some (a ++ b ++ c) | _, _, _ => none
theorem sliceEv_ok {zl zh n : I} {ev : List Ev} (h : sliceEv zl zh n = some ev) : ∃ a b c, leEv (.lit 0) zl = some a ∧ leEv zl zh = some b ∧ leEv zh n = some c ∧ ev = a ++ b ++ c := by
  unfold sliceEv at h
  split at h
  · rename_i a b c h1 h2 h3
    simp only [Option.some.injEq] at h
    exact ⟨a, b, c, h1, h2, h3, h.symm⟩
  · cases h

def coreSlice (P : Program) (s : Sig) (nv : Nat) (ora : List (Option Bool)) (t : TypeId) (x : Operand) (lo hi : Option Operand) : Option Out :=
  match s.ev x with
  | .one (.ptr m off) => match P.underlying t with
    | some (.array n e) => if (P.info? e).isSome = true ∧ P.cellsOf e = 1 ∧ n ≤ 16777216 then
        match boundA s (.lit 0) lo, boundA s (.lit n) hi with
        | some zl, some zh => match sliceEv zl zh (.lit n) with | some ev => some ⟨.one (.bsl m (mkSum (.lit off) zl) (mkDif zh zl) false), [], ev, nv, ora⟩ | none => none
        | _, _ => none
      else none
    | _ => none
  | .one (.bsl m off len full) => match P.underlying t with
    | some (.slice e) => if (P.info? e).isSome = true ∧ P.cellsOf e = 1 then
        match boundA s (.lit 0) lo, boundA s len hi with
        | some zl, some zh => match sliceEv zl zh len with | some ev => some ⟨.one (.bsl m (mkSum off zl) (mkDif zh zl) (full && decide (zl = .lit 0))), [], ev, nv, ora⟩ | none => none
        | _, _ => none
      else none
    | _ => none
  | .one (.imm l nl) => match P.underlying t with
    | some (.slice e) => if (P.info? e).isSome = true ∧ P.cellsOf e = 1 then
        match boundA s (.lit 0) lo, boundA s (mkLen l) hi with
        | some zl, some zh => match sliceEv zl zh (mkLen l) with | some ev => some ⟨.one (.imm (mkPart l zl (mkDif zh zl)) nl), [], ev, nv, ora⟩ | none => none
        | _, _ => none
      else none
    | _ => none
  | .one .nils => match P.underlying t with
    | some (.slice e) => if (P.info? e).isSome = true ∧ boundA s (.lit 0) lo = some (.lit 0) ∧ boundA s (.lit 0) hi = some (.lit 0) then some ⟨.one .nils, [], [], nv, ora⟩ else none
    | _ => none
  | _ => none

theorem coreSlice_does {t : TypeId} {x : Operand} {lo hi : Option Operand} {nv : Nat} {ora : List (Option Bool)} {out : Out} (h : coreSlice P s nv ora t x lo hi = some out) (he : ∀ e ∈ out.ev, e.holds P v) (hd : ∀ d, o.dst = some d → d < s.n) (ho : o.op = .slice t x lo hi none) : Does P v s o out := by
  unfold coreSlice at h
  split at h
  · rename_i m off hxx
    split at h
    · rename_i n e hu
      split at h
      · rename_i hc
        split at h
        · rename_i zl zh hl hh
          split at h
          · rename_i ev hev
            simp only [Option.some.injEq] at h; subst h
            obtain ⟨a, b, c, h1, h2, h3, h4⟩ := sliceEv_ok hev
            exact does_slice_arr hd ho hxx hu hc.1 hc.2.1 (Nat.le_trans hc.2.2 (by decide)) hl hh h1 h2 h3 h4 he _ _
          · cases h
        · cases h
      · cases h
    · cases h
  · rename_i m off len full hxx
    split at h
    · rename_i e hu
      split at h
      · rename_i hc
        split at h
        · rename_i zl zh hl hh
          split at h
          · rename_i ev hev
            simp only [Option.some.injEq] at h; subst h
            obtain ⟨a, b, c, h1, h2, h3, h4⟩ := sliceEv_ok hev
            exact does_slice_bsl hd ho hxx hu hc.1 hc.2 hl hh h1 h2 h3 h4 he _ _
          · cases h
        · cases h
      · cases h
    · cases h
  · rename_i l nl hxx
    split at h
    · rename_i e hu
      split at h
      · rename_i hc
        split at h
        · rename_i zl zh hl hh
          split at h
          · rename_i ev hev
            simp only [Option.some.injEq] at h; subst h
            obtain ⟨a, b, c, h1, h2, h3, h4⟩ := sliceEv_ok hev
            exact does_slice_imm hd ho hxx hu hc.1 hc.2 hl hh h1 h2 h3 h4 he _ _
          · cases h
        · cases h
      · cases h
    · cases h
  · rename_i hxx
    split at h
    · rename_i e hu
      split at h
      · rename_i hc
        simp only [Option.some.injEq] at h; subst h
        exact does_slice_nils hd ho hxx hu hc.1 hc.2.1 hc.2.2 _ _
      · cases h
    · cases h
  · cases h

/-! ### making -/
def smallB (P : Program) (e : TypeId) : Bool := match P.info? e with | some i => decide (i.bytes ≤ 8) | none => false
theorem smallB_ok {e : TypeId} (h : smallB P e = true) : ∀ i, P.info? e = some i → i.bytes ≤ 8 := by
  intro i hi
  unfold smallB at h
  rw [hi] at h
  exact of_decide_eq_true h

def coreMake (P : Program) (s : Sig) (x0 nv : Nat) (ora : List (Option Bool)) (t : TypeId) (x y : Operand) : Option Out :=
  match s.ev x, s.ev y, P.underlying t with
  | .one (.sc (.int _ (.lit a))), .one (.sc (.int _ (.lit b))), some (.slice e) => match zeroA P e with
    | some (.sc (.int k (.lit 0))) => if a = b ∧ 0 ≤ a ∧ a ≤ 16777216 ∧ P.cellsOf e = 1 ∧ smallB P e = true then some ⟨.one (.bsl x0 (.lit 0) (.lit a.toNat) true), [(x0, newRowB e k (mkRep (.lit a.toNat)))], [], nv, ora⟩ else none
    | _ => none
  | _, _, _ => none

theorem coreMake_does {t : TypeId} {x y : Operand} {x0 nv : Nat} {ora : List (Option Bool)} {out : Out} (h : coreMake P s x0 nv ora t x y = some out) (hd : ∀ d, o.dst = some d → d < s.n) (ho : o.op = .makeSlice t x y) (hx0 : s.mem x0 = none) : Does P v s o out := by
  unfold coreMake at h
  split at h
  · rename_i k1 a k2 b e hxx hyy hu
    split at h
    · rename_i k hz
      split at h
      · rename_i hc
        obtain ⟨rfl, h1, h2, h3, h4⟩ := hc
        simp only [Option.some.injEq] at h; subst h
        have ha : a = ((a.toNat : Nat) : Int) := (Int.toNat_of_nonneg h1).symm
        rw [ha] at hxx hyy
        exact does_makeSlice hd ho hxx hyy hu hz h3 (smallB_ok h4) (by omega) hx0 _ _
      · cases h
    · cases h
  · cases h

def intsAll (k : IntKind) : List A → Option (List I)
  | [] => some []
  | .sc (.int k' z) :: l => if k' = k then (match intsAll k l with | some r => some (z :: r) | none => none) else none
  | _ :: _ => none
theorem intsAll_eq {k : IntKind} : ∀ {l : List A} {r : List I}, intsAll k l = some r → l = r.map fun z => A.sc (.int k z)
  | [], r, h => by simp only [intsAll, Option.some.injEq] at h; subst h; rfl
  | a :: l, r, h => by
    unfold intsAll at h
    split at h
    · rename_i heq; cases heq
    · rename_i k' z l' heq
      simp only [List.cons.injEq] at heq
      obtain ⟨rfl, rfl⟩ := heq
      split at h
      · rename_i hk
        subst hk
        split at h
        · rename_i r' hr
          simp only [Option.some.injEq] at h
          subst h
          rw [intsAll_eq hr]
          rfl
        · cases h
      · cases h
    · cases h

def coreBuildS (P : Program) (s : Sig) (x0 nv : Nat) (ora : List (Option Bool)) (t : TypeId) (len : Nat) (parts : Array (Nat × Operand)) : Option Out :=
  match P.underlying t with
  | some (.slice e) => match zeroA P e, partsA s parts.toList with
    | some z, some ps => match fillA (fun j => some (j * 1, 1)) (List.replicate len z) ps with
      | some r =>
        if P.cellsOf e = 1 ∧ len ≤ 16777216 then
          match z with
          | .sc (.int k (.lit 0)) => match intsAll k r with
            | some es => some ⟨.one (.bsl x0 (.lit 0) (.lit len) true), [(x0, newRowB e k (I.ofL es))], [], nv, ora⟩
            | none => none
          | z => if z.oneCell = true ∧ r.all A.oneCell = true then some ⟨.one (.slc x0 0 len none), [(x0, newBlk e r)], [], nv, ora⟩ else none
        else none
      | none => none
    | _, _ => none
  | _ => none

theorem coreBuildS_does {t : TypeId} {len : Nat} {parts : Array (Nat × Operand)} {x0 nv : Nat} {ora : List (Option Bool)} {out : Out} (h : coreBuildS P s x0 nv ora t len parts = some out) (hd : ∀ d, o.dst = some d → d < s.n) (ho : o.op = .buildSlice t len parts) (hx0 : s.mem x0 = none) : Does P v s o out := by
  unfold coreBuildS at h
  split at h
  · rename_i e hu
    split at h
    · rename_i z ps hz hps
      split at h
      · rename_i r hr
        split at h
        · rename_i hc
          split at h
          · rename_i k
            split at h
            · rename_i es hes
              simp only [Option.some.injEq] at h; subst h
              exact does_buildSlice_num hd ho hu hz hc.1 hc.2 hps hr (intsAll_eq hes) hx0 _ _
            · cases h
          · split at h
            · rename_i h2
              simp only [Option.some.injEq] at h; subst h
              exact does_buildSlice_any hd ho hu hz hc.1 h2.1 hc.2 hps hr h2.2 hx0 _ _
            · cases h
        · cases h
      · cases h
    · cases h
  · cases h

/-! ### growing, calls with slices -/
def coreAppend (P : Program) (s : Sig) (x0 nv : Nat) (ora : List (Option Bool)) (c : Call) : Option Out :=
  match c.args.toList, c.argTypes.toList with
  | [x, y], [t, t'] => match P.underlying t, s.ev x, s.ev y with
    | some (.slice e), .one a, .one b => match zeroA P e with
      | some (.sc (.int k (.lit 0))) => if P.cellsOf e = 1 ∧ smallB P e = true then
          if t' = t then match readA s k b with
            | some (news, nev) => match appA s x0 k e a news with
              | some (r, mems, ev) => some ⟨.one r, mems, nev ++ ev, nv, ora⟩
              | none => none
            | none => none
          else match P.underlying t', b with
            | some (.int _), .sc (.int _ z) => match leEv (.lit 0) z with
              | some nev => match appA s x0 k e a (mkRep z) with
                | some (r, mems, ev) => some ⟨.one r, mems, nev ++ ev, nv, ora⟩
                | none => none
              | none => none
            | _, _ => none
        else none
      | _ => none
    | _, _, _ => none
  | _, _ => none

theorem coreAppend_does {c : Call} {x0 nv : Nat} {ora : List (Option Bool)} {out : Out} (h : coreAppend P s x0 nv ora c = some out) (he : ∀ e ∈ out.ev, e.holds P v) (hd : ∀ d, o.dst = some d → d < s.n) (ho : o.op = .call c) (hf : c.callee = .builtin .append) (hx0 : s.mem x0 = none) : Does P v s o out := by
  unfold coreAppend at h
  split at h
  · rename_i x y t t' hargs hts
    have hargs' : c.args = #[x, y] := by apply Array.ext'; simpa using hargs
    have hts' : c.argTypes = #[t, t'] := by apply Array.ext'; simpa using hts
    split at h
    · rename_i e a b hu hxx hyy
      split at h
      · rename_i k hz
        split at h
        · rename_i hc
          split at h
          · rename_i htt
            subst htt
            split at h
            · rename_i news nev hn
              split at h
              · rename_i r mems ev happ
                simp only [Option.some.injEq] at h; subst h
                exact does_append hd ho hf hargs' hts' hu hz hc.1 (smallB_ok hc.2) hxx hyy hn happ he hx0 _ _
              · cases h
            · cases h
          · split at h
            · rename_i kn kq z htn
              split at h
              · rename_i nev hn
                split at h
                · rename_i r mems ev happ
                  simp only [Option.some.injEq] at h; subst h
                  exact does_append_zeros hd ho hf hargs' hts' hu htn hz hc.1 (smallB_ok hc.2) hxx hyy hn happ he hx0 _ _
                · cases h
              · cases h
            · cases h
        · cases h
      · cases h
    · cases h
  · cases h

def coreCallS (P : Program) (s : Sig) (x0 nv : Nat) (ora : List (Option Bool)) (c : Call) (f : FuncId) (fn : Func) : Option Out :=
  match fn.resultTypes.toList, c.args.toList with
  | [], [x] => match s.ev x with
    | .one (.bsl m _ len true) => match s.mem m with
      | some b => match b.dead, b.own, b.nums with
        | false, true, some (.u8, l) => match leEv len (mkLen l) with
          | some ev => some ⟨.tup [], [(m, { b with cells := [], row := some (.u8, mkRev (mkPart l (.lit 0) len)) })], ev ++ [Ev.rev f], nv, ora⟩
          | none => none
        | _, _, _ => none
      | none => none
    | _ => none
  | rt, args => match argsE P s args fn.params.toList with
    | some (as, ev) =>
      match rt with
      | [t] => match bytesT P t with
        | some e => some ⟨.one (fullA x0 nv), [(x0, newRowB e .u8 (.lvar nv))], ev ++ [Ev.callS f as [fullE e nv]], nv + 1, ora⟩
        | none => match freshAs P nv [t] with
          | some (r, m) => some ⟨resA (decAs r ora).1, [], ev ++ Ev.callS f as (r.map .val) :: (decAs r ora).2.1, m, (decAs r ora).2.2⟩
          | none => none
      | [t, t'] => match bytesT P t' with
        | some e => match freshA P nv t, arr64 P e with
          | some (y, m), some T => some ⟨.tup [y, someA x0 m], [(x0, newRowB T .u8 (.lvar m))], ev ++ [Ev.callS f as [.val y, someE T m], .dec (.cmp .leq (.lit 0) (.var m)) true, .dec (.cmp .leq (.lit 0) (.var (m + 1))) true], m + 2, ora⟩
          | _, _ => none
        | none => match freshAs P nv [t, t'] with
          | some (r, m) => some ⟨resA (decAs r ora).1, [], ev ++ Ev.callS f as (r.map .val) :: (decAs r ora).2.1, m, (decAs r ora).2.2⟩
          | none => none
      | _ => none
    | none => none

theorem coreCallS_does {c : Call} {f : FuncId} {fn : Func} {x0 nv : Nat} {ora : List (Option Bool)} {out : Out} (h : coreCallS P s x0 nv ora c f fn = some out) (he : ∀ e ∈ out.ev, e.holds P v) (hd : ∀ d, o.dst = some d → d < s.n) (ho : o.op = .call c) (hf : c.callee = .value (.func f)) (hx0 : s.mem x0 = none) : Does P v s o out := by
  unfold coreCallS at h
  split at h
  · rename_i x _ hargs
    have hargs' : c.args = #[x] := by apply Array.ext'; simpa using hargs
    split at h
    · rename_i m off len hxx
      split at h
      · rename_i b hm
        split at h
        · rename_i l hb hown hn
          split at h
          · rename_i ev hev
            simp only [Option.some.injEq] at h; subst h
            exact does_rev hd ho hf hargs' hxx hm hb hown hn hev he _ _
          · cases h
        · cases h
      · cases h
    · cases h
  · split at h
    · rename_i as ev has
      split at h
      · rename_i t
        split at h
        · rename_i e hb
          simp only [Option.some.injEq] at h; subst h
          exact does_callS_row hd ho hf has hx0 he
        · split at h
          · rename_i r m hr
            simp only [Option.some.injEq] at h; subst h
            exact does_callS_pure hd ho hf has hr he
          · cases h
      · rename_i t t'
        split at h
        · rename_i e hb
          split at h
          · rename_i y m T hy hT
            simp only [Option.some.injEq] at h; subst h
            exact does_callS_two hd ho hf has hy hx0 he
          · cases h
        · split at h
          · rename_i r m hr
            simp only [Option.some.injEq] at h; subst h
            exact does_callS_pure hd ho hf has hr he
          · cases h
      · cases h
    · cases h

def core (P : Program) (s : Sig) (x0 nv : Nat) (ora : List (Option Bool)) (o : Oper) : Option Out :=
  match dstOk s o with
  | false => none
  | true =>
  match o.op with
  | .move x => some ⟨s.ev x, [], [], nv, ora⟩
  | .assign x => some ⟨s.ev x, [], [], nv, ora⟩
  | .pick c x y => match s.ev c with
    | .one (.sc (.bool (.lit t))) => some ⟨if t then s.ev x else s.ev y, [], [], nv, ora⟩
    | .one (.sc (.bool b)) => match boolAt b true (s.ev x), boolAt b false (s.ev y) with
      | some bx, some bY => some ⟨.one (.sc (.bool (Bx.ite b bx bY).fold)), [], [], nv, ora⟩
      | _, _ => none
    | _ => none
  | .alloc t => match zeroA P t with | some z => some ⟨.one (.ptr x0 0), [(x0, newBlk t z.cells)], [], nv, ora⟩ | none => none
  | .box t x => match s.ev x with | .one y => some ⟨.one (.ptr x0 0), [(x0, newBlk t y.cells)], [], nv, ora⟩ | _ => none
  | .load t x => coreLoad P s nv ora t x
  | .store t x y => coreStore P s nv ora t x y
  | .binOp op t x y _ => match s.ev x, s.ev y with
    | .one a, .one b => match binA P op t a b with
      | some (c, ev) => some ⟨.one (decA c ora).1, [], ev ++ (decA c ora).2.1, nv, (decA c ora).2.2⟩
      | none => none
    | _, _ => none
  | .unOp op _ x => match s.ev x with
    | .one (.sc y) => match unA op y with | some z => some ⟨.one (.sc z), [], [], nv, ora⟩ | none => none
    | _ => none
  | .convert src dst x => match s.ev x with
    | .one (.sc (.int _ e)) => match (P.underlying src).isSome, P.underlying dst with
      | true, some (.int k') => some ⟨.one (.sc (.int k' (I.conv k' e).fold)), [], [], nv, ora⟩
      | _, _ => none
    | _ => none
  | .extract x i => match s.ev x with
    | .tup l => match l[i]? with | some y => some ⟨.one y, [], [], nv, ora⟩ | none => none
    | _ => none
  | .nilCheck x => match s.ev x with | .one (.ptr y off) => some ⟨.one (.ptr y off), [], [], nv, ora⟩ | _ => none
  | .indexAddr t x i => coreIndex P s nv ora t x i
  | .slice t x lo hi none => coreSlice P s nv ora t x lo hi
  | .makeSlice t x y => coreMake P s x0 nv ora t x y
  | .buildSlice t len parts => coreBuildS P s x0 nv ora t len parts
  | .sliceToArrayPointer t x => match s.ev x, P.underlying t with
    | .one (.bsl m off len _), some (.array n _) => if 0 < n then (match leEv (.lit n) len with | some ev => some ⟨.one (.bptr m off), [], ev, nv, ora⟩ | none => none) else none
    | _, _ => none
  | .index t x i => match s.ev x, s.ev i with
    | .one (.agg l), .one (.sc (.int _ (.lit j))) => match P.underlying t with
      | some (.array n e) => if (P.info? e).isSome = true ∧ isAggT P e = some false ∧ 0 ≤ j ∧ j < n then match l[j.toNat * P.cellsOf e]? with | some y => some ⟨.one (.sc y), [], [], nv, ora⟩ | none => none else none
      | _ => none
    | _, _ => none
  | .fieldAddr t x i => match s.ev x with
    | .one (.ptr m off) => match P.underlying t with
      | some (.struct fs) => match fs[i]? with | some f => if (P.info? f.type).isSome = true ∧ P.cellsOf f.type ≠ 0 then some ⟨.one (.ptr m (off + f.offset)), [], [], nv, ora⟩ else none | none => none
      | _ => none
    | _ => none
  | .field t x i => match s.ev x with
    | .one (.agg l) => match P.underlying t with
      | some (.struct fs) => match fs[i]? with
        | some f => match A.ofL P f.type (partL P f.type l f.offset) with
          | some y => if (P.info? f.type).isSome = true ∧ f.offset + P.cellsOf f.type ≤ l.length ∧ (isAggT P f.type = some true ∨ P.cellsOf f.type = 1) then some ⟨.one y, [], [], nv, ora⟩ else none
          | none => none
        | none => none
      | _ => none
    | _ => none
  | .build t parts => match zeroA P t, placeOf P t, partsA s parts.toList with
    | some z, some pl, some ps => match fillA pl z.cells ps with
      | some r => match scs r with | some ss => some ⟨.one (.agg ss), [], [], nv, ora⟩ | none => none
      | none => none
    | _, _, _ => none
  | .call c => match c.callee with
    | .value (.func f) => match P.funcs[f]? with
      | some fn =>
        if fn.params.any (sliceT P) || fn.resultTypes.any (sliceT P) then coreCallS P s x0 nv ora c f fn
        else match argsA s c.args.toList with
          | some as => match freshAs P nv fn.resultTypes.toList with
            | some (r, m) => some ⟨resA (decAs r ora).1, [], Ev.call f as (resA r) :: (decAs r ora).2.1, m, (decAs r ora).2.2⟩
            | none => none
          | none => none
      | none => none
    | .value (.tmp g) => match s.fr g with
      | .one (.fn f recv) => match argsA s c.args.toList, P.funcs[f]? with
        | some as, some fn => match freshAs P nv fn.resultTypes.toList with
          | some (r, m) => some ⟨resA (decAs r ora).1, [], Ev.call f (.agg recv :: as) (resA r) :: (decAs r ora).2.1, m, (decAs r ora).2.2⟩
          | none => none
        | _, _ => none
      | _ => none
    | .builtin .len => match c.args.toList, c.argTypes[0]? with
      | [x], some t => match P.underlying t with
        | some (.slice _) => match s.ev x with
          | .one (.slc _ _ n _) => some ⟨.one (.sc (.int .i64 (.lit n))), [], [], nv, ora⟩
          | .one .nils => some ⟨.one (.sc (.int .i64 (.lit 0))), [], [], nv, ora⟩
          | .one (.bsl _ _ len _) => some ⟨.one (.sc (.int .i64 len)), [], [], nv, ora⟩
          | .one (.imm l _) => some ⟨.one (.sc (.int .i64 (mkLen l))), [], [], nv, ora⟩
          | .one (.immP n) => some ⟨.one (.sc (.int .i64 (.plen n))), [], [], nv, ora⟩
          | _ => none
        | _ => none
      | _, _ => none
    | .builtin .cap => match c.args.toList, c.argTypes[0]? with
      | [x], some t => match P.underlying t with
        | some (.slice _) => match s.ev x with
          | .one .nils => some ⟨.one (.sc (.int .i64 (.lit 0))), [], [], nv, ora⟩
          | _ => none
        | _ => none
      | _, _ => none
    | .builtin .append => coreAppend P s x0 nv ora c
    | _ => none
  | .makeFunc (.func f) first captured => match first.toList, captured.toList with
    | [x], [] => match s.ev x with | .one (.agg l) => some ⟨.one (.fn f l), [], [], nv, ora⟩ | _ => none
    | _, _ => none
  | _ => none

theorem core_does {x0 nv : Nat} {ora : List (Option Bool)} {out : Out} (h : core P s x0 nv ora o = some out) (he : ∀ e ∈ out.ev, e.holds P v) (hx : s.mem x0 = none) : Does P v s o out := by
  unfold core at h
  split at h
  · cases h
  rename_i hdo
  have hd : ∀ d, o.dst = some d → d < s.n := by
    intro d hd
    unfold dstOk at hdo
    rw [hd] at hdo
    exact of_decide_eq_true hdo
  split at h
  · rename_i x ho
    simp only [Option.some.injEq] at h; subst h
    exact does_move hd (.inl ho) _ _
  · rename_i x ho
    simp only [Option.some.injEq] at h; subst h
    exact does_move hd (.inr ho) _ _
  · rename_i c x y ho
    split at h
    · rename_i t hc
      simp only [Option.some.injEq] at h; subst h
      exact does_pick hd ho hc _ _
    · rename_i b _ hc
      split at h
      · rename_i bx bY hx hy
        simp only [Option.some.injEq] at h; subst h
        exact does_pick_sym hd ho hc hx hy _ _
      · cases h
    · cases h
  · rename_i t ho
    split at h
    · rename_i z hz
      simp only [Option.some.injEq] at h; subst h
      exact does_alloc hd ho hz hx _ _
    · cases h
  · rename_i t x ho
    split at h
    · rename_i y hy
      simp only [Option.some.injEq] at h; subst h
      exact does_box hd ho hy hx _ _
    · cases h
  · rename_i t x ho
    exact coreLoad_does h he hd ho
  · rename_i t x y ho
    exact coreStore_does h he hd ho
  · rename_i op t x y yt ho
    split at h
    · rename_i a b hxx hyy
      split at h
      · rename_i c ev hb
        simp only [Option.some.injEq] at h; subst h
        exact does_binOp hd ho hxx hyy hb he _
      · cases h
    · cases h
  · rename_i op t x ho
    split at h
    · rename_i y hxx
      split at h
      · rename_i z hz
        simp only [Option.some.injEq] at h; subst h
        exact does_unOp hd ho hxx hz _ _
      · cases h
    · cases h
  · rename_i src dst x ho
    split at h
    · rename_i k e hxx
      split at h
      · rename_i k' hs hk
        simp only [Option.some.injEq] at h; subst h
        exact does_convert hd ho hxx hs hk _ _
      · cases h
    · cases h
  · rename_i x i ho
    split at h
    · rename_i l hxx
      split at h
      · rename_i y hy
        simp only [Option.some.injEq] at h; subst h
        exact does_extract hd ho hxx hy _ _
      · cases h
    · cases h
  · rename_i x ho
    split at h
    · rename_i y off hxx
      simp only [Option.some.injEq] at h; subst h
      exact does_nilCheck hd ho hxx _ _
    · cases h
  · rename_i t x i ho
    exact coreIndex_does h he hd ho
  · rename_i t x lo hi ho
    exact coreSlice_does h he hd ho
  · rename_i t x y ho
    exact coreMake_does h hd ho hx
  · rename_i t len parts ho
    exact coreBuildS_does h hd ho hx
  · rename_i t x ho
    split at h
    · rename_i m off len full n e hxx hu
      split at h
      · rename_i hn
        split at h
        · rename_i ev hev
          simp only [Option.some.injEq] at h; subst h
          exact does_s2ap hd ho hxx hu hn hev he _ _
        · cases h
      · cases h
    · cases h
  · rename_i t x i ho
    split at h
    · rename_i l k j hxx hii
      split at h
      · rename_i n e hu
        split at h
        · rename_i hc
          split at h
          · rename_i y hy
            simp only [Option.some.injEq] at h; subst h
            exact does_index hd ho hxx hii hu hc.1 hc.2.1 hc.2.2.1 hc.2.2.2 hy _ _
          · cases h
        · cases h
      · cases h
    · cases h
  · rename_i t x i ho
    split at h
    · rename_i m off hxx
      split at h
      · rename_i fs hu
        split at h
        · rename_i f hf
          split at h
          · rename_i hc
            simp only [Option.some.injEq] at h; subst h
            exact does_fieldAddr hd ho hxx hu hf hc.1 hc.2 _ _
          · cases h
        · cases h
      · cases h
    · cases h
  · rename_i t x i ho
    split at h
    · rename_i l hxx
      split at h
      · rename_i fs hu
        split at h
        · rename_i f hf
          split at h
          · rename_i y hy
            split at h
            · rename_i hc
              simp only [Option.some.injEq] at h; subst h
              refine does_field hd ho hxx hu hf hc.1 hc.2.1 (fun hfa => ?_) hy _ _
              rcases hc.2.2 with h1 | h1
              · rw [hfa] at h1; cases h1
              · exact h1
            · cases h
          · cases h
        · cases h
      · cases h
    · cases h
  · rename_i t parts ho
    split at h
    · rename_i z pl ps hz hpl hps
      split at h
      · rename_i r hr
        split at h
        · rename_i ss hss
          simp only [Option.some.injEq] at h; subst h
          exact does_build hd ho hz hpl hps hr hss _ _
        · cases h
      · cases h
    · cases h
  · rename_i c ho
    split at h
    · rename_i f hf
      split at h
      · rename_i fn hfn
        split at h
        · exact coreCallS_does h he hd ho hf hx
        · split at h
          · rename_i as has
            split at h
            · rename_i r m hr
              simp only [Option.some.injEq] at h; subst h
              exact does_call hd ho hf has hr he
            · cases h
          · cases h
      · cases h
    · rename_i g hf
      split at h
      · rename_i f recv hfn
        split at h
        · rename_i as fn has hfun
          split at h
          · rename_i r m hr
            simp only [Option.some.injEq] at h; subst h
            exact does_callFn hd ho hf hfn has hr he
          · cases h
        · cases h
      · cases h
    · rename_i hf
      split at h
      · rename_i x t hargs ht
        have hx' : c.args = #[x] := by apply Array.ext'; simpa using hargs
        split at h
        · rename_i e hu
          split at h
          · rename_i m off n cap hxx
            simp only [Option.some.injEq] at h; subst h
            exact does_len hd ho hf hx' ht hu hxx _ _
          · rename_i hxx
            simp only [Option.some.injEq] at h; subst h
            exact does_len_nil hd ho hf hx' ht hu hxx _ _
          · rename_i m off len full hxx
            simp only [Option.some.injEq] at h; subst h
            exact does_len_bsl hd ho hf hx' ht hu hxx _ _
          · rename_i l nl hxx
            simp only [Option.some.injEq] at h; subst h
            exact does_len_imm hd ho hf hx' ht hu hxx _ _
          · rename_i n hxx
            simp only [Option.some.injEq] at h; subst h
            exact does_len_immP hd ho hf hx' ht hu hxx _ _
          · cases h
        · cases h
      · cases h
    · rename_i hf
      split at h
      · rename_i x t hargs ht
        have hx' : c.args = #[x] := by apply Array.ext'; simpa using hargs
        split at h
        · rename_i e hu
          split at h
          · rename_i hxx
            simp only [Option.some.injEq] at h; subst h
            exact does_cap_nil hd ho hf hx' ht hu hxx _ _
          · cases h
        · cases h
      · cases h
    · rename_i hf
      exact coreAppend_does h he hd ho hf hx
    · cases h
  · rename_i f first captured ho
    split at h
    · rename_i x h1 h2
      split at h
      · rename_i l hx
        simp only [Option.some.injEq] at h; subst h
        exact does_makeFunc hd ho (by apply Array.ext'; simpa using h1) (by apply Array.ext'; simpa using h2) hx _ _
      · cases h
    · cases h
  · cases h

/-! ### with its guard -/
inductive Gd where
  | yes
  | no
  | may (b : Bx) (want : Bool)
  | bad

def guardOf (s : Sig) (ops : Array Oper) (o : Oper) : Gd :=
  match o.guard with
  | none => .yes
  | some (j, want) =>
    match (ops[j]?).bind (·.dst) with
    | none => .no
    | some t => match s.fr t with
      | .one (.sc (.bool (.lit b))) => if b == want then .yes else .no
      | .one (.sc (.bool b)) => .may b want
      | .tup [] => .no
      | _ => .bad

/-- what is there when b is want, is there -/
def AV.given (b : Bx) (want : Bool) : AV → AV
  | .when b' want' a => if b' = b ∧ want' = want then .one a else .when b' want' a
  | x => x

def Sig.given (s : Sig) (b : Bx) (want : Bool) : Sig := { s with fr := fun t => (s.fr t).given b want }

theorem AV.given_is {b : Bx} {want : Bool} (hb : b.den v = want) {x : AV} {p : Mp} {u : Value} (h : x.Is v p u) : (x.given b want).Is v p u := by
  unfold AV.given
  split
  · split
    · rename_i hc
      obtain ⟨rfl, rfl⟩ := hc
      exact h hb
    · exact h
  · exact h

theorem RelP.given {a : Act} {w : World} {p : Mp} (h : RelP v s a w p) {b : Bx} {want : Bool} (hb : b.den v = want) : RelP v (s.given b want) a w p :=
  ⟨h.defers, h.size, h.base, h.below, h.inj, h.mem, h.free, h.glob, fun t => AV.given_is hb (h.frame t), h.gk, h.g0⟩

def stepO (P : Program) (s : Sig) (x0 nv : Nat) (ora : List (Option Bool)) (ops : Array Oper) (o : Oper) : Option Out :=
  match guardOf s ops o with
  | .yes => core P s x0 nv ora o
  | .no => if dstOk s o then some ⟨.tup [], [], [], nv, ora⟩ else none
  | .may b want => match core P (s.given b want) x0 nv [] o with
    | some ⟨.one a, [], [], nv', _⟩ => some ⟨.when b want a, [], [], nv', ora⟩
    | _ => none
  | .bad => none

theorem yielded_of {ops : Array Oper} {a : Act} {j t : Nat} {b : Bool} (hj : (ops[j]?).bind (·.dst) = some t) (hf' : a.tmps.getD t undef = .bool b) : yielded ops a.tmps j = some b := by
  have : a.tmps[t]? = some (.bool b) := by
    rcases Nat.lt_or_ge t a.tmps.size with hlt | hge
    · simp only [Array.getD_eq_getD_getElem?, Array.getElem?_eq_getElem hlt, Option.getD_some] at hf'
      rw [Array.getElem?_eq_getElem hlt, hf']
    · simp [Array.getElem?_eq_none hge, undef] at hf'
  unfold yielded
  rw [hj]
  simp only [Option.bind_some, this]

theorem wanted_eq {j : Nat} {want b : Bool} {ops : Array Oper} {a : Act} (hg : o.guard = some (j, want)) (hy : yielded ops a.tmps j = some b) : Region.wanted o (yielded ops a.tmps) = (b == want) := by
  unfold Region.wanted
  rw [hg]
  simp only [hy]
  cases b <;> cases want <;> rfl

theorem guardOf_wanted {ops : Array Oper} {a : Act} {w : World} {p : Mp} (hr : RelP v s a w p) :
    match guardOf s ops o with
    | .yes => Region.wanted o (yielded ops a.tmps) = true
    | .no => Region.wanted o (yielded ops a.tmps) = false
    | .may b want => Region.wanted o (yielded ops a.tmps) = (b.den v == want)
    | .bad => True := by
  unfold guardOf
  cases hg : o.guard with
  | none => simp only; unfold Region.wanted; rw [hg]
  | some jw =>
    obtain ⟨j, want⟩ := jw
    simp only
    cases hj : (ops[j]?).bind (·.dst) with
    | none =>
      simp only
      unfold Region.wanted yielded
      rw [hg]
      simp only [hj]
      rfl
    | some t =>
      simp only
      have hf := hr.frame t
      split
      · rename_i h
        split at h
        · rename_i c hc
          rw [hc] at hf
          have := wanted_eq (b := c) hg (yielded_of hj hf)
          split at h
          · rename_i hcw; rw [this, hcw]
          · cases h
        · cases h
        · cases h
        · cases h
      · rename_i h
        split at h
        · rename_i c hc
          rw [hc] at hf
          have := wanted_eq (b := c) hg (yielded_of hj hf)
          split at h
          · cases h
          · rename_i hcw; rw [this]; simpa using hcw
        · cases h
        · rename_i hc
          rw [hc] at hf
          obtain ⟨us, e, hl⟩ := hf
          unfold Region.wanted
          rw [hg]
          simp only
          unfold yielded
          rw [hj]
          simp only [Option.bind_some]
          rcases Nat.lt_or_ge t a.tmps.size with hlt | hge
          · simp only [Array.getD_eq_getD_getElem?, Array.getElem?_eq_getElem hlt, Option.getD_some] at e
            rw [Array.getElem?_eq_getElem hlt, e]
            rfl
          · rw [Array.getElem?_eq_none hge]
            rfl
        · cases h
      · rename_i b' want' h
        split at h
        · split at h <;> cases h
        · rename_i c _ hc
          simp only [Gd.may.injEq] at h
          obtain ⟨rfl, rfl⟩ := h
          rw [hc] at hf
          exact wanted_eq hg (yielded_of hj hf)
        · cases h
        · cases h
      · trivial

theorem stepO_does {x0 nv : Nat} {ora : List (Option Bool)} {ops : Array Oper} {out : Out} {i : Nat} (hi : ops[i]? = some o) (h : stepO P s x0 nv ora ops o = some out) (he : ∀ e ∈ out.ev, e.holds P v) (hx : s.mem x0 = none)
    {a : Act} {w : World} {p : Mp} (hr : RelP v s a w p) {K : Act → World → Prop} {Q : Exit → Act → World → Prop} (hK : ∀ a' w' q, RelP v (s.after o.dst out) a' w' q → K a' w') : wpOp P ops Q i K a w := by
  have hw := guardOf_wanted (o := o) (ops := ops) hr
  unfold stepO at h
  unfold wpOp
  rw [hi]
  simp only
  split at h
  · rename_i hg
    rw [hg] at hw
    rw [if_pos hw]
    exact .inl (core_does h he hx a w p hr K Q hK)
  · rename_i hg
    rw [hg] at hw
    simp only at hw
    rw [if_neg (by rw [hw]; simp)]
    split at h
    · rename_i hdo
      simp only [Option.some.injEq] at h
      subst h
      refine hK _ _ _ (hr.put (fun d hd => ?_) ⟨#[], rfl, rfl⟩)
      unfold dstOk at hdo
      rw [hd] at hdo
      exact of_decide_eq_true hdo
    · cases h
  · rename_i b want hg
    rw [hg] at hw
    simp only at hw
    split at h
    · rename_i y nv' ora' hcore
      simp only [Option.some.injEq] at h
      subst h
      have hdd : ∀ d, o.dst = some d → d < s.n := by
        intro d hd
        unfold core at hcore
        split at hcore
        · cases hcore
        · rename_i hdo
          unfold dstOk at hdo
          rw [hd] at hdo
          exact of_decide_eq_true hdo
      cases hb : (b.den v == want) with
      | true =>
        rw [hb] at hw
        rw [if_pos hw]
        have hb' : b.den v = want := by simpa using hb
        refine .inl (core_does hcore (by simp) hx a w p (hr.given hb') K Q fun a' w' q hr' => hK a' w' q ?_)
        refine ⟨hr'.defers, ?_, hr'.base, hr'.below, ?_, ?_, ?_, ?_, fun t => ?_, hr'.gk, hr'.g0⟩
        · have := hr'.size
          cases hd : o.dst <;> simp only [Sig.after, Sig.put, hd, List.foldl_nil] at this ⊢ <;> exact this
        · have := hr'.inj
          cases hd : o.dst <;> simp only [Sig.after, Sig.put, hd, List.foldl_nil] at this ⊢ <;> exact this
        · have := hr'.mem
          cases hd : o.dst <;> simp only [Sig.after, Sig.put, hd, List.foldl_nil] at this ⊢ <;> exact this
        · have := hr'.free
          cases hd : o.dst <;> simp only [Sig.after, Sig.put, hd, List.foldl_nil] at this ⊢ <;> exact this
        · have := hr'.glob
          cases hd : o.dst <;> simp only [Sig.after, Sig.put, hd, List.foldl_nil] at this ⊢ <;> exact this
        · have hft := hr'.frame t
          have weak : ∀ x u, (AV.given b want x).Is v q u → x.Is v q u := by
            intro x u hx'
            unfold AV.given at hx'
            split at hx'
            · split at hx'
              · exact fun _ => hx'
              · exact hx'
            · exact hx'
          cases hd : o.dst with
          | none =>
            simp only [Sig.after, Sig.put, hd, List.foldl_nil, Sig.given] at hft ⊢
            exact weak _ _ hft
          | some d =>
            simp only [Sig.after, Sig.put, hd, List.foldl_nil, Sig.given] at hft ⊢
            by_cases e : t = d
            · rw [if_pos e] at hft ⊢
              exact fun _ => hft
            · rw [if_neg e] at hft ⊢
              exact weak _ _ hft
      | false =>
        rw [hb] at hw
        rw [if_neg (by rw [hw]; simp)]
        refine hK _ _ _ (hr.put hdd fun hb' => ?_)
        rw [hb'] at hb
        simp at hb
    · cases h
  · cases h

end
end Go.Sx
