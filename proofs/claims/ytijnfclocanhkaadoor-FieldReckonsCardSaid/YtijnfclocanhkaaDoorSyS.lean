/- Symbolic operations: slicing, making, growing. -/
import Derived.Test.YtijnfclocanhkaaDoorSyR
set_option linter.unusedVariables false
set_option linter.unusedSimpArgs false
namespace Go.Sx
open Go Go.RowKit

section
variable {P : Program} {v : Env} {s : Sig} {o : Oper}

/-! ### slicing -/
def boundA (s : Sig) (d : I) : Option Operand → Option I
  | none => some d
  | some x => match s.ev x with | .one (.sc (.int _ z)) => some z | _ => none

theorem bounds_run {a : Act} {w : World} {p : Mp} (h : RelP v s a w p) {lo hi : Option Operand} {zl zh d : I} (hl : boundA s (.lit 0) lo = some zl) (hh : boundA s d hi = some zh) {n c : Nat} (hd : d.den v = (n : Int)) (b : Bool)
    (h0 : 0 ≤ zl.den v) (h1 : zl.den v ≤ zh.den v) (h2 : zh.den v ≤ c) :
    (Instr.sliceBounds b n c (lo.map a.eval) (hi.map a.eval) none).run P w = .ok ((zl.den v).toNat, (zh.den v).toNat, c) w := by
  have ezh : ((zh.den v).toNat : Int) = zh.den v := Int.toNat_of_nonneg (by omega)
  cases lo with
  | none =>
    simp only [boundA, Option.some.injEq] at hl
    subst hl
    cases hi with
    | none =>
      simp only [boundA, Option.some.injEq] at hh
      subst hh
      simp [Instr.sliceBounds, I.den, hd]
    | some y =>
      simp only [boundA] at hh
      split at hh
      · rename_i k z hy
        simp only [Option.some.injEq] at hh
        subst hh
        have hyy := h.ev y
        rw [hy] at hyy
        have ey : a.eval y = .int k (z.den v) := hyy
        simp only [I.den] at h1 h0 ⊢
        simp [Instr.sliceBounds, ey, run_sliceBound, h1, h2]
      · cases hh
  | some x =>
    simp only [boundA] at hl
    split at hl
    · rename_i k z hx
      simp only [Option.some.injEq] at hl
      subst hl
      have hxx := h.ev x
      rw [hx] at hxx
      have ex : a.eval x = .int k (z.den v) := hxx
      cases hi with
      | none =>
        simp only [boundA, Option.some.injEq] at hh
        subst hh
        rw [hd] at h1
        simp [Instr.sliceBounds, ex, run_sliceBound, h0, h1, hd]
      | some y =>
        simp only [boundA] at hh
        split at hh
        · rename_i k' z' hy
          simp only [Option.some.injEq] at hh
          subst hh
          have hyy := h.ev y
          rw [hy] at hyy
          have ey : a.eval y = .int k' (z'.den v) := hyy
          simp [Instr.sliceBounds, ex, ey, run_sliceBound, h0, h1, h2, ezh, show 0 ≤ z'.den v by omega]
        · cases hh
    · cases hl

theorem add_lit1 (r q l : Nat) : Addr.add ⟨r, q, none⟩ l = ⟨r, q + l, none⟩ := Addr.add_mid r q l

theorem does_slice_bsl {t e : TypeId} {x : Operand} {lo hi : Option Operand} {m : Nat} {off len zl zh : I} {full : Bool} {ev e1 e2 e3 : List Ev} (hd : ∀ d, o.dst = some d → d < s.n) (ho : o.op = .slice t x lo hi none) (hx : s.ev x = .one (.bsl m off len full))
    (hu : P.underlying t = some (.slice e)) (hs : (P.info? e).isSome = true) (h1 : P.cellsOf e = 1) (hl : boundA s (.lit 0) lo = some zl) (hh : boundA s len hi = some zh) (he1 : leEv (.lit 0) zl = some e1) (he2 : leEv zl zh = some e2) (he3 : leEv zh len = some e3)
    (hev : ev = e1 ++ e2 ++ e3) (he : ∀ e ∈ ev, e.holds P v) (nv ora) : Does P v s o ⟨.one (.bsl m (mkSum off zl) (mkDif zh zl) (full && decide (zl = .lit 0))), [], ev, nv, ora⟩ := by
  subst hev
  refine does_value hd fun a w p h => ?_
  have hxx := h.ev x
  rw [hx] at hxx
  obtain ⟨b, n, c, l1, ex, l2, l3, l4⟩ := hxx
  obtain ⟨ti, hti⟩ := Option.isSome_iff_exists.1 hs
  have g0 := leEv_ok he1 (fun e hm => he e (by simp [hm]))
  have g1 := leEv_ok he2 (fun e hm => he e (by simp [hm]))
  have g2 := leEv_ok he3 (fun e hm => he e (by simp [hm]))
  simp only [I.den] at g0
  rw [l1] at g2
  have hb := bounds_run (P := P) (n := n) (c := c) h hl hh l1 true g0 g1 (by omega)
  refine ⟨.slice (if c = (zl.den v).toNat then b else b.map (·.add (zl.den v).toNat)) ((zh.den v).toNat - (zl.den v).toNat) (c - (zl.den v).toNat), ?_, ?_⟩
  · unfold execOp
    rw [ho]
    simp only [Option.map_none] at hb ⊢
    simp [Instr.sliceAt, Instr.slice, run_underlying hu, ex, hb, run_sizeOf w hti, h1]
  · refine ⟨_, (zh.den v).toNat - (zl.den v).toNat, c - (zl.den v).toNat, by rw [mkDif_den]; omega, rfl, by omega, by omega, ?_⟩
    by_cases hc : c = (zl.den v).toNat
    · left; omega
    · rcases l4 with l4 | ⟨r, N, q, l5, l6, rfl, l7⟩
      · exfalso; omega
      · refine .inr ⟨r, N, q + (zl.den v).toNat, l5, by rw [mkSum_den, l6]; omega, ?_, fun hf => ?_⟩
        · rw [if_neg hc]; simp [add_lit1]
        · simp only [Bool.and_eq_true, decide_eq_true_eq] at hf
          obtain ⟨hf, rfl⟩ := hf
          obtain ⟨rfl, rfl⟩ := l7 hf
          simp [I.den]

theorem does_slice_arr {t e : TypeId} {x : Operand} {lo hi : Option Operand} {m off n : Nat} {zl zh : I} {ev e1 e2 e3 : List Ev} (hd : ∀ d, o.dst = some d → d < s.n) (ho : o.op = .slice t x lo hi none) (hx : s.ev x = .one (.ptr m off))
    (hu : P.underlying t = some (.array n e)) (hs : (P.info? e).isSome = true) (h1 : P.cellsOf e = 1) (hn : n ≤ maxLen) (hl : boundA s (.lit 0) lo = some zl) (hh : boundA s (.lit n) hi = some zh) (he1 : leEv (.lit 0) zl = some e1) (he2 : leEv zl zh = some e2) (he3 : leEv zh (.lit n) = some e3)
    (hev : ev = e1 ++ e2 ++ e3) (he : ∀ e ∈ ev, e.holds P v) (nv ora) : Does P v s o ⟨.one (.bsl m (mkSum (.lit off) zl) (mkDif zh zl) false), [], ev, nv, ora⟩ := by
  subst hev
  refine does_value hd fun a w p h => ?_
  have hxx := h.ev x
  rw [hx] at hxx
  obtain ⟨r, N, hp, ex⟩ := hxx
  obtain ⟨ti, hti⟩ := Option.isSome_iff_exists.1 hs
  have g0 := leEv_ok he1 (fun e hm => he e (by simp [hm]))
  have g1 := leEv_ok he2 (fun e hm => he e (by simp [hm]))
  have g2 := leEv_ok he3 (fun e hm => he e (by simp [hm]))
  simp only [I.den] at g0 g2
  have hb := bounds_run (P := P) (n := n) (c := n) h hl hh (by simp only [I.den]) false g0 g1 g2
  refine ⟨.slice (some (if n = (zl.den v).toNat then ⟨r, off, none⟩ else Addr.add ⟨r, off, none⟩ (zl.den v).toNat)) ((zh.den v).toNat - (zl.den v).toNat) (n - (zl.den v).toNat), ?_, ?_⟩
  · unfold execOp
    rw [ho]
    simp only [Option.map_none] at hb ⊢
    simp [Instr.sliceAt, Instr.sureAddr, run_underlying hu, ex, hb, run_sizeOf w hti, h1]
  · refine ⟨_, (zh.den v).toNat - (zl.den v).toNat, n - (zl.den v).toNat, by rw [mkDif_den]; omega, rfl, by omega, by omega, ?_⟩
    by_cases hc : n = (zl.den v).toNat
    · left; omega
    · exact .inr ⟨r, N, off + (zl.den v).toNat, hp, by rw [mkSum_den]; simp only [I.den]; omega, by rw [if_neg hc, add_lit1], fun hf => by cases hf⟩

theorem does_slice_imm {t e : TypeId} {x : Operand} {lo hi : Option Operand} {l zl zh : I} {nl : Option Bx} {ev e1 e2 e3 : List Ev} (hd : ∀ d, o.dst = some d → d < s.n) (ho : o.op = .slice t x lo hi none) (hx : s.ev x = .one (.imm l nl))
    (hu : P.underlying t = some (.slice e)) (hs : (P.info? e).isSome = true) (h1 : P.cellsOf e = 1) (hl : boundA s (.lit 0) lo = some zl) (hh : boundA s (mkLen l) hi = some zh) (he1 : leEv (.lit 0) zl = some e1) (he2 : leEv zl zh = some e2) (he3 : leEv zh (mkLen l) = some e3)
    (hev : ev = e1 ++ e2 ++ e3) (he : ∀ e ∈ ev, e.holds P v) (nv ora) : Does P v s o ⟨.one (.imm (mkPart l zl (mkDif zh zl)) nl), [], ev, nv, ora⟩ := by
  subst hev
  refine does_value hd fun a w p h => ?_
  have hxx := h.ev x
  rw [hx] at hxx
  obtain ⟨⟨b, c, ex, l2, l3, l4⟩, hnl⟩ := hxx
  obtain ⟨ti, hti⟩ := Option.isSome_iff_exists.1 hs
  have g0 := leEv_ok he1 (fun e hm => he e (by simp [hm]))
  have g1 := leEv_ok he2 (fun e hm => he e (by simp [hm]))
  have g2 := leEv_ok he3 (fun e hm => he e (by simp [hm]))
  simp only [I.den] at g0
  rw [mkLen_den] at g2
  have hb := bounds_run (P := P) (n := (l.ldn v).length) (c := c) h hl hh (mkLen_den v l) true g0 g1 (by omega)
  have hlen : (((l.ldn v).drop (zl.den v).toNat).take (zh.den v - zl.den v).toNat).length = (zh.den v).toNat - (zl.den v).toNat := by
    rw [List.length_take, List.length_drop]; omega
  refine ⟨.slice (if c = (zl.den v).toNat then b else b.map (·.add (zl.den v).toNat)) ((zh.den v).toNat - (zl.den v).toNat) (c - (zl.den v).toNat), ?_, ?_, ?_⟩
  · unfold execOp
    rw [ho]
    simp only [Option.map_none] at hb ⊢
    simp [Instr.sliceAt, Instr.slice, run_underlying hu, ex, hb, run_sizeOf w hti, h1]
  · refine ⟨if c = (zl.den v).toNat then b else b.map (·.add (zl.den v).toNat), c - (zl.den v).toNat, ?_, ?_, by omega, ?_⟩
    · rw [mkPart_ldn, mkDif_den, hlen]
    · rw [mkPart_ldn, mkDif_den, hlen]; omega
    · by_cases hc : c = (zl.den v).toNat
      · left; omega
      · rcases l4 with l4 | ⟨r, q, rfl, l5⟩
        · exfalso; omega
        · refine .inr ⟨r, q + (zl.den v).toNat, by rw [if_neg hc]; simp [add_lit1], fun j x hj => ?_⟩
          rw [mkPart_ldn, List.getElem?_take] at hj
          split at hj
          · rw [List.getElem?_drop] at hj
            have := l5 _ _ hj
            rw [Nat.add_assoc]
            exact this
          · cases hj
  · intro b' hb'
    rw [← hnl b' hb', ex]
    cases b with
    | none => simp [Value.isNil]
    | some ad => by_cases hc : c = (zl.den v).toNat <;> simp [Value.isNil, hc]

theorem does_slice_nils {t e : TypeId} {x : Operand} {lo hi : Option Operand} (hd : ∀ d, o.dst = some d → d < s.n) (ho : o.op = .slice t x lo hi none) (hx : s.ev x = .one .nils)
    (hu : P.underlying t = some (.slice e)) (hs : (P.info? e).isSome = true) (hl : boundA s (.lit 0) lo = some (.lit 0)) (hh : boundA s (.lit 0) hi = some (.lit 0)) (nv ora) : Does P v s o ⟨.one .nils, [], [], nv, ora⟩ := by
  refine does_value hd fun a w p h => ?_
  have hxx := h.ev x
  rw [hx] at hxx
  have ex : a.eval x = .slice none 0 0 := hxx
  obtain ⟨ti, hti⟩ := Option.isSome_iff_exists.1 hs
  have hb := bounds_run (P := P) (n := 0) (c := 0) h hl hh (by simp [I.den]) true (by simp [I.den]) (by simp [I.den]) (by simp [I.den])
  refine ⟨.slice none 0 0, ?_, rfl⟩
  unfold execOp
  rw [ho]
  simp only [Option.map_none, I.den, Int.toNat_zero] at hb ⊢
  simp [Instr.sliceAt, Instr.slice, run_underlying hu, ex, hb, run_sizeOf w hti]

/-! ### making -/
theorem aOf_int {z : Value} {k : IntKind} {n : Int} (h : aOf z = some (.sc (.int k (.lit n)))) : z = .int k n := by
  unfold aOf at h
  split at h
  · simp at h; obtain ⟨rfl, rfl⟩ := h; rfl
  · simp at h
  · simp only [Option.map_eq_some_iff] at h; obtain ⟨_, _, h⟩ := h; cases h
  · simp at h
  · simp at h

/-- the element's type, of one number: its record, its zero -/
theorem elem_of {e : TypeId} {k : IntKind} (hz : zeroA P e = some (.sc (.int k (.lit 0)))) (h1 : P.cellsOf e = 1) : ∃ i, P.info? e = some i ∧ i.zero = some (.int k 0) ∧ i.size = 1 := by
  unfold zeroA at hz
  cases hi : P.info? e with
  | none => simp [hi] at hz
  | some i =>
    cases hzz : i.zero with
    | none => simp [hi, hzz] at hz
    | some z =>
      simp only [hi, hzz] at hz
      refine ⟨i, rfl, by rw [hzz, aOf_int hz], ?_⟩
      simpa [Program.cellsOf, hi] using h1

theorem does_makeSlice {t e : TypeId} {x y : Operand} {x0 n : Nat} {k k1 k2 : IntKind} (hd : ∀ d, o.dst = some d → d < s.n) (ho : o.op = .makeSlice t x y) (hx : s.ev x = .one (.sc (.int k1 (.lit n)))) (hy : s.ev y = .one (.sc (.int k2 (.lit n))))
    (hu : P.underlying t = some (.slice e)) (hz : zeroA P e = some (.sc (.int k (.lit 0)))) (h1 : P.cellsOf e = 1) (hb : ∀ i, P.info? e = some i → i.bytes ≤ 8) (hn : n ≤ 1099511627776) (hx0 : s.mem x0 = none) (nv ora) :
    Does P v s o ⟨.one (.bsl x0 (.lit 0) (.lit n) true), [(x0, newRowB e k (mkRep (.lit n)))], [], nv, ora⟩ := by
  obtain ⟨i, hi, hzv, hsz⟩ := elem_of hz h1
  have hby := hb i hi
  refine does_newB hd hx0 fun a w p h => ⟨madeCells #[.int k 0] n, fun q _ => ?_, ?_, fun q hq hqx => ?_⟩
  · show List.take ((mkRep (.lit n)).ldn v).length _ = _
    rw [mkRep_ldn, toList_madeCells_one]
    simp [I.den]
  · rw [toList_madeCells_one]
    intro u hu
    rw [List.eq_of_mem_replicate hu]; rfl
  · have hxx := h.ev x
    rw [hx] at hxx
    have ex : a.eval x = .int k1 (n : Int) := by have := hxx; simpa [AV.Is, A.Is, Sc.den, I.den] using this
    have hyy := h.ev y
    rw [hy] at hyy
    have ey : a.eval y = .int k2 (n : Int) := by have := hyy; simpa [AV.Is, A.Is, Sc.den, I.den] using this
    have hbn : (i.bytes : Int) * (n : Int) ≤ 281474976710656 := by
      have : i.bytes * n ≤ 8 * 1099511627776 := Nat.mul_le_mul hby hn
      have e : ((i.bytes * n : Nat) : Int) = (i.bytes : Int) * (n : Int) := Int.natCast_mul _ _
      omega
    have hr := run_make (P := P) w t e i (.int k 0) hu hi hzv k1 k2 (n : Int) (n : Int) (by omega) (Int.le_refl _) hbn (by omega)
    refine ⟨.slice (some ⟨w.heap.size, 0, none⟩) n n, ?_, ?_⟩
    · unfold execOp
      rw [ho]
      simp only [Int.toNat_natCast, hsz, Nat.mul_one, Value.cells] at hr
      simp only [ex, ey, Sem.run_bind, hr, Result.andThen_ok, Sem.run_pure]
      rfl
    · refine ⟨_, n, n, by simp only [I.den], rfl, Nat.le_refl _, by unfold maxLen; omega, .inr ⟨_, _, 0, hqx, by simp only [I.den]; rfl, rfl, fun _ => ⟨rfl, ?_⟩⟩⟩
      have := size_madeCells #[Value.int k 0] n
      simp [madeCells]

theorem size_fill (place : Nat → Option (Nat × Nat)) : ∀ (us : List (Nat × Value)) (l r : Array Value), Instr.fill place l us = some r → r.size = l.size
  | [], l, r, h => by simp [Instr.fill] at h; rw [h]
  | (i, u) :: us, l, r, h => by
    unfold Instr.fill at h
    cases hp : place i with
    | none => simp [hp] at h
    | some os =>
      obtain ⟨off, size⟩ := os
      simp only [hp] at h
      split at h
      · cases h
      · have := size_fill place us _ r h
        rw [this]
        have key : ∀ (m : List (Value × Nat)) (c : Array Value), (m.foldl (fun cs cj => cs.setIfInBounds (off + cj.2) cj.1) c).size = c.size := by
          intro m
          induction m with
          | nil => intro c; rfl
          | cons x m ih => intro c; rw [List.foldl_cons, ih]; simp
        rw [← Array.foldl_toList]
        exact key _ _

theorem buildSlice_run {t e : TypeId} {len : Nat} {parts : Array (Nat × Operand)} {z : A} {ps : List (Nat × A)} {r : List A} {i : TypeInfo} (hu : P.underlying t = some (.slice e)) (hz : zeroA P e = some z) (h1 : P.cellsOf e = 1) (hz1 : z.oneCell = true) (hi : P.info? e = some i)
    (hlen : len ≤ 16777216) (hps : partsA s parts.toList = some ps) (hr : fillA (fun j => some (j * 1, 1)) (List.replicate len z) ps = some r) {a : Act} {w : World} {p : Mp} (h : RelP v s a w p) :
    ∃ cs : Array Value, cs.size = len ∧ listIs v p r cs.toList ∧ (Instr.buildSlice t len (parts.map fun (j, x) => (j, a.eval x))).run P w = .ok (.slice (some ⟨w.heap.size, 0, none⟩) len len) (w.alloc (.cells cs e)) := by
  have hsz : i.size = 1 := by simpa [Program.cellsOf, hi] using h1
  have hpi := partsA_is h _ _ hps
  unfold zeroA at hz
  rw [hi] at hz
  cases hzz : i.zero with
  | none => simp [hzz] at hz
  | some zv =>
    simp only [hzz] at hz
    have hzi : z.Is v p zv := aOf_is hz
    have hinit : listIs v p (List.replicate len z) (List.replicate len zv) := by
      clear hr hlen
      induction len with
      | zero => rfl
      | succ n ih => exact ⟨zv, _, rfl, hzi, ih⟩
    obtain ⟨l', hl', hli⟩ := fill_is (fun j => some (j * 1, 1)) ps _ hpi (List.replicate len z) (List.replicate len zv).toArray (by simpa using hinit) r hr
    refine ⟨l', ?_, hli, ?_⟩
    · have := size_fill _ _ _ _ hl'
      simpa using this
    · have hmap : (parts.map fun (j, x) => (j, a.eval x)).toList = parts.toList.map fun ix => (ix.1, a.eval ix.2) := by simp
      have hzc : zv.cells = #[zv] := by
        have := (hzi.one hz1).2
        apply Array.ext'
        simpa using this
      have hzero : (zeroValue e).run P w = .ok zv w := by simp [zeroValue, typeInfo, hi, hzz]
      have hrange : (Array.range len).map (fun j => #[zv][j % 1]!) = (List.replicate len zv).toArray := by
        apply Array.ext'
        apply List.ext_getElem?
        intro j
        by_cases hj : j < len
        · simp [hj, Nat.mod_one]
        · simp [hj]
      by_cases h0 : len = 0
      · subst h0
        have hr0 : ∀ f : Nat → Value, Array.map f (Array.range 0) = #[] := fun f => by apply Array.ext'; simp
        simp only [List.replicate_zero] at hl'
        simp only [Nat.mul_one] at hl'
        simp [Instr.buildSlice, run_underlying hu, run_sizeOf w hi, h1, hr0, hl', newRow]
      · have hrun := run_buildSlice (P := P) w t e len (parts.map fun (j, x) => (j, a.eval x)) l' i zv hu hi hzz (by rw [hsz]; omega) (by rw [hsz]; omega) (by
          rw [hsz, hmap, hzc, Nat.mul_one]
          simp only [List.size_toArray, List.length_singleton]
          rw [hrange]
          exact hl')
        exact hrun

theorem does_buildSlice_num {t e : TypeId} {len : Nat} {parts : Array (Nat × Operand)} {ps : List (Nat × A)} {r : List A} {k : IntKind} {es : List I} {x0 : Nat} (hd : ∀ d, o.dst = some d → d < s.n) (ho : o.op = .buildSlice t len parts) (hu : P.underlying t = some (.slice e))
    (hz : zeroA P e = some (.sc (.int k (.lit 0)))) (h1 : P.cellsOf e = 1) (hlen : len ≤ 16777216) (hps : partsA s parts.toList = some ps) (hr : fillA (fun j => some (j * 1, 1)) (List.replicate len (.sc (.int k (.lit 0)))) ps = some r) (hes : r = es.map fun z => .sc (.int k z)) (hx0 : s.mem x0 = none) (nv ora) :
    Does P v s o ⟨.one (.bsl x0 (.lit 0) (.lit len) true), [(x0, newRowB e k (I.ofL es))], [], nv, ora⟩ := by
  obtain ⟨i, hi, hzv, hsz⟩ := elem_of hz h1
  refine does_newB hd hx0 fun a w p h => ?_
  obtain ⟨cs, c1, c2, c3⟩ := buildSlice_run (i := i) hu hz h1 rfl hi hlen hps hr h
  have hcs : cs.toList = (es.map (I.den v)).map (Value.int k) := by
    subst hes
    clear c3 hr
    have key : ∀ (es : List I) (l : List Value), listIs v p (es.map fun z => A.sc (.int k z)) l → l = (es.map (I.den v)).map (Value.int k) := by
      intro es
      induction es with
      | nil => intro l hl; exact hl
      | cons x es ih => intro l ⟨u, us, e, k1, k2⟩; rw [e, show u = _ from k1, ih us k2]; rfl
    exact key es _ c2
  have hl : es.length = len := by have := congrArg List.length hcs; simp at this; omega
  refine ⟨cs, fun q _ => ?_, ?_, fun q hq hqx => ⟨.slice (some ⟨w.heap.size, 0, none⟩) len len, ?_, ?_⟩⟩
  · show List.take ((I.ofL es).ldn v).length _ = _
    rw [I.ofL_ldn, hcs, List.take_of_length_le (by simp)]
  · rw [hcs]
    intro u hu
    obtain ⟨x, _, rfl⟩ := List.mem_map.1 hu
    rfl
  · unfold execOp
    rw [ho]
    simp only [Sem.run_bind, c3, Result.andThen_ok, Sem.run_pure]
    rfl
  · exact ⟨_, len, len, by simp only [I.den], rfl, Nat.le_refl _, by unfold maxLen; omega, .inr ⟨_, _, 0, hqx, by simp only [I.den]; rfl, rfl, fun _ => ⟨rfl, c1.symm⟩⟩⟩

theorem does_buildSlice_any {t e : TypeId} {len : Nat} {parts : Array (Nat × Operand)} {z : A} {ps : List (Nat × A)} {r : List A} {x0 : Nat} (hd : ∀ d, o.dst = some d → d < s.n) (ho : o.op = .buildSlice t len parts) (hu : P.underlying t = some (.slice e))
    (hz : zeroA P e = some z) (h1 : P.cellsOf e = 1) (hz1 : z.oneCell = true) (hlen : len ≤ 16777216) (hps : partsA s parts.toList = some ps) (hr : fillA (fun j => some (j * 1, 1)) (List.replicate len z) ps = some r) (hone : r.all A.oneCell = true) (hx0 : s.mem x0 = none) (nv ora) :
    Does P v s o ⟨.one (.slc x0 0 len none), [(x0, newBlk e r)], [], nv, ora⟩ := by
  obtain ⟨i, hi⟩ : ∃ i, P.info? e = some i := by
    unfold zeroA at hz
    cases hi : P.info? e with
    | none => simp [hi] at hz
    | some i => exact ⟨i, rfl⟩
  refine does_new hd hx0 (fun c hc => List.all_eq_true.1 hone c hc) fun a w p h => ?_
  obtain ⟨cs, c1, c2, c3⟩ := buildSlice_run (i := i) hu hz h1 hz1 hi hlen hps hr h
  refine ⟨cs, c2, fun q hq hqx => ⟨.slice (some ⟨w.heap.size, 0, none⟩) len len, ?_, ?_⟩⟩
  · unfold execOp
    rw [ho]
    simp only [Sem.run_bind, c3, Result.andThen_ok, Sem.run_pure]
  · refine ⟨w.heap.size, cs.size, hqx, by omega, ?_, by simp <;> omega, by simp <;> omega, by rw [c1]; unfold maxLen; omega⟩
    simp [c1]

/-! ### lengths -/
theorem does_len_bsl {c : Call} {x : Operand} {t e : TypeId} {m : Nat} {off len : I} {full : Bool} (hd : ∀ d, o.dst = some d → d < s.n) (ho : o.op = .call c) (hf : c.callee = .builtin .len) (hx : c.args = #[x]) (ht : c.argTypes[0]? = some t) (hu : P.underlying t = some (.slice e))
    (he : s.ev x = .one (.bsl m off len full)) (nv ora) : Does P v s o ⟨.one (.sc (.int .i64 len)), [], [], nv, ora⟩ := by
  refine does_value hd fun a w p h => ?_
  have hxx := h.ev x
  rw [he] at hxx
  obtain ⟨b, n, cc, l1, ex, _⟩ := hxx
  refine ⟨.int .i64 n, ?_, by show _ = Sc.den v _; simp only [Sc.den, l1]⟩
  unfold execOp
  rw [ho]
  simp [resolve, hf, hx, ex, invoke, builtin, Builtin.len_, ht, run_underlying hu, goInt]

theorem does_len_imm {c : Call} {x : Operand} {t e : TypeId} {l : I} {nl : Option Bx} (hd : ∀ d, o.dst = some d → d < s.n) (ho : o.op = .call c) (hf : c.callee = .builtin .len) (hx : c.args = #[x]) (ht : c.argTypes[0]? = some t) (hu : P.underlying t = some (.slice e))
    (he : s.ev x = .one (.imm l nl)) (nv ora) : Does P v s o ⟨.one (.sc (.int .i64 (mkLen l))), [], [], nv, ora⟩ := by
  refine does_value hd fun a w p h => ?_
  have hxx := h.ev x
  rw [he] at hxx
  obtain ⟨⟨b, cc, ex, _⟩, _⟩ := hxx
  refine ⟨.int .i64 ((l.ldn v).length : Nat), ?_, by show _ = Sc.den v _; simp only [Sc.den, mkLen_den]⟩
  unfold execOp
  rw [ho]
  simp [resolve, hf, hx, ex, invoke, builtin, Builtin.len_, ht, run_underlying hu, goInt]

theorem does_len_immP {c : Call} {x : Operand} {t e : TypeId} {n : Nat} (hd : ∀ d, o.dst = some d → d < s.n) (ho : o.op = .call c) (hf : c.callee = .builtin .len) (hx : c.args = #[x]) (ht : c.argTypes[0]? = some t) (hu : P.underlying t = some (.slice e))
    (he : s.ev x = .one (.immP n)) (nv ora) : Does P v s o ⟨.one (.sc (.int .i64 (.plen n))), [], [], nv, ora⟩ := by
  refine does_value hd fun a w p h => ?_
  have hxx := h.ev x
  rw [he] at hxx
  obtain ⟨b, cc, ex, _⟩ := hxx
  refine ⟨.int .i64 ((v.pp n).length : Nat), ?_, by show _ = Sc.den v _; simp only [Sc.den, I.den]⟩
  unfold execOp
  rw [ho]
  simp [resolve, hf, hx, ex, invoke, builtin, Builtin.len_, ht, run_underlying hu, goInt]

theorem does_cap_nil {c : Call} {x : Operand} {t e : TypeId} (hd : ∀ d, o.dst = some d → d < s.n) (ho : o.op = .call c) (hf : c.callee = .builtin .cap) (hx : c.args = #[x]) (ht : c.argTypes[0]? = some t) (hu : P.underlying t = some (.slice e))
    (he : s.ev x = .one .nils) (nv ora) : Does P v s o ⟨.one (.sc (.int .i64 (.lit 0))), [], [], nv, ora⟩ := by
  refine does_value hd fun a w p h => ⟨.int .i64 0, ?_, by show _ = Sc.den v _; simp only [Sc.den, I.den]⟩
  have hxx := h.ev x
  rw [he] at hxx
  have ex : a.eval x = .slice none 0 0 := hxx
  unfold execOp
  rw [ho]
  simp [resolve, hf, hx, ex, invoke, builtin, Builtin.cap_, ht, run_underlying hu, goInt]

theorem does_s2ap {t e : TypeId} {x : Operand} {m n : Nat} {off len : I} {full : Bool} {ev : List Ev} (hd : ∀ d, o.dst = some d → d < s.n) (ho : o.op = .sliceToArrayPointer t x) (hx : s.ev x = .one (.bsl m off len full))
    (hu : P.underlying t = some (.array n e)) (hn : 0 < n) (hev : leEv (.lit n) len = some ev) (he : ∀ e ∈ ev, e.holds P v) (nv ora) : Does P v s o ⟨.one (.bptr m off), [], ev, nv, ora⟩ := by
  refine does_value hd fun a w p h => ?_
  have hxx := h.ev x
  rw [hx] at hxx
  obtain ⟨b, k, c, l1, ex, l2, l3, l4⟩ := hxx
  have g := leEv_ok hev he
  simp only [I.den] at g
  rw [l1] at g
  have hle : n ≤ k := by omega
  rcases l4 with l4 | ⟨r, N, q, l5, l6, rfl, l7⟩
  · exfalso; omega
  · refine ⟨.pointer (some ⟨r, q, none⟩), ?_, r, N, q, l5, l6, rfl⟩
    unfold execOp
    rw [ho]
    have := run_arrayAt (P := P) (w := w) t e n (some ⟨r, q, none⟩) k c hu hle
    simp [ex, this]

end
end Go.Sx
