/- Symbolic operations: calls with slices. -/
import Derived.Test.YtijnfclocanhkaaDoorSy5
set_option linter.unusedVariables false
set_option linter.unusedSimpArgs false
namespace Go.Sx
open Go Go.RowKit

section
variable {P : Program} {v : Env} {s : Sig} {o : Oper}

def sliceT (P : Program) (t : TypeId) : Bool := match P.underlying t with | some (.slice _) => true | _ => false
/-- the element's type, of a slice of bytes -/
def bytesT (P : Program) (t : TypeId) : Option TypeId := match P.underlying t with | some (.slice e) => (match P.underlying e with | some (.int .u8) => some e | _ => none) | _ => none
def arr64 (P : Program) (e : TypeId) : Option TypeId := (List.range P.types.size).find? fun t => match P.underlying t with | some (.array 64 e') => decide (e' = e) | _ => false

/-- a new slice, whole -/
def fullE (e : TypeId) (nv : Nat) : ERes := .fresh e (.lvar nv) (.lit 0) (.len (.lvar nv)) true
def fullA (x0 nv : Nat) : A := .bsl x0 (.lit 0) (.len (.lvar nv)) true
/-- a slice of new memory -/
def someE (T : TypeId) (nv : Nat) : ERes := .fresh T (.lvar nv) (.var nv) (.var (nv + 1)) false
def someA (x0 nv : Nat) : A := .bsl x0 (.var nv) (.var (nv + 1)) false

theorem fresh_rel {T : TypeId} {l off len : I} {full : Bool} {w w' : World} {p : Mp} {a : Act} {u : Value} {x0 : Nat} (h : RelP v s a w p) (hb : Below w.heap.size w w') (hx0 : s.mem x0 = none) (h0 : 0 ≤ off.den v) (h1 : 0 ≤ len.den v) (hr : ((ERes.fresh T l off len full).den v).Is w.heap.size w' u) :
    ∃ q, p.le q ∧ RelP v (s.setM x0 (newRowB T .u8 l)) a w' q ∧ (A.bsl x0 off len full).Is v q u := by
  obtain ⟨b, c, rfl, h2, h3, h4⟩ := hr
  have e0 : ((off.den v).toNat : Int) = off.den v := Int.toNat_of_nonneg h0
  have e1 : ((len.den v).toNat : Int) = len.den v := Int.toNat_of_nonneg h1
  rcases h4 with h4 | ⟨r, cs, rfl, h5, h6, h7, h8, h9⟩
  · exact ⟨p, p.le_refl, (h.world hb).ghost hx0 rfl, b, (len.den v).toNat, c, e1.symm, rfl, h2, h3, .inl h4⟩
  · obtain ⟨q, q1, q2, q3⟩ := h.fresh (x := x0) (b := newRowB T .u8 l) (cs := cs) hx0 hb h5 h6 (fun q _ _ => h7) h8
    exact ⟨q, q1, q3, _, (len.den v).toNat, c, e1.symm, rfl, h2, h3, .inr ⟨r, cs.size, (off.den v).toNat, q2, e0.symm, rfl, h9⟩⟩

theorem callS_run {c : Call} {f : FuncId} {as : List EArg} {rs : List ERes} {ts : List TypeId} {ev : List Ev} (ho : o.op = .call c) (hf : c.callee = .value (.func f)) (has : argsE P s c.args.toList ts = some (as, ev)) (he : ∀ e ∈ ev, e.holds P v)
    (hc : CallS P v.L f (as.map (EArg.den v)) (rs.map (ERes.den v))) {a : Act} {w : World} {p : Mp} (h : RelP v s a w p) {K : Act → World → Prop} {Q : Exit → Act → World → Prop}
    (hK : ∀ w' vs, Below w.heap.size w w' → resIs w.heap.size w' (rs.map (ERes.den v)) vs → K (a.put o.dst (retOf vs)) w') : o.wp P a w K Q := by
  obtain ⟨hen, hcalls⟩ := hc w _ h.laid.1 h.laid.2 (argsE_is has he h)
  have hargs : c.args.map a.eval = (c.args.toList.map a.eval).toArray := by
    apply Array.ext'
    simp
  have hrun : (execOp a.eval o).run P w = .ok (.enter f (c.args.toList.map a.eval).toArray) w := by
    unfold execOp
    rw [ho]
    simp only [resolve, hf, hargs, Act.eval, Deferred.ofValue, Sem.run_bind, Sem.run_pure, Result.andThen_ok, invoke]
    simpa using hen
  unfold Oper.wp
  rw [hrun, Oper.upon_enter]
  refine hcalls.mono fun e w' ⟨vs, h1, h2, h3⟩ => ?_
  subst h1
  exact hK w' vs h3 h2

theorem resIs_vals {B : Nat} {w : World} : ∀ {r : List A} {vs : List Value}, resIs B w ((r.map ERes.val).map (ERes.den v)) vs → vs = r.map (A.val v)
  | [], vs, h => h
  | a :: r, vs, ⟨u, us, e, h1, h2⟩ => by rw [e, show u = _ from h1, resIs_vals h2]; rfl

theorem retOf_val (r : List A) : retOf (r.map (A.val v)) = (resA r).val v := by
  unfold retOf resA
  match r with
  | [] => rfl
  | [x] => rfl
  | x :: y :: l => rfl

theorem does_callS_pure {c : Call} {f : FuncId} {as : List EArg} {r : List A} {m nv : Nat} {ts rt : List TypeId} {ev : List Ev} {ora : List (Option Bool)} (hd : ∀ d, o.dst = some d → d < s.n) (ho : o.op = .call c) (hf : c.callee = .value (.func f))
    (has : argsE P s c.args.toList ts = some (as, ev)) (hr : freshAs P nv rt = some (r, m)) (he : ∀ e ∈ ev ++ Ev.callS f as (r.map .val) :: (decAs r ora).2.1, e.holds P v) :
    Does P v s o ⟨resA (decAs r ora).1, [], ev ++ Ev.callS f as (r.map .val) :: (decAs r ora).2.1, m, (decAs r ora).2.2⟩ := by
  intro a w p h K Q hK
  have hcall : CallS P v.L f (as.map (EArg.den v)) ((r.map ERes.val).map (ERes.den v)) := he (Ev.callS f as (r.map .val)) (by simp)
  have hval : (resA (decAs r ora).1).val v = (resA r).val v := resA_val (decAs_val r ora fun e hm => he e (by simp [hm]))
  have hpure := decAs_pure r ora (freshAs_pure hr)
  refine callS_run ho hf has (fun e hm => he e (by simp [hm])) hcall h fun w' vs hb hvs => ?_
  rw [resIs_vals hvs, retOf_val, ← hval]
  exact hK _ _ _ ((h.world hb).put hd (resA_is hpure p))

theorem does_callS_row {c : Call} {f : FuncId} {as : List EArg} {nv x0 : Nat} {e : TypeId} {ts : List TypeId} {ev : List Ev} {ora : List (Option Bool)} (hd : ∀ d, o.dst = some d → d < s.n) (ho : o.op = .call c) (hf : c.callee = .value (.func f))
    (has : argsE P s c.args.toList ts = some (as, ev)) (hx0 : s.mem x0 = none) (he : ∀ e' ∈ ev ++ [Ev.callS f as [fullE e nv]], e'.holds P v) :
    Does P v s o ⟨.one (fullA x0 nv), [(x0, newRowB e .u8 (.lvar nv))], ev ++ [Ev.callS f as [fullE e nv]], nv + 1, ora⟩ := by
  intro a w p h K Q hK
  have hcall : CallS P v.L f (as.map (EArg.den v)) ([fullE e nv].map (ERes.den v)) := he (Ev.callS f as [fullE e nv]) (by simp)
  refine callS_run ho hf has (fun e hm => he e (by simp [hm])) hcall h fun w' vs hb hvs => ?_
  obtain ⟨u, us, rfl, h1, h2⟩ := hvs
  obtain ⟨q, q1, q2, q3⟩ := fresh_rel h hb hx0 (by simp [I.den]) (by simp [I.den]) h1
  rw [show us = [] from h2]
  exact hK _ _ q (q2.put hd q3)

theorem does_callS_two {c : Call} {f : FuncId} {as : List EArg} {y : A} {nv m x0 : Nat} {T t : TypeId} {ts : List TypeId} {ev : List Ev} {ora : List (Option Bool)} (hd : ∀ d, o.dst = some d → d < s.n) (ho : o.op = .call c) (hf : c.callee = .value (.func f))
    (has : argsE P s c.args.toList ts = some (as, ev)) (hy : freshA P nv t = some (y, m)) (hx0 : s.mem x0 = none)
    (he : ∀ e' ∈ ev ++ [Ev.callS f as [.val y, someE T m], .dec (.cmp .leq (.lit 0) (.var m)) true, .dec (.cmp .leq (.lit 0) (.var (m + 1))) true], e'.holds P v) :
    Does P v s o ⟨.tup [y, someA x0 m], [(x0, newRowB T .u8 (.lvar m))], ev ++ [Ev.callS f as [.val y, someE T m], .dec (.cmp .leq (.lit 0) (.var m)) true, .dec (.cmp .leq (.lit 0) (.var (m + 1))) true], m + 2, ora⟩ := by
  intro a w p h K Q hK
  have hcall : CallS P v.L f (as.map (EArg.den v)) ([.val y, someE T m].map (ERes.den v)) := he (Ev.callS f as [.val y, someE T m]) (by simp)
  have g1 := he (.dec (.cmp .leq (.lit 0) (.var m)) true) (by simp)
  have g2 := he (.dec (.cmp .leq (.lit 0) (.var (m + 1))) true) (by simp)
  simp only [Ev.holds, Bx.den, cmpD, decide_eq_true_eq] at g1 g2
  refine callS_run ho hf has (fun e hm => he e (by simp [hm])) hcall h fun w' vs hb hvs => ?_
  obtain ⟨u, us, rfl, h1, u2, us2, rfl, h2, h3⟩ := hvs
  obtain ⟨q, q1, q2, q3⟩ := fresh_rel h hb hx0 (by simpa [I.den] using g1) (by simpa [I.den] using g2) h2
  rw [show us2 = [] from h3]
  refine hK _ _ q (q2.put hd ⟨_, rfl, u, [u2], rfl, ?_, u2, [], rfl, q3, rfl⟩)
  rw [show u = _ from h1]
  exact A.pure_is (freshA_pure hy) q

/-! ### turning about -/
theorem RelP.weaken {a : Act} {w : World} {p : Mp} (h : RelP v s a w p) {m : Nat} {b b' : Blk} (hm : s.mem m = some b) (hd : b.dead = false) (hT : b'.T = b.T) (ho : b'.own = b.own) (hrow : b'.row.isSome = true) (hh : ∀ cs, b.holds v p cs → b'.holds v p cs) :
    RelP v (s.setM m b') a w p := by
  have alive : ∀ y c, (s.setM m b').mem y = some c → c.dead = false → ∃ c0, s.mem y = some c0 ∧ c0.dead = false := by
    intro y c hy hc
    simp only [Sig.setM] at hy
    by_cases e : y = m
    · exact ⟨b, by rw [e]; exact hm, hd⟩
    · rw [if_neg e] at hy; exact ⟨c, hy, hc⟩
  refine ⟨h.defers, h.size, h.base, h.below, ?_, ?_, ?_, h.glob, h.frame, h.gk, h.g0⟩
  · intro y z r n k c d hy hcd hz hdd hqy hqz
    obtain ⟨c0, h1, h2⟩ := alive y c hy hcd
    obtain ⟨d0, h3, h4⟩ := alive z d hz hdd
    exact h.inj y z r n k c0 d0 h1 h2 h3 h4 hqy hqz
  · intro y c hy
    simp only [Sig.setM] at hy
    by_cases e : y = m
    · rw [if_pos e] at hy
      cases hy
      rw [e]
      rcases h.mem m b hm with hn | ⟨r, n, h1, h2, h3⟩
      · exact .inl ⟨hrow, hn.2⟩
      · refine .inr ⟨r, n, h1, h2, fun _ => ?_⟩
        obtain ⟨cs, fz, k1, k2, k3, k4⟩ := h3 hd
        exact ⟨cs, fz, by rw [hT]; exact k1, k2, hh _ k3, fun hb' => k4 (by rw [← ho]; exact hb')⟩
    · rw [if_neg e] at hy
      exact h.mem y c hy
  · intro y hy
    simp only [Sig.setM] at hy
    by_cases e : y = m
    · simp [e] at hy
    · rw [if_neg e] at hy; exact h.free y hy

theorem does_rev {c : Call} {f : FuncId} {x : Operand} {m : Nat} {off len l : I} {b : Blk} {ev : List Ev} (hd : ∀ d, o.dst = some d → d < s.n) (ho : o.op = .call c) (hf : c.callee = .value (.func f)) (hargs : c.args = #[x]) (hx : s.ev x = .one (.bsl m off len true))
    (hm : s.mem m = some b) (hb : b.dead = false) (hown : b.own = true) (hn : b.nums = some (.u8, l)) (hev : leEv len (mkLen l) = some ev) (he : ∀ e ∈ ev ++ [Ev.rev f], e.holds P v) (nv ora) :
    Does P v s o ⟨.tup [], [(m, { b with cells := [], row := some (.u8, mkRev (mkPart l (.lit 0) len)) })], ev ++ [Ev.rev f], nv, ora⟩ := by
  intro a w p h K Q hK
  have hxx := h.ev x
  rw [hx] at hxx
  obtain ⟨ba, n, cc, l1, l2, l3, l4, l5⟩ := hxx
  have hle := leEv_ok hev (fun e hm => he e (by simp [hm]))
  rw [mkLen_den, l1] at hle
  have hrev : Reverser P f := he (.rev f) (by simp)
  have hrow : (mkRev (mkPart l (.lit 0) len)).ldn v = ((l.ldn v).take n).reverse := by
    rw [mkRev_ldn, mkPart_ldn, l1]
    simp [I.den]
  have hlen : ((l.ldn v).take n).length = n := by rw [List.length_take]; omega
  obtain ⟨hen, hnil, hrev⟩ := hrev w ba cc ((l.ldn v).take n) (by rw [hlen]; exact l3) l4
  rw [hlen] at hen hnil hrev
  have hrun : (execOp a.eval o).run P w = .ok (.enter f #[.slice ba n cc]) w := by
    unfold execOp
    rw [ho]
    simp only [resolve, hf, hargs, Act.eval, Deferred.ofValue, Sem.run_bind, Sem.run_pure, Result.andThen_ok, invoke]
    simpa [l2] using hen
  unfold Oper.wp
  rw [hrun, Oper.upon_enter]
  have htup : ∀ q, AV.Is v q (.tup []) (.tuple #[]) := fun q => ⟨#[], rfl, rfl⟩
  rcases l5 with l5 | ⟨r, N, q, p1, p2, p3, p4⟩
  · refine (hnil l5).mono fun e w' ⟨h1, h2⟩ => ?_
    subst h1
    have hn0 : n = 0 := by omega
    refine hK _ _ p (RelP.put (RelP.weaken (b' := { b with cells := [], row := some (.u8, mkRev (mkPart l (.lit 0) len)) }) (h.world h2) hm hb rfl rfl rfl fun cs _ => ?_) hd (htup p))
    show List.take ((mkRev (mkPart l (.lit 0) len)).ldn v).length _ = List.map _ _
    rw [hrow, hn0]
    simp
  · obtain ⟨rfl, rfl⟩ := p4 rfl
    obtain ⟨_, hB⟩ := h.at hm p1
    obtain ⟨cs, fz, k1, k2, k3, k4, k5, k6⟩ := nums_cell hB hb hn
    obtain ⟨k7, rfl, k8⟩ := k6 hown
    have h9 : cs.toList.take n = ((l.ldn v).take n).map (Value.int .u8) := by
      have := congrArg (List.take n) k3
      rw [List.take_take, Nat.min_eq_left (by omega), ← List.map_take] at this
      exact this
    refine (hrev r cs b.T p3 k1 h9).mono fun e w' ⟨h1, q, h2⟩ => ?_
    subst h1 h2
    have hw : RelP v s a (w.drewN q) p := h.world ⟨rfl, rfl, rfl, Nat.le_refl _, fun _ _ => rfl⟩
    have hst := hw.store (b' := { b with cells := [], row := some (.u8, mkRev (mkPart l (.lit 0) len)) }) (cs := cs) (cs' := (((l.ldn v).take n).reverse.map (Value.int .u8) ++ cs.toList.drop n).toArray) hm hb k7 p1 k1 rfl (fun _ => rfl)
      (by simp; omega) (by
        show List.take ((mkRev (mkPart l (.lit 0) len)).ldn v).length _ = List.map _ _
        rw [hrow, List.toList_toArray, List.take_left' (by simp)]) (by
        intro u hu
        simp only [List.toList_toArray, List.mem_append] at hu
        rcases hu with hu | hu
        · obtain ⟨x, _, rfl⟩ := List.mem_map.1 hu; rfl
        · exact k8 u (List.mem_of_mem_drop hu))
    exact hK _ _ p (hst.put hd (htup p))

end
end Go.Sx
