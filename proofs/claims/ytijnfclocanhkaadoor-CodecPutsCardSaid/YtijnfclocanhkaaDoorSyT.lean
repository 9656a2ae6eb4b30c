/- Symbolic operations: what grows. -/
import Derived.Test.YtijnfclocanhkaaDoorSyS
import Derived.Lib.AppendZerosOnto
set_option linter.unusedVariables false
set_option linter.unusedSimpArgs false
namespace Go.Sx
open Go Go.RowKit

section
variable {P : Program} {v : Env} {s : Sig} {o : Oper}

theorem setRow_self {w : World} {r : Nat} {cs : Array Value} {T : TypeId} {fz : Nat × Nat} (h : w.heap[r]? = some (.cells cs T fz)) : w.setRow r cs = w := by
  have hlt := (Array.getElem?_eq_some_iff.1 h).1
  have he : w.heap.modify r (fun | .cells _ elem frozen => .cells cs elem frozen | o => o) = w.heap := by
    apply Array.ext_getElem?
    intro j
    rw [Array.getElem?_modify]
    by_cases e : r = j
    · subst e
      rw [if_pos rfl, h]
      rfl
    · rw [if_neg e]
  have : w.setRow r cs = { w with heap := w.heap.modify r (fun | .cells _ elem frozen => .cells cs elem frozen | o => o) } := rfl
  rw [this, he]

/-- u is a slice that reads as these numbers of kind k -/
def ReadsK (k : IntKind) (w : World) (u : Value) (bs : List Int) : Prop :=
  ∃ b c, u = .slice b bs.length c ∧ bs.length ≤ c ∧ c ≤ maxLen ∧ (c = 0 ∨ ∃ r o, b = some ⟨r, o, none⟩ ∧ ∀ j x, bs[j]? = some x → w.cell? ⟨r, o + j, none⟩ = some (.int k x))

theorem readsK_u8 {w : World} {u : Value} {bs : List Int} : ReadsK .u8 w u bs ↔ Reads w u bs := Iff.rfl

/-- what a slice of numbers reads -/
def readA (s : Sig) (k : IntKind) (a : A) : Option (I × List Ev) :=
  match a with
  | .nils => some (.nil, [])
  | .bsl y off len _ => match s.mem y with
    | some b => match b.dead, b.nums with
      | false, some (k', l) => if k' = k then (match leEv (mkSum off len) (mkLen l) with | some ev => some (mkPart l off len, ev) | none => none) else none
      | _, _ => none
    | none => none
  | .imm l _ => if k = .u8 then some (l, []) else none
  | _ => none

theorem readA_is {k : IntKind} {a : A} {l : I} {ev : List Ev} (h : readA s k a = some (l, ev)) (he : ∀ e ∈ ev, e.holds P v) {ac : Act} {w : World} {p : Mp} (hr : RelP v s ac w p) {u : Value} (ha : a.Is v p u) : ReadsK k w u (l.ldn v) := by
  unfold readA at h
  split at h
  · simp only [Option.some.injEq, Prod.mk.injEq] at h
    obtain ⟨rfl, rfl⟩ := h
    rw [show u = _ from ha]
    simp only [I.ldn]
    exact ⟨none, 0, rfl, Nat.le_refl _, Nat.zero_le _, .inl rfl⟩
  · rename_i y off len full
    split at h
    case h_2 => cases h
    rename_i b hm
    split at h
    case h_2 => cases h
    rename_i k' l' hb hn
    split at h
    case isFalse => cases h
    rename_i hk
    subst hk
    split at h
    case h_2 => cases h
    rename_i ev' hev
    simp only [Option.some.injEq, Prod.mk.injEq] at h
    obtain ⟨rfl, rfl⟩ := h
    obtain ⟨ba, n, c, l1, l2, l3, l4, l5⟩ := ha
    have hle := leEv_ok hev he
    rw [mkSum_den, mkLen_den, l1] at hle
    have hlen : ((mkPart l' off len).ldn v).length = n := by
      rw [mkPart_ldn, List.length_take, List.length_drop, l1]
      rcases l5 with l5 | ⟨r, N, q, _, l6, _⟩
      · omega
      · omega
    refine ⟨ba, c, by rw [hlen]; exact l2, by rw [hlen]; exact l3, l4, ?_⟩
    rcases l5 with l5 | ⟨r, N, q, l5, l6, l7, _⟩
    · exact .inl l5
    · refine .inr ⟨r, q, l7, fun j x hj => ?_⟩
      obtain ⟨_, hB⟩ := hr.at hm l5
      obtain ⟨_, _, _, _, _, _, hc, _⟩ := nums_cell hB hb hn
      rw [mkPart_ldn, List.getElem?_take] at hj
      split at hj
      · rw [List.getElem?_drop, l6, Int.toNat_natCast] at hj
        exact hc _ _ hj
      · cases hj
  · split at h
    · rename_i hk
      subst hk
      simp only [Option.some.injEq, Prod.mk.injEq] at h
      obtain ⟨rfl, rfl⟩ := h
      obtain ⟨b, c, l1, l2, l3, l4⟩ := ha.1
      refine ⟨b, c, l1, l2, l3, ?_⟩
      rcases l4 with l4 | ⟨r, q, l4, l5⟩
      · exact .inl l4
      · exact .inr ⟨r, q, l4, fun j x hj => by rw [hr.below.cell (World.block_lt_of_cell? _ _ (l5 j x hj))]; exact l5 j x hj⟩
    · cases h
  · cases h

/-! ### append, in the world -/
theorem zeros_list (k : IntKind) (n : Nat) : (Builtin.zeroCells #[Value.int k 0] n).toList = List.replicate n (Value.int k 0) := by
  have := toList_madeCells_one (Value.int k 0) n
  rw [← this]
  unfold Builtin.zeroCells madeCells
  simp

/-- what append does: nothing is added; it is added in place; a new block is made -/
def Grows (e : TypeId) (w : World) (b : Option Addr) (n c : Nat) (olds news : List Value) (u' : Value) (w' : World) : Prop :=
  (news = [] ∧ u' = .slice b n c ∧ w' = w) ∨
  (∃ r cs, b = some ⟨r, 0, none⟩ ∧ w.heap[r]? = some (.cells cs e (0, 0)) ∧ cs.size = c ∧ n + news.length ≤ c ∧ c ≠ 0 ∧ u' = .slice b (n + news.length) c ∧ w' = w.setRow r (cs.toList.take n ++ news ++ cs.toList.drop (n + news.length)).toArray) ∨
  (∃ cap zs, u' = .slice (some ⟨w.heap.size, 0, none⟩) (n + news.length) cap ∧ n + news.length ≤ cap ∧ cap ≤ maxLen ∧ (olds ++ news ++ zs).length = cap ∧ (∀ u ∈ zs, u.oneCell' = true) ∧ w' = w.drew.alloc (.cells (olds ++ news ++ zs).toArray e))

theorem replicate_one (n : Nat) (k : IntKind) : ∀ u ∈ List.replicate n (Value.int k 0), u.oneCell' = true := by
  intro u hu
  rw [List.eq_of_mem_replicate hu]; rfl

theorem append_slice {t ty e : TypeId} {k : IntKind} {i : TypeInfo} (hu : P.underlying t = some (.slice e)) (hi : P.info? e = some i) (hz : i.zero = some (.int k 0)) (hsz : i.size = 1) (hby : i.bytes ≤ 8)
    {w : World} {b : Option Addr} {n c : Nat} {ux : Value} {bs : List Int} (hx : ReadsK k w ux bs) (hnc : n ≤ c) (hbig : n + bs.length ≤ 1099511627776) {olds : List Value} (hol : olds.length = n)
    (hold : c = 0 ∨ ∃ r cs, b = some ⟨r, 0, none⟩ ∧ w.heap[r]? = some (.cells cs e (0, 0)) ∧ cs.size = c ∧ cs.toList.take n = olds) :
    ∃ u' w', (Builtin.append_ #[t, t] ty #[.slice b n c, ux]).run P w = .ok u' w' ∧ Grows e w b n c olds (bs.map (Value.int k)) u' w' := by
  obtain ⟨b2, c2, rfl, h1, h2, h3⟩ := hx
  have hmx : 1099511627776 ≤ maxLen := by decide
  by_cases hm : bs = []
  · subst hm
    refine ⟨.slice b n c, w, ?_, .inl ⟨rfl, rfl, rfl⟩⟩
    cases b <;> cases b2 <;> simp [Builtin.append_, run_underlying hu, sizeOf, typeInfo, hi, Builtin.lenOf, Builtin.firstCells, hnc, storeCells, loadCells, loadCellsFrom]
  · have hpos : 0 < bs.length := List.length_pos_iff.2 hm
    rcases h3 with h3 | ⟨r2, o2, rfl, h4⟩
    · exfalso; omega
    have hnews : ∀ j u, (bs.map (Value.int k))[j]? = some u → w.cell? ((⟨r2, o2, none⟩ : Addr).add j) = some u := by
      intro j u hj
      rw [List.getElem?_map, Option.map_eq_some_iff] at hj
      obtain ⟨x, hx, rfl⟩ := hj
      rw [add_lit1]
      exact h4 j x hx
    have hone : ∀ u ∈ bs.map (Value.int k), u.oneCell' = true := by
      intro u hu
      obtain ⟨x, _, rfl⟩ := List.mem_map.1 hu
      rfl
    have hl : (bs.map (Value.int k)).length = bs.length * i.size := by rw [hsz]; simp
    have hb1 : (n + bs.length) * i.bytes ≤ 1099511627776 * 8 := Nat.mul_le_mul hbig hby
    by_cases hroom : n + bs.length ≤ c
    · rcases hold with hold | ⟨r, cs, rfl, h5, h6, h7⟩
      · exfalso; omega
      · have hr := run_append_room (P := P) w t ty e i hu hi r n c cs h5 ⟨r2, o2, none⟩ bs.length c2 _ hl hnews hone hroom (by rw [hsz]; simp; omega)
        rw [hsz, Nat.mul_one] at hr
        exact ⟨_, _, hr, .inr (.inl ⟨r, cs, rfl, h5, h6, by simpa using hroom, by omega, by simp, rfl⟩)⟩
    · have hcap := grownCap_ge w (n + bs.length) c e
      have hcm := grownCap_le_maxLen w (n + bs.length) c e (by omega)
      have fin : ∀ u' w', u' = .slice (some ⟨w.heap.size, 0, none⟩) (n + bs.length) (grownCap w (n + bs.length) c e) → w' = w.drew.alloc (.cells (olds.toArray ++ (bs.map (Value.int k)).toArray ++ Builtin.zeroCells #[Value.int k 0] (grownCap w (n + bs.length) c e - (n + bs.length))) e) →
          Grows e w b n c olds (bs.map (Value.int k)) u' w' := by
        intro u' w' hu' hw'
        refine .inr (.inr ⟨grownCap w (n + bs.length) c e, List.replicate (grownCap w (n + bs.length) c e - (n + bs.length)) (Value.int k 0), by simpa using hu', by simpa using hcap, hcm, ?_, replicate_one _ _, ?_⟩)
        · simp [hol]; omega
        · rw [hw']
          congr 2
          apply Array.ext'
          simp [zeros_list]
      have hgrow : ∀ ba : Addr, b = some ba → (∀ j u, olds[j]? = some u → w.cell? (ba.add j) = some u) → ∃ u' w', (Builtin.append_ #[t, t] ty #[.slice b n c, .slice (some ⟨r2, o2, none⟩) bs.length c2]).run P w = .ok u' w' ∧ Grows e w b n c olds (bs.map (Value.int k)) u' w' := by
        rintro ba rfl hcells
        have hr := run_append_grow (P := P) w t ty e i (.int k 0) hu hi hz ba n c olds (by rw [hsz]; omega) hcells ⟨r2, o2, none⟩ bs.length c2 _ hl hnews (by omega) (by omega) (growslice_fits (by omega) (by omega))
        exact ⟨_, _, hr, fin _ _ rfl rfl⟩
      rcases hold with hold | ⟨r, cs, rfl, h5, h6, h7⟩
      · subst hold
        have hn0 : n = 0 := by omega
        subst hn0
        have hon : olds = [] := List.eq_nil_of_length_eq_zero hol
        subst hon
        cases b with
        | none =>
          have hr := run_append_nil (P := P) w t ty e i (.int k 0) hu hi hz ⟨r2, o2, none⟩ bs.length c2 _ hl hnews hpos (by omega) (by rw [Nat.zero_add] at hb1; omega)
          refine ⟨_, _, hr, fin _ _ (by rw [Nat.zero_add]) ?_⟩
          rw [Nat.zero_add]
          simp [Value.cells]
        | some ba => exact hgrow ba rfl (by simp)
      · refine hgrow _ rfl fun j u hj => ?_
        rw [add_lit1, Nat.zero_add]
        rw [← h7, List.getElem?_take] at hj
        split at hj
        · simp only [World.cell?, h5]; simpa using hj
        · cases hj

theorem append_zeros {t tn ty e : TypeId} {k kn kq : IntKind} {i : TypeInfo} (hu : P.underlying t = some (.slice e)) (htn : P.underlying tn = some (.int kn)) (hi : P.info? e = some i) (hz : i.zero = some (.int k 0)) (hsz : i.size = 1) (hby : i.bytes ≤ 8)
    {w : World} {b : Option Addr} {n c m : Nat} (hnc : n ≤ c) (hbig : n + m ≤ 1099511627776) {olds : List Value} (hol : olds.length = n)
    (hold : c = 0 ∨ ∃ r cs, b = some ⟨r, 0, none⟩ ∧ w.heap[r]? = some (.cells cs e (0, 0)) ∧ cs.size = c ∧ cs.toList.take n = olds) :
    ∃ u' w', (Builtin.append_ #[t, tn] ty #[.slice b n c, .int kq (m : Int)]).run P w = .ok u' w' ∧ Grows e w b n c olds (List.replicate m (Value.int k 0)) u' w' := by
  have hmx : 1099511627776 ≤ maxLen := by decide
  have hw : IntKind.i64.wrap (m : Int) = m := by rw [IntKind.wrap_i64]; omega
  have hneg : ¬ ((m : Int) < 0) := by omega
  have hb1 : (n + m) * i.bytes ≤ 1099511627776 * 8 := Nat.mul_le_mul hbig hby
  have hb2 : m * i.bytes ≤ 1099511627776 * 8 := Nat.mul_le_mul (by omega) hby
  have h48i : ¬ (281474976710656 < (m : Int) * (i.bytes : Int)) := by
    rw [← Int.natCast_mul]
    omega
  by_cases hm : m = 0
  · subst hm
    refine ⟨.slice b n c, w, ?_, .inl ⟨rfl, rfl, rfl⟩⟩
    have hw0 : IntKind.i64.wrap 0 = 0 := by rw [IntKind.wrap_i64]; rfl
    cases b <;> simp [Builtin.append_, run_underlying hu, run_underlying htn, sizeOf, typeInfo, hi, asInt, asIntOf, hw0, hnc, storeCells]
  · have hns : ¬ (m * i.size = 0) := by rw [hsz]; omega
    by_cases hroom : n + m ≤ c
    · rcases hold with hold | ⟨r, cs, rfl, h5, h6, h7⟩
      · exfalso; omega
      · have hst := run_storeCells_at P r n e (List.replicate m (Value.int k 0)) 0 cs w h5 (by simp; omega) (replicate_one _ _)
        simp only [Nat.add_zero] at hst
        refine ⟨.slice (some ⟨r, 0, none⟩) (n + m) c, _, ?_, .inr (.inl ⟨r, cs, rfl, h5, h6, by simpa using hroom, by omega, by simp, rfl⟩)⟩
        have hzl : (Builtin.zeroCells #[Value.int k 0] m).toList = List.replicate m (Value.int k 0) := zeros_list k m
        simp [Builtin.append_, run_underlying hu, run_underlying htn, sizeOf, typeInfo, zeroValue, hi, hz, asInt, asIntOf, hw, hneg, hm, h48i, hsz, hroom, add_lit1, Value.cells, hzl, hst]
    · have hcap := grownCap_ge w (n + m) c e
      have hcm := grownCap_le_maxLen w (n + m) c e (by omega)
      have hfc : (Builtin.firstCells i.size n (.slice b n c)).run P w.drew = .ok olds.toArray w.drew := by
        rcases hold with hold | ⟨r, cs, rfl, h5, h6, h7⟩
        · have hn0 : n = 0 := by omega
          subst hn0
          have hon : olds = [] := List.eq_nil_of_length_eq_zero hol
          subst hon
          cases b with
          | none => simp [Builtin.firstCells]
          | some ba => simp [Builtin.firstCells, loadCells, loadCellsFrom]
        · refine run_firstCells_some (P := P) w.drew i.size n ⟨r, 0, none⟩ n c olds (by rw [hsz]; omega) fun j u hj => ?_
          rw [add_lit1, Nat.zero_add]
          rw [← h7, List.getElem?_take] at hj
          split at hj
          · have : w.drew.cell? ⟨r, j, none⟩ = w.cell? ⟨r, j, none⟩ := rfl
            rw [this]
            simp only [World.cell?, h5]; simpa using hj
          · cases hj
      have hr := Lib.run_append_grow_zeros (P := P) w t tn ty e i (.int k 0) kq kn hu htn hi hz b n c olds hfc m (by omega) (by omega) (by omega) (by omega) (by omega) (growslice_fits (by omega) (by omega))
      refine ⟨_, _, hr, .inr (.inr ⟨grownCap w (n + m) c e, List.replicate (grownCap w (n + m) c e - (n + m)) (Value.int k 0), by simp, by simpa using hcap, hcm, ?_, replicate_one _ _, ?_⟩)⟩
      · simp [hol]; omega
      · congr 2
        apply Array.ext'
        simp [zeros_list, Value.cells]

/-! ### append, symbolically -/
/-- nothing was there -/
theorem grows_new {e : TypeId} {k : IntKind} {w : World} {p : Mp} {a : Act} (h : RelP v s a w p) {b : Option Addr} {news : I} {u' : Value} {w' : World} (hg : Grows e w b 0 0 [] ((news.ldn v).map (Value.int k)) u' w') {x0 : Nat} (hx0 : s.mem x0 = none) :
    ∃ q, RelP v (s.setM x0 (newRowB e k news)) a w' q ∧ BslIs v q x0 (.lit 0) (mkLen news) true u' := by
  have hl : (mkLen news).den v = ((news.ldn v).length : Int) := mkLen_den v news
  rcases hg with ⟨h1, rfl, rfl⟩ | ⟨r, cs, _, _, _, _, h6, _⟩ | ⟨cap, zs, rfl, h2, h3, h4, h5, rfl⟩
  · refine ⟨p, h.ghost hx0 rfl, b, 0, 0, ?_, rfl, Nat.le_refl _, Nat.zero_le _, .inl rfl⟩
    rw [hl]
    have := congrArg List.length h1
    simp only [List.length_map, List.length_nil] at this
    rw [this]
  · exact absurd rfl h6
  · obtain ⟨q, hq, hqx, hr⟩ := h.fresh (w' := w.drew.alloc (.cells ([] ++ (news.ldn v).map (Value.int k) ++ zs).toArray e)) (x := x0) (r := w.heap.size) (b := newRowB e k news) (cs := ([] ++ (news.ldn v).map (Value.int k) ++ zs).toArray) hx0 (((Below.refl _ _).drew).alloc (Nat.le_refl _) _) (Nat.le_refl _) (heap_alloc_new w.drew _) (fun q _ _ => by
        show List.take (news.ldn v).length _ = _
        simp) (by
        intro u hu
        simp only [List.nil_append, List.toList_toArray, List.mem_append] at hu
        rcases hu with hu | hu
        · obtain ⟨x, _, rfl⟩ := List.mem_map.1 hu; rfl
        · exact h5 u hu)
    refine ⟨q, hr, _, 0 + ((news.ldn v).map (Value.int k)).length, cap, by rw [hl]; simp, rfl, h2, h3, .inr ⟨_, _, 0, hqx, by simp only [I.den]; rfl, rfl, fun _ => ⟨rfl, by simpa using h4.symm⟩⟩⟩

/-- there was a memory m -/
theorem grows_old {e : TypeId} {k : IntKind} {w : World} {p : Mp} {a : Act} (h : RelP v s a w p) {m : Nat} {bk : Blk} {off len l news : I} {b : Option Addr} {n c : Nat} {olds : List Value} {u' : Value} {w' : World}
    (hm : s.mem m = some bk) (hd : bk.dead = false) (ho : bk.own = true) (hT : bk.T = e) (hn : bk.nums = some (k, l)) (l1 : len.den v = (n : Int)) (hle : n ≤ (l.ldn v).length)
    (l4 : c = 0 ∨ ∃ r N q, p m = some (r, N) ∧ off.den v = ((q : Nat) : Int) ∧ b = some ⟨r, q, none⟩ ∧ (true = true → q = 0 ∧ c = N)) (hnc : n ≤ c) (hcm : c ≤ maxLen) (holds : olds = ((l.ldn v).take n).map (Value.int k))
    (hg : Grows e w b n c olds ((news.ldn v).map (Value.int k)) u' w') {x0 : Nat} (hx0 : s.mem x0 = none) :
    ∃ q, RelP v ((s.setM m { bk with dead := true }).setM x0 (newRowB e k (mkApp (mkPart l (.lit 0) len) news))) a w' q ∧ BslIs v q x0 (.lit 0) (mkSum len (mkLen news)) true u' := by
  have hne : x0 ≠ m := by rintro rfl; rw [hm] at hx0; cases hx0
  have hx0' : (s.setM m { bk with dead := true }).mem x0 = none := by simp [Sig.setM, hne, hx0]
  have hrow : ((mkApp (mkPart l (.lit 0) len) news).ldn v) = (l.ldn v).take n ++ news.ldn v := by
    rw [mkApp_ldn, mkPart_ldn, l1]
    simp [I.den]
  have hlen : (mkSum len (mkLen news)).den v = ((n + (news.ldn v).length : Nat) : Int) := by rw [mkSum_den, mkLen_den, l1]; omega
  have hol : ((l.ldn v).take n).length = n := by rw [List.length_take]; omega
  rcases hg with ⟨h1, rfl, rfl⟩ | ⟨r, cs, hb, h2, h3, h4, h5, rfl, rfl⟩ | ⟨cap, zs, rfl, h2, h3, h4, h5, rfl⟩
  · have hnl : (news.ldn v) = [] := by simpa using h1
    rcases l4 with l4 | ⟨r, N, q, p1, p2, p3, p4⟩
    · refine ⟨p, (h.kill hm).ghost hx0' rfl, b, n, c, by rw [hlen, hnl]; simp, rfl, hnc, hcm, .inl l4⟩
    · obtain ⟨rfl, rfl⟩ := p4 rfl
      obtain ⟨_, hB⟩ := h.at hm p1
      obtain ⟨cs, fz, k1, k2, k3, k4, k5, k6⟩ := nums_cell hB hd hn
      obtain ⟨k7, rfl, k8⟩ := k6 ho
      obtain ⟨q, hq, hqx, hr⟩ := h.regrow (cs' := cs) (b' := newRowB e k (mkApp (mkPart l (.lit 0) len) news)) hm hd hx0 k7 p1 k1 hT.symm k2 (fun q _ => by
        show List.take ((mkApp (mkPart l (.lit 0) len) news).ldn v).length _ = List.map _ _
        rw [hrow, hnl, List.append_nil, hol]
        have := congrArg (List.take n) k3
        rw [List.take_take, Nat.min_eq_left hle, ← List.map_take] at this
        exact this) k8
      rw [setRow_self k1] at hr
      exact ⟨q, hr, b, n, c, by rw [hlen, hnl]; simp, rfl, hnc, hcm, .inr ⟨r, c, 0, hqx, by simp only [I.den]; rfl, p3, fun _ => ⟨rfl, rfl⟩⟩⟩
  · rcases l4 with l4 | ⟨r', N, q, p1, p2, p3, p4⟩
    · exact absurd l4 h5
    · obtain ⟨rfl, rfl⟩ := p4 rfl
      rw [hb] at p3
      simp only [Option.some.injEq, Addr.mk.injEq, and_true] at p3
      subst p3
      obtain ⟨_, hB⟩ := h.at hm p1
      obtain ⟨cs2, fz, k1, k2, k3, k4, k5, k6⟩ := nums_cell hB hd hn
      obtain ⟨k7, rfl, k8⟩ := k6 ho
      rw [h2] at k1
      simp only [Option.some.injEq, Obj.cells.injEq, and_true] at k1
      obtain ⟨rfl, _⟩ := k1
      have hlt : n + (news.ldn v).length ≤ cs.size := by rw [h3]; simpa using h4
      obtain ⟨q, hq, hqx, hr⟩ := h.regrow (cs' := (cs.toList.take n ++ (news.ldn v).map (Value.int k) ++ cs.toList.drop (n + ((news.ldn v).map (Value.int k)).length)).toArray) (b' := newRowB e k (mkApp (mkPart l (.lit 0) len) news)) hm hd hx0 k7 p1 (by rw [hT]; exact h2) hT.symm
        (by simp; omega) (fun q _ => by
          show List.take ((mkApp (mkPart l (.lit 0) len) news).ldn v).length _ = List.map _ _
          rw [hrow]
          have h9 : cs.toList.take n = ((l.ldn v).take n).map (Value.int k) := by
            have := congrArg (List.take n) k3
            rw [List.take_take, Nat.min_eq_left hle, ← List.map_take] at this
            exact this
          rw [List.toList_toArray, h9, ← List.map_append, List.take_left' (by simp)]) (by
          intro u hu
          simp only [List.toList_toArray, List.mem_append] at hu
          rcases hu with (hu | hu) | hu
          · exact k8 u (List.mem_of_mem_take hu)
          · obtain ⟨x, _, rfl⟩ := List.mem_map.1 hu; rfl
          · exact k8 u (List.mem_of_mem_drop hu))
      refine ⟨q, hr, b, _, c, ?_, rfl, h4, hcm, .inr ⟨r, c, 0, hqx, by simp only [I.den]; rfl, hb, fun _ => ⟨rfl, rfl⟩⟩⟩
      rw [hlen, List.length_map]
  · obtain ⟨q, hq, hqx, hr⟩ := (h.kill hm).fresh (w' := w.drew.alloc (.cells (olds ++ (news.ldn v).map (Value.int k) ++ zs).toArray e)) (x := x0) (r := w.heap.size) (b := newRowB e k (mkApp (mkPart l (.lit 0) len) news)) (cs := (olds ++ (news.ldn v).map (Value.int k) ++ zs).toArray) hx0' (((Below.refl _ _).drew).alloc (Nat.le_refl _) _) (Nat.le_refl _) (heap_alloc_new w.drew _) (fun q _ _ => by
        show List.take ((mkApp (mkPart l (.lit 0) len) news).ldn v).length _ = List.map _ _
        rw [hrow, holds, List.toList_toArray, ← List.map_append, List.take_left' (by simp)]) (by
        intro u hu
        simp only [List.toList_toArray, List.mem_append] at hu
        rcases hu with (hu | hu) | hu
        · rw [holds] at hu; obtain ⟨x, _, rfl⟩ := List.mem_map.1 hu; rfl
        · obtain ⟨x, _, rfl⟩ := List.mem_map.1 hu; rfl
        · exact h5 u hu)
    refine ⟨q, hr, _, n + ((news.ldn v).map (Value.int k)).length, cap, by rw [hlen, List.length_map], rfl, h2, h3, .inr ⟨_, _, 0, hqx, by simp only [I.den]; rfl, rfl, fun _ => ⟨rfl, by simpa using h4.symm⟩⟩⟩

end
end Go.Sx
