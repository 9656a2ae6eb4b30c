/- Merged: SyT, SyU, Sy5, SyV, Sy6, Sy7. -/
import Derived.Test.YtkckmpnkacdchaaDoorSyM1
import Derived.Lib.AppendZerosOnto
set_option linter.unusedVariables false
set_option linter.unusedSimpArgs false
namespace Go.Sx
open Go Go.RowKit
section
variable {P : Program} {v : Env} {s : Sig} {o : Oper}
theorem setRow_self {w : World} {r : Nat} {cs : Array Value} {T : TypeId} {fz : Nat × Nat} (h : w.heap[r]? = some (.cells cs T fz)) : w.setRow r cs = w := by
 have hlt := (Array.getElem?_eq_some_iff.1 h).1
 have he : w.heap.modify r (fun | .cells _ elem frozen => .cells cs elem frozen | o => o) = w.heap := by
  apply Array.ext_getElem?
  intro j
  rw [Array.getElem?_modify]
  by_cases e : r = j
  ·subst e
   rw [if_pos rfl, h]
   rfl
  ·rw [if_neg e]
 have : w.setRow r cs = { w with heap := w.heap.modify r (fun | .cells _ elem frozen => .cells cs elem frozen | o => o) } := rfl
 rw [this, he]
def ReadsK (k : IntKind) (w : World) (u : Value) (bs : List Int) : Prop :=
 ∃ b c, u = .slice b bs.length c ∧ bs.length ≤ c ∧ c ≤ maxLen ∧ (c = 0 ∨ ∃ r o, b = some ⟨r, o, none⟩ ∧ ∀ j x, bs[j]? = some x → w.cell? ⟨r, o + j, none⟩ = some (.int k x))
def readA (s : Sig) (k : IntKind) (a : A) : Option (I × List Ev) :=
 match a with
 | .nils => some (.nil, [])
 | .bsl y off len _ => match s.mem y with
  | some b => match b.dead, b.nums with
   | false, some (k', l) => if k' = k then (match leEv (mkSum off len) (mkLen l) with | some ev => some (mkPart l off len, ev) | none => none) else none
   | _, _ => none
  | none => none
 | .imm l _ => if k = .u8 then some (l, []) else none
 | _ => none
theorem readA_is {k : IntKind} {a : A} {l : I} {ev : List Ev} (h : readA s k a = some (l, ev)) (he : ∀ e ∈ ev, e.holds P v) {ac : Act} {w : World} {p : Mp} (hr : RelP v s ac w p) {u : Value} (ha : a.Is v p u) : ReadsK k w u (l.ldn v) := by
 unfold readA at h
 split at h
 ·simp only [Option.some.injEq, Prod.mk.injEq] at h
  obtain ⟨rfl, rfl⟩ := h
  rw [show u = _ from ha]
  simp only [I.ldn]
  exact ⟨none, 0, rfl, Nat.le_refl _, Nat.zero_le _, .inl rfl⟩
 ·rename_i y off len full
  split at h
  case h_2 => cases h
  rename_i b hm
  split at h
  case h_2 => cases h
  rename_i k' l' hb hn
  split at h
  case isFalse => cases h
  rename_i hk
  subst hk
  split at h
  case h_2 => cases h
  rename_i ev' hev
  simp only [Option.some.injEq, Prod.mk.injEq] at h
  obtain ⟨rfl, rfl⟩ := h
  obtain ⟨ba, n, c, l1, l2, l3, l4, l5⟩ := ha
  have hle := leEv_ok hev he
  rw [mkSum_den, mkLen_den, l1] at hle
  have hlen : ((mkPart l' off len).ldn v).length = n := by
   rw [mkPart_ldn, List.length_take, List.length_drop, l1]
   rcases l5 with l5 | ⟨r, N, q, _, l6, _⟩
   ·omega
   ·omega
  refine ⟨ba, c, by rw [hlen]; exact l2, by rw [hlen]; exact l3, l4, ?_⟩
  rcases l5 with l5 | ⟨r, N, q, l5, l6, l7, _⟩
  ·exact .inl l5
  ·refine .inr ⟨r, q, l7, fun j x hj => ?_⟩
   obtain ⟨_, hB⟩ := hr.at hm l5
   obtain ⟨_, _, _, _, _, _, hc, _⟩ := nums_cell hB hb hn
   rw [mkPart_ldn, List.getElem?_take] at hj
   split at hj
   ·rw [List.getElem?_drop, l6, Int.toNat_natCast] at hj
    exact hc _ _ hj
   ·cases hj
 ·split at h
  ·rename_i hk
   subst hk
   simp only [Option.some.injEq, Prod.mk.injEq] at h
   obtain ⟨rfl, rfl⟩ := h
   obtain ⟨b, c, l1, l2, l3, l4⟩ := ha.1
   refine ⟨b, c, l1, l2, l3, ?_⟩
   rcases l4 with l4 | ⟨r, q, l4, l5⟩
   ·exact .inl l4
   ·exact .inr ⟨r, q, l4, fun j x hj => by rw [hr.below.cell (World.block_lt_of_cell? _ _ (l5 j x hj))]; exact l5 j x hj⟩
  ·cases h
 ·cases h
theorem zeros_list (k : IntKind) (n : Nat) : (Builtin.zeroCells #[Value.int k 0] n).toList = List.replicate n (Value.int k 0) := by
 have := toList_madeCells_one (Value.int k 0) n
 rw [← this]
 unfold Builtin.zeroCells madeCells
 simp
def Grows (e : TypeId) (w : World) (b : Option Addr) (n c : Nat) (olds news : List Value) (u' : Value) (w' : World) : Prop :=
 (news = [] ∧ u' = .slice b n c ∧ w' = w) ∨
 (∃ r cs, b = some ⟨r, 0, none⟩ ∧ w.heap[r]? = some (.cells cs e (0, 0)) ∧ cs.size = c ∧ n + news.length ≤ c ∧ c ≠ 0 ∧ u' = .slice b (n + news.length) c ∧ w' = w.setRow r (cs.toList.take n ++ news ++ cs.toList.drop (n + news.length)).toArray) ∨
 (∃ cap zs, u' = .slice (some ⟨w.heap.size, 0, none⟩) (n + news.length) cap ∧ n + news.length ≤ cap ∧ cap ≤ maxLen ∧ (olds ++ news ++ zs).length = cap ∧ (∀ u ∈ zs, u.oneCell' = true) ∧ w' = w.drew.alloc (.cells (olds ++ news ++ zs).toArray e))
theorem replicate_one (n : Nat) (k : IntKind) : ∀ u ∈ List.replicate n (Value.int k 0), u.oneCell' = true := by
 intro u hu
 rw [List.eq_of_mem_replicate hu]; rfl
theorem append_slice {t ty e : TypeId} {k : IntKind} {i : TypeInfo} (hu : P.underlying t = some (.slice e)) (hi : P.info? e = some i) (hz : i.zero = some (.int k 0)) (hsz : i.size = 1) (hby : i.bytes ≤ 8)
  {w : World} {b : Option Addr} {n c : Nat} {ux : Value} {bs : List Int} (hx : ReadsK k w ux bs) (hnc : n ≤ c) (hbig : n + bs.length ≤ 1099511627776) {olds : List Value} (hol : olds.length = n)
  (hold : c = 0 ∨ ∃ r cs, b = some ⟨r, 0, none⟩ ∧ w.heap[r]? = some (.cells cs e (0, 0)) ∧ cs.size = c ∧ cs.toList.take n = olds) :
  ∃ u' w', (Builtin.append_ #[t, t] ty #[.slice b n c, ux]).run P w = .ok u' w' ∧ Grows e w b n c olds (bs.map (Value.int k)) u' w' := by
 obtain ⟨b2, c2, rfl, h1, h2, h3⟩ := hx
 have hmx : 1099511627776 ≤ maxLen := by decide
 by_cases hm : bs = []
 ·subst hm
  refine ⟨.slice b n c, w, ?_, .inl ⟨rfl, rfl, rfl⟩⟩
  cases b <;> cases b2 <;> simp [Builtin.append_, run_underlying hu, sizeOf, typeInfo, hi, Builtin.lenOf, Builtin.firstCells, hnc, storeCells, loadCells, loadCellsFrom]
 ·have hpos : 0 < bs.length := List.length_pos_iff.2 hm
  rcases h3 with h3 | ⟨r2, o2, rfl, h4⟩
  ·exfalso; omega
  have hnews : ∀ j u, (bs.map (Value.int k))[j]? = some u → w.cell? ((⟨r2, o2, none⟩ : Addr).add j) = some u := by
   intro j u hj
   rw [List.getElem?_map, Option.map_eq_some_iff] at hj
   obtain ⟨x, hx, rfl⟩ := hj
   rw [add_lit1]
   exact h4 j x hx
  have hone : ∀ u ∈ bs.map (Value.int k), u.oneCell' = true := by
   intro u hu
   obtain ⟨x, _, rfl⟩ := List.mem_map.1 hu
   rfl
  have hl : (bs.map (Value.int k)).length = bs.length * i.size := by rw [hsz]; simp
  have hb1 : (n + bs.length) * i.bytes ≤ 1099511627776 * 8 := Nat.mul_le_mul hbig hby
  by_cases hroom : n + bs.length ≤ c
  ·rcases hold with hold | ⟨r, cs, rfl, h5, h6, h7⟩
   ·exfalso; omega
   ·have hr := run_append_room (P := P) w t ty e i hu hi r n c cs h5 ⟨r2, o2, none⟩ bs.length c2 _ hl hnews hone hroom (by rw [hsz]; simp; omega)
    rw [hsz, Nat.mul_one] at hr
    exact ⟨_, _, hr, .inr (.inl ⟨r, cs, rfl, h5, h6, by simpa using hroom, by omega, by simp, rfl⟩)⟩
  ·have hcap := grownCap_ge w (n + bs.length) c e
   have hcm := grownCap_le_maxLen w (n + bs.length) c e (by omega)
   have fin : ∀ u' w', u' = .slice (some ⟨w.heap.size, 0, none⟩) (n + bs.length) (grownCap w (n + bs.length) c e) → w' = w.drew.alloc (.cells (olds.toArray ++ (bs.map (Value.int k)).toArray ++ Builtin.zeroCells #[Value.int k 0] (grownCap w (n + bs.length) c e - (n + bs.length))) e) →
     Grows e w b n c olds (bs.map (Value.int k)) u' w' := by
    intro u' w' hu' hw'
    refine .inr (.inr ⟨grownCap w (n + bs.length) c e, List.replicate (grownCap w (n + bs.length) c e - (n + bs.length)) (Value.int k 0), by simpa using hu', by simpa using hcap, hcm, ?_, replicate_one _ _, ?_⟩)
    ·simp [hol]; omega
    ·rw [hw']
     congr 2
     apply Array.ext'
     simp [zeros_list]
   have hgrow : ∀ ba : Addr, b = some ba → (∀ j u, olds[j]? = some u → w.cell? (ba.add j) = some u) → ∃ u' w', (Builtin.append_ #[t, t] ty #[.slice b n c, .slice (some ⟨r2, o2, none⟩) bs.length c2]).run P w = .ok u' w' ∧ Grows e w b n c olds (bs.map (Value.int k)) u' w' := by
    rintro ba rfl hcells
    have hr := run_append_grow (P := P) w t ty e i (.int k 0) hu hi hz ba n c olds (by rw [hsz]; omega) hcells ⟨r2, o2, none⟩ bs.length c2 _ hl hnews (by omega) (by omega) (growslice_fits (by omega) (by omega))
    exact ⟨_, _, hr, fin _ _ rfl rfl⟩
   rcases hold with hold | ⟨r, cs, rfl, h5, h6, h7⟩
   ·subst hold
    have hn0 : n = 0 := by omega
    subst hn0
    have hon : olds = [] := List.eq_nil_of_length_eq_zero hol
    subst hon
    cases b with
    | none =>
     have hr := run_append_nil (P := P) w t ty e i (.int k 0) hu hi hz ⟨r2, o2, none⟩ bs.length c2 _ hl hnews hpos (by omega) (by rw [Nat.zero_add] at hb1; omega)
     refine ⟨_, _, hr, fin _ _ (by rw [Nat.zero_add]) ?_⟩
     rw [Nat.zero_add]
     simp [Value.cells]
    | some ba => exact hgrow ba rfl (by simp)
   ·refine hgrow _ rfl fun j u hj => ?_
    rw [add_lit1, Nat.zero_add]
    rw [← h7, List.getElem?_take] at hj
    split at hj
    ·simp only [World.cell?, h5]; simpa using hj
    ·cases hj
theorem append_zeros {t tn ty e : TypeId} {k kn kq : IntKind} {i : TypeInfo} (hu : P.underlying t = some (.slice e)) (htn : P.underlying tn = some (.int kn)) (hi : P.info? e = some i) (hz : i.zero = some (.int k 0)) (hsz : i.size = 1) (hby : i.bytes ≤ 8)
  {w : World} {b : Option Addr} {n c m : Nat} (hnc : n ≤ c) (hbig : n + m ≤ 1099511627776) {olds : List Value} (hol : olds.length = n)
  (hold : c = 0 ∨ ∃ r cs, b = some ⟨r, 0, none⟩ ∧ w.heap[r]? = some (.cells cs e (0, 0)) ∧ cs.size = c ∧ cs.toList.take n = olds) :
  ∃ u' w', (Builtin.append_ #[t, tn] ty #[.slice b n c, .int kq (m : Int)]).run P w = .ok u' w' ∧ Grows e w b n c olds (List.replicate m (Value.int k 0)) u' w' := by
 have hmx : 1099511627776 ≤ maxLen := by decide
 have hw : IntKind.i64.wrap (m : Int) = m := by rw [IntKind.wrap_i64]; omega
 have hneg : ¬ ((m : Int) < 0) := by omega
 have hb1 : (n + m) * i.bytes ≤ 1099511627776 * 8 := Nat.mul_le_mul hbig hby
 have hb2 : m * i.bytes ≤ 1099511627776 * 8 := Nat.mul_le_mul (by omega) hby
 have h48i : ¬ (281474976710656 < (m : Int) * (i.bytes : Int)) := by
  rw [← Int.natCast_mul]
  omega
 by_cases hm : m = 0
 ·subst hm
  refine ⟨.slice b n c, w, ?_, .inl ⟨rfl, rfl, rfl⟩⟩
  have hw0 : IntKind.i64.wrap 0 = 0 := by rw [IntKind.wrap_i64]; rfl
  cases b <;> simp [Builtin.append_, run_underlying hu, run_underlying htn, sizeOf, typeInfo, hi, asInt, asIntOf, hw0, hnc, storeCells]
 ·have hns : ¬ (m * i.size = 0) := by rw [hsz]; omega
  by_cases hroom : n + m ≤ c
  ·rcases hold with hold | ⟨r, cs, rfl, h5, h6, h7⟩
   ·exfalso; omega
   ·have hst := run_storeCells_at P r n e (List.replicate m (Value.int k 0)) 0 cs w h5 (by simp; omega) (replicate_one _ _)
    simp only [Nat.add_zero] at hst
    refine ⟨.slice (some ⟨r, 0, none⟩) (n + m) c, _, ?_, .inr (.inl ⟨r, cs, rfl, h5, h6, by simpa using hroom, by omega, by simp, rfl⟩)⟩
    have hzl : (Builtin.zeroCells #[Value.int k 0] m).toList = List.replicate m (Value.int k 0) := zeros_list k m
    simp [Builtin.append_, run_underlying hu, run_underlying htn, sizeOf, typeInfo, zeroValue, hi, hz, asInt, asIntOf, hw, hneg, hm, h48i, hsz, hroom, add_lit1, Value.cells, hzl, hst]
  ·have hcap := grownCap_ge w (n + m) c e
   have hcm := grownCap_le_maxLen w (n + m) c e (by omega)
   have hfc : (Builtin.firstCells i.size n (.slice b n c)).run P w.drew = .ok olds.toArray w.drew := by
    rcases hold with hold | ⟨r, cs, rfl, h5, h6, h7⟩
    ·have hn0 : n = 0 := by omega
     subst hn0
     have hon : olds = [] := List.eq_nil_of_length_eq_zero hol
     subst hon
     cases b with
     | none => simp [Builtin.firstCells]
     | some ba => simp [Builtin.firstCells, loadCells, loadCellsFrom]
    ·refine run_firstCells_some (P := P) w.drew i.size n ⟨r, 0, none⟩ n c olds (by rw [hsz]; omega) fun j u hj => ?_
     rw [add_lit1, Nat.zero_add]
     rw [← h7, List.getElem?_take] at hj
     split at hj
     ·have : w.drew.cell? ⟨r, j, none⟩ = w.cell? ⟨r, j, none⟩ := rfl
      rw [this]
      simp only [World.cell?, h5]; simpa using hj
     ·cases hj
   have hr := Lib.run_append_grow_zeros (P := P) w t tn ty e i (.int k 0) kq kn hu htn hi hz b n c olds hfc m (by omega) (by omega) (by omega) (by omega) (by omega) (growslice_fits (by omega) (by omega))
   refine ⟨_, _, hr, .inr (.inr ⟨grownCap w (n + m) c e, List.replicate (grownCap w (n + m) c e - (n + m)) (Value.int k 0), by simp, by simpa using hcap, hcm, ?_, replicate_one _ _, ?_⟩)⟩
   ·simp [hol]; omega
   ·congr 2
    apply Array.ext'
    simp [zeros_list, Value.cells]
theorem grows_new {e : TypeId} {k : IntKind} {w : World} {p : Mp} {a : Act} (h : RelP v s a w p) {b : Option Addr} {news : I} {u' : Value} {w' : World} (hg : Grows e w b 0 0 [] ((news.ldn v).map (Value.int k)) u' w') {x0 : Nat} (hx0 : s.mem x0 = none) :
  ∃ q, RelP v (s.setM x0 (newRowB e k news)) a w' q ∧ BslIs v q x0 (.lit 0) (mkLen news) true u' := by
 have hl : (mkLen news).den v = ((news.ldn v).length : Int) := mkLen_den v news
 rcases hg with ⟨h1, rfl, rfl⟩ | ⟨r, cs, _, _, _, _, h6, _⟩ | ⟨cap, zs, rfl, h2, h3, h4, h5, rfl⟩
 ·refine ⟨p, h.ghost hx0 rfl, b, 0, 0, ?_, rfl, Nat.le_refl _, Nat.zero_le _, .inl rfl⟩
  rw [hl]
  have := congrArg List.length h1
  simp only [List.length_map, List.length_nil] at this
  rw [this]
 ·exact absurd rfl h6
 ·obtain ⟨q, hq, hqx, hr⟩ := h.fresh (w' := w.drew.alloc (.cells ([] ++ (news.ldn v).map (Value.int k) ++ zs).toArray e)) (x := x0) (r := w.heap.size) (b := newRowB e k news) (cs := ([] ++ (news.ldn v).map (Value.int k) ++ zs).toArray) hx0 (((Below.refl _ _).drew).alloc (Nat.le_refl _) _) (Nat.le_refl _) (heap_alloc_new w.drew _) (fun q _ _ => by
    show List.take (news.ldn v).length _ = _
    simp) (by
    intro u hu
    simp only [List.nil_append, List.toList_toArray, List.mem_append] at hu
    rcases hu with hu | hu
    ·obtain ⟨x, _, rfl⟩ := List.mem_map.1 hu; rfl
    ·exact h5 u hu)
  refine ⟨q, hr, _, 0 + ((news.ldn v).map (Value.int k)).length, cap, by rw [hl]; simp, rfl, h2, h3, .inr ⟨_, _, 0, hqx, by simp only [I.den]; rfl, rfl, fun _ => ⟨rfl, by simpa using h4.symm⟩⟩⟩
theorem grows_old {e : TypeId} {k : IntKind} {w : World} {p : Mp} {a : Act} (h : RelP v s a w p) {m : Nat} {bk : Blk} {off len l news : I} {b : Option Addr} {n c : Nat} {olds : List Value} {u' : Value} {w' : World}
  (hm : s.mem m = some bk) (hd : bk.dead = false) (ho : bk.own = true) (hT : bk.T = e) (hn : bk.nums = some (k, l)) (l1 : len.den v = (n : Int)) (hle : n ≤ (l.ldn v).length)
  (l4 : c = 0 ∨ ∃ r N q, p m = some (r, N) ∧ off.den v = ((q : Nat) : Int) ∧ b = some ⟨r, q, none⟩ ∧ (true = true → q = 0 ∧ c = N)) (hnc : n ≤ c) (hcm : c ≤ maxLen) (holds : olds = ((l.ldn v).take n).map (Value.int k))
  (hg : Grows e w b n c olds ((news.ldn v).map (Value.int k)) u' w') {x0 : Nat} (hx0 : s.mem x0 = none) :
  ∃ q, RelP v ((s.setM m { bk with dead := true }).setM x0 (newRowB e k (mkApp (mkPart l (.lit 0) len) news))) a w' q ∧ BslIs v q x0 (.lit 0) (mkSum len (mkLen news)) true u' := by
 have hne : x0 ≠ m := by rintro rfl; rw [hm] at hx0; cases hx0
 have hx0' : (s.setM m { bk with dead := true }).mem x0 = none := by simp [Sig.setM, hne, hx0]
 have hrow : ((mkApp (mkPart l (.lit 0) len) news).ldn v) = (l.ldn v).take n ++ news.ldn v := by
  rw [mkApp_ldn, mkPart_ldn, l1]
  simp [I.den]
 have hlen : (mkSum len (mkLen news)).den v = ((n + (news.ldn v).length : Nat) : Int) := by rw [mkSum_den, mkLen_den, l1]; omega
 have hol : ((l.ldn v).take n).length = n := by rw [List.length_take]; omega
 rcases hg with ⟨h1, rfl, rfl⟩ | ⟨r, cs, hb, h2, h3, h4, h5, rfl, rfl⟩ | ⟨cap, zs, rfl, h2, h3, h4, h5, rfl⟩
 ·have hnl : (news.ldn v) = [] := by simpa using h1
  rcases l4 with l4 | ⟨r, N, q, p1, p2, p3, p4⟩
  ·refine ⟨p, (h.kill hm).ghost hx0' rfl, b, n, c, by rw [hlen, hnl]; simp, rfl, hnc, hcm, .inl l4⟩
  ·obtain ⟨rfl, rfl⟩ := p4 rfl
   obtain ⟨_, hB⟩ := h.at hm p1
   obtain ⟨cs, fz, k1, k2, k3, k4, k5, k6⟩ := nums_cell hB hd hn
   obtain ⟨k7, rfl, k8⟩ := k6 ho
   obtain ⟨q, hq, hqx, hr⟩ := h.regrow (cs' := cs) (b' := newRowB e k (mkApp (mkPart l (.lit 0) len) news)) hm hd hx0 k7 p1 k1 hT.symm k2 (fun q _ => by
    show List.take ((mkApp (mkPart l (.lit 0) len) news).ldn v).length _ = List.map _ _
    rw [hrow, hnl, List.append_nil, hol]
    have := congrArg (List.take n) k3
    rw [List.take_take, Nat.min_eq_left hle, ← List.map_take] at this
    exact this) k8
   rw [setRow_self k1] at hr
   exact ⟨q, hr, b, n, c, by rw [hlen, hnl]; simp, rfl, hnc, hcm, .inr ⟨r, c, 0, hqx, by simp only [I.den]; rfl, p3, fun _ => ⟨rfl, rfl⟩⟩⟩
 ·rcases l4 with l4 | ⟨r', N, q, p1, p2, p3, p4⟩
  ·exact absurd l4 h5
  ·obtain ⟨rfl, rfl⟩ := p4 rfl
   rw [hb] at p3
   simp only [Option.some.injEq, Addr.mk.injEq, and_true] at p3
   subst p3
   obtain ⟨_, hB⟩ := h.at hm p1
   obtain ⟨cs2, fz, k1, k2, k3, k4, k5, k6⟩ := nums_cell hB hd hn
   obtain ⟨k7, rfl, k8⟩ := k6 ho
   rw [h2] at k1
   simp only [Option.some.injEq, Obj.cells.injEq, and_true] at k1
   obtain ⟨rfl, _⟩ := k1
   have hlt : n + (news.ldn v).length ≤ cs.size := by rw [h3]; simpa using h4
   obtain ⟨q, hq, hqx, hr⟩ := h.regrow (cs' := (cs.toList.take n ++ (news.ldn v).map (Value.int k) ++ cs.toList.drop (n + ((news.ldn v).map (Value.int k)).length)).toArray) (b' := newRowB e k (mkApp (mkPart l (.lit 0) len) news)) hm hd hx0 k7 p1 (by rw [hT]; exact h2) hT.symm
    (by simp; omega) (fun q _ => by
     show List.take ((mkApp (mkPart l (.lit 0) len) news).ldn v).length _ = List.map _ _
     rw [hrow]
     have h9 : cs.toList.take n = ((l.ldn v).take n).map (Value.int k) := by
      have := congrArg (List.take n) k3
      rw [List.take_take, Nat.min_eq_left hle, ← List.map_take] at this
      exact this
     rw [List.toList_toArray, h9, ← List.map_append, List.take_left' (by simp)]) (by
     intro u hu
     simp only [List.toList_toArray, List.mem_append] at hu
     rcases hu with (hu | hu) | hu
     ·exact k8 u (List.mem_of_mem_take hu)
     ·obtain ⟨x, _, rfl⟩ := List.mem_map.1 hu; rfl
     ·exact k8 u (List.mem_of_mem_drop hu))
   refine ⟨q, hr, b, _, c, ?_, rfl, h4, hcm, .inr ⟨r, c, 0, hqx, by simp only [I.den]; rfl, hb, fun _ => ⟨rfl, rfl⟩⟩⟩
   rw [hlen, List.length_map]
 ·obtain ⟨q, hq, hqx, hr⟩ := (h.kill hm).fresh (w' := w.drew.alloc (.cells (olds ++ (news.ldn v).map (Value.int k) ++ zs).toArray e)) (x := x0) (r := w.heap.size) (b := newRowB e k (mkApp (mkPart l (.lit 0) len) news)) (cs := (olds ++ (news.ldn v).map (Value.int k) ++ zs).toArray) hx0' (((Below.refl _ _).drew).alloc (Nat.le_refl _) _) (Nat.le_refl _) (heap_alloc_new w.drew _) (fun q _ _ => by
    show List.take ((mkApp (mkPart l (.lit 0) len) news).ldn v).length _ = List.map _ _
    rw [hrow, holds, List.toList_toArray, ← List.map_append, List.take_left' (by simp)]) (by
    intro u hu
    simp only [List.toList_toArray, List.mem_append] at hu
    rcases hu with (hu | hu) | hu
    ·rw [holds] at hu; obtain ⟨x, _, rfl⟩ := List.mem_map.1 hu; rfl
    ·obtain ⟨x, _, rfl⟩ := List.mem_map.1 hu; rfl
    ·exact h5 u hu)
  refine ⟨q, hr, _, n + ((news.ldn v).map (Value.int k)).length, cap, by rw [hlen, List.length_map], rfl, h2, h3, .inr ⟨_, _, 0, hqx, by simp only [I.den]; rfl, rfl, fun _ => ⟨rfl, by simpa using h4.symm⟩⟩⟩
end
end Go.Sx
namespace Go.Sx
open Go Go.RowKit
section
variable {P : Program} {v : Env} {s : Sig} {o : Oper}
def appA (s : Sig) (x0 : Nat) (k : IntKind) (e : TypeId) (a : A) (news : I) : Option (A × List (Nat × Blk) × List Ev) :=
 match a with
 | .nils => match leEv (mkLen news) (.lit 1099511627776) with
  | some ev => some (.bsl x0 (.lit 0) (mkLen news) true, [(x0, newRowB e k news)], ev)
  | none => none
 | .bsl m _ len true => match s.mem m with
  | some b => match b.dead, b.own, b.nums with
   | false, true, some (k', l) =>
    if k' = k ∧ b.T = e then
     match leEv len (mkLen l), leEv (mkSum len (mkLen news)) (.lit 1099511627776) with
     | some e1, some e2 => some (.bsl x0 (.lit 0) (mkSum len (mkLen news)) true, [(m, { b with dead := true }), (x0, newRowB e k (mkApp (mkPart l (.lit 0) len) news))], e1 ++ e2)
     | _, _ => none
    else none
   | _, _, _ => none
  | none => none
 | _ => none
theorem does_app {c : Call} {x y : Operand} {a r : A} {x0 : Nat} {k : IntKind} {e : TypeId} {news : I} {mems : List (Nat × Blk)} {ev : List Ev} (hd : ∀ d, o.dst = some d → d < s.n) (ho : o.op = .call c) (hf : c.callee = .builtin .append) (hargs : c.args = #[x, y]) (hx : s.ev x = .one a)
  (src : ∀ ac w p, RelP v s ac w p → ∀ (b : Option Addr) (n cc : Nat) (olds : List Value), n ≤ cc → n + (news.ldn v).length ≤ 1099511627776 → olds.length = n →
   (cc = 0 ∨ ∃ r cs, b = some ⟨r, 0, none⟩ ∧ w.heap[r]? = some (.cells cs e (0, 0)) ∧ cs.size = cc ∧ cs.toList.take n = olds) →
   ∃ u' w', (Builtin.append_ c.argTypes o.type #[.slice b n cc, ac.eval y]).run P w = .ok u' w' ∧ Grows e w b n cc olds ((news.ldn v).map (Value.int k)) u' w')
  (h : appA s x0 k e a news = some (r, mems, ev)) (he : ∀ e ∈ ev, e.holds P v) (hx0 : s.mem x0 = none) (nev : List Ev) (nv ora) : Does P v s o ⟨.one r, mems, nev, nv, ora⟩ := by
 intro ac w p hr K Q hK
 have hxx := hr.ev x
 rw [hx] at hxx
 have hrun : ∀ (u u' : Value) (w' : World), ac.eval x = u → (Builtin.append_ c.argTypes o.type #[u, ac.eval y]).run P w = .ok u' w' → (execOp ac.eval o).run P w = .ok (.value u') w' := by
  intro u u' w' hu hrun
  unfold execOp
  rw [ho]
  simp [resolve, hf, hargs, hu, invoke, builtin, hrun]
 unfold appA at h
 split at h
 ·split at h
  case h_2 => cases h
  rename_i ev' hev
  simp only [Option.some.injEq, Prod.mk.injEq] at h
  obtain ⟨rfl, rfl, rfl⟩ := h
  have hle := leEv_ok hev he
  rw [mkLen_den] at hle
  simp only [I.den] at hle
  obtain ⟨u', w', h1, h2⟩ := src ac w p hr none 0 0 [] (Nat.le_refl _) (by omega) rfl (.inl rfl)
  obtain ⟨q, h3, h4⟩ := grows_new hr h2 hx0
  unfold Oper.wp
  rw [hrun _ _ _ hxx h1, Oper.upon_value]
  exact hK _ _ q (h3.put hd h4)
 ·rename_i m off len
  split at h
  case h_2 => cases h
  rename_i b hm
  split at h
  case h_2 => cases h
  rename_i k' l hb hown hn
  split at h
  case isFalse => cases h
  rename_i hc
  obtain ⟨rfl, hT⟩ := hc
  split at h
  case h_2 => cases h
  rename_i e1 e2 he1 he2
  simp only [Option.some.injEq, Prod.mk.injEq] at h
  obtain ⟨rfl, rfl, rfl⟩ := h
  have g1 := leEv_ok he1 (fun e hm => he e (by simp [hm]))
  have g2 := leEv_ok he2 (fun e hm => he e (by simp [hm]))
  obtain ⟨ba, n, cc, l1, l2, l3, l4, l5⟩ := hxx
  rw [mkSum_den, mkLen_den, l1] at g2
  rw [mkLen_den, l1] at g1
  simp only [I.den] at g2
  have hold : cc = 0 ∨ ∃ r cs, ba = some ⟨r, 0, none⟩ ∧ w.heap[r]? = some (.cells cs e (0, 0)) ∧ cs.size = cc ∧ cs.toList.take n = ((l.ldn v).take n).map (Value.int k') := by
   rcases l5 with l5 | ⟨r, N, q, p1, p2, p3, p4⟩
   ·exact .inl l5
   ·obtain ⟨rfl, rfl⟩ := p4 rfl
    obtain ⟨_, hB⟩ := hr.at hm p1
    obtain ⟨cs, fz, k1, k2, k3, k4, k5, k6⟩ := nums_cell hB hb hn
    obtain ⟨k7, rfl, k8⟩ := k6 hown
    refine .inr ⟨r, cs, p3, by rw [← hT]; exact k1, k2, ?_⟩
    have := congrArg (List.take n) k3
    rw [List.take_take, Nat.min_eq_left (by omega), ← List.map_take] at this
    exact this
  obtain ⟨u', w', h1, h2⟩ := src ac w p hr ba n cc (((l.ldn v).take n).map (Value.int k')) l3 (by omega) (by simp; omega) hold
  obtain ⟨q, h3, h4⟩ := grows_old hr hm hb hown hT hn l1 (by omega) l5 l3 l4 rfl h2 hx0
  unfold Oper.wp
  rw [hrun _ _ _ l2 h1, Oper.upon_value]
  exact hK _ _ q (h3.put hd h4)
 ·cases h
theorem does_append {c : Call} {x y : Operand} {t e : TypeId} {a b r : A} {x0 : Nat} {k : IntKind} {news : I} {mems : List (Nat × Blk)} {ev nev : List Ev} (hd : ∀ d, o.dst = some d → d < s.n) (ho : o.op = .call c) (hf : c.callee = .builtin .append) (hargs : c.args = #[x, y])
  (ht : c.argTypes = #[t, t]) (hu : P.underlying t = some (.slice e)) (hz : zeroA P e = some (.sc (.int k (.lit 0)))) (h1 : P.cellsOf e = 1) (hby : ∀ i, P.info? e = some i → i.bytes ≤ 8) (hx : s.ev x = .one a) (hy : s.ev y = .one b)
  (hn : readA s k b = some (news, nev)) (h : appA s x0 k e a news = some (r, mems, ev)) (he : ∀ e ∈ nev ++ ev, e.holds P v) (hx0 : s.mem x0 = none) (nv ora) : Does P v s o ⟨.one r, mems, nev ++ ev, nv, ora⟩ := by
 obtain ⟨i, hi, hzv, hsz⟩ := elem_of hz h1
 refine does_app hd ho hf hargs hx (fun ac w p hr ba n cc olds g1 g2 g3 g4 => ?_) h (fun e hm => he e (by simp [hm])) hx0 _ nv ora
 have hyy := hr.ev y
 rw [hy] at hyy
 rw [ht]
 exact append_slice hu hi hzv hsz (hby i hi) (readA_is hn (fun e hm => he e (by simp [hm])) hr hyy) g1 g2 g3 g4
theorem does_append_zeros {c : Call} {x y : Operand} {t tn e : TypeId} {a r : A} {z : I} {x0 : Nat} {k kn kq : IntKind} {mems : List (Nat × Blk)} {ev nev : List Ev} (hd : ∀ d, o.dst = some d → d < s.n) (ho : o.op = .call c) (hf : c.callee = .builtin .append) (hargs : c.args = #[x, y])
  (ht : c.argTypes = #[t, tn]) (hu : P.underlying t = some (.slice e)) (htn : P.underlying tn = some (.int kn)) (hz : zeroA P e = some (.sc (.int k (.lit 0)))) (h1 : P.cellsOf e = 1) (hby : ∀ i, P.info? e = some i → i.bytes ≤ 8) (hx : s.ev x = .one a) (hy : s.ev y = .one (.sc (.int kq z)))
  (hn : leEv (.lit 0) z = some nev) (h : appA s x0 k e a (mkRep z) = some (r, mems, ev)) (he : ∀ e ∈ nev ++ ev, e.holds P v) (hx0 : s.mem x0 = none) (nv ora) : Does P v s o ⟨.one r, mems, nev ++ ev, nv, ora⟩ := by
 obtain ⟨i, hi, hzv, hsz⟩ := elem_of hz h1
 have g0 := leEv_ok hn (fun e hm => he e (by simp [hm]))
 simp only [I.den] at g0
 refine does_app hd ho hf hargs hx (fun ac w p hr ba n cc olds g1 g2 g3 g4 => ?_) h (fun e hm => he e (by simp [hm])) hx0 _ nv ora
 have hyy := hr.ev y
 rw [hy] at hyy
 have ey : ac.eval y = .int kq (z.den v) := hyy
 have hrep : ((mkRep z).ldn v).map (Value.int k) = List.replicate (z.den v).toNat (Value.int k 0) := by rw [mkRep_ldn]; simp
 have hl : ((mkRep z).ldn v).length = (z.den v).toNat := by rw [mkRep_ldn]; simp
 rw [hl] at g2
 have hzn : z.den v = (((z.den v).toNat : Nat) : Int) := (Int.toNat_of_nonneg g0).symm
 rw [ht, ey, hrep, hzn, Int.toNat_natCast]
 rw [hzn, Int.toNat_natCast] at g2
 exact append_zeros hu htn hi hzv hsz (hby i hi) g1 g2 g3 g4
def partsL (s : Sig) : List A → Option (List I × List Ev)
 | [] => some ([], [])
 | a :: l => match readA s .u8 a, partsL s l with
  | some (x, ev), some (r, ev') => some (x :: r, ev ++ ev')
  | _, _ => none
def argE (P : Program) (s : Sig) (t : TypeId) (a : A) : Option (EArg × List Ev) :=
 match P.underlying t with
 | some (.slice e) => match P.underlying e with
  | some (.int .u8) => if a = .nils then some (.val .nils, []) else match readA s .u8 a with | some (l, ev) => some (.bytes l, ev) | none => none
  | some (.slice _) => match a with
   | .nils => some (.parts [], [])
   | .immP n => some (.partsV n, [])
   | .slc x off n none => match s.mem x with
    | some b => match b.dead, b.row with
     | false, none => if off = 0 ∧ b.cells.length = n ∧ b.more = false then match partsL s b.cells with | some (ls, ev) => some (.parts ls, ev) | none => none else none
     | _, _ => none
    | none => none
   | _ => none
  | _ => none
 | _ => if a.pure then some (.val a, []) else none
theorem partsL_is : ∀ {as : List A} {ls : List I} {ev : List Ev}, partsL s as = some (ls, ev) → (∀ e ∈ ev, e.holds P v) → ∀ {ac : Act} {w : World} {p : Mp}, RelP v s ac w p → ∀ {us : List Value}, listIs v p as us →
  ls.length = us.length ∧ ∀ (j : Nat) (bs : List Int), (ls.map (I.ldn v))[j]? = some bs → ∃ y, us[j]? = some y ∧ Reads w y bs
 | [], ls, ev, h, _, ac, w, p, _, us, hl => by
  simp only [partsL, Option.some.injEq, Prod.mk.injEq] at h
  obtain ⟨rfl, _⟩ := h
  rw [show us = [] from hl]
  exact ⟨rfl, by simp⟩
 | a :: as, ls, ev, h, he, ac, w, p, hr, us, ⟨u, us', e, h1, h2⟩ => by
  subst e
  simp only [partsL] at h
  split at h
  ·rename_i x ev1 r ev2 g1 g2
   simp only [Option.some.injEq, Prod.mk.injEq] at h
   obtain ⟨rfl, rfl⟩ := h
   obtain ⟨k1, k2⟩ := partsL_is g2 (fun e hm => he e (by simp [hm])) hr h2
   refine ⟨by simp [k1], fun j bs hj => ?_⟩
   cases j with
   | zero =>
    simp only [List.map_cons, List.getElem?_cons_zero, Option.some.injEq] at hj
    subst hj
    exact ⟨u, rfl, readA_is g1 (fun e hm => he e (by simp [hm])) hr h1⟩
   | succ j =>
    simp only [List.map_cons, List.getElem?_cons_succ] at hj
    exact k2 j bs hj
  ·cases h
theorem argE_is {t : TypeId} {a : A} {x : EArg} {ev : List Ev} (h : argE P s t a = some (x, ev)) (he : ∀ e ∈ ev, e.holds P v) {ac : Act} {w : World} {p : Mp} (hr : RelP v s ac w p) {u : Value} (ha : a.Is v p u) : (x.den v).Is w u := by
 unfold argE at h
 split at h
 ·split at h
  ·split at h
   ·rename_i hn
    subst hn
    simp only [Option.some.injEq, Prod.mk.injEq] at h
    obtain ⟨rfl, rfl⟩ := h
    exact A.is_val rfl ha
   ·split at h
    ·rename_i l ev' hl
     simp only [Option.some.injEq, Prod.mk.injEq] at h
     obtain ⟨rfl, rfl⟩ := h
     exact readA_is hl he hr ha
    ·cases h
  ·split at h
   ·simp only [Option.some.injEq, Prod.mk.injEq] at h
    obtain ⟨rfl, rfl⟩ := h
    rw [show u = _ from ha]
    exact ⟨none, 0, rfl, Nat.le_refl _, Nat.zero_le _, .inl rfl⟩
   ·rename_i n
    simp only [Option.some.injEq, Prod.mk.injEq] at h
    obtain ⟨rfl, rfl⟩ := h
    have : ReadsP v.w u (v.pp n) := ha
    obtain ⟨b, c, k1, k2, k3, k4⟩ := this
    refine ⟨b, c, k1, k2, k3, ?_⟩
    rcases k4 with k4 | ⟨r, q, k4, k5⟩
    ·exact .inl k4
    ·refine .inr ⟨r, q, k4, fun j bs hj => ?_⟩
     obtain ⟨y, y1, y2⟩ := k5 j bs hj
     refine ⟨y, by rw [hr.below.cell (World.block_lt_of_cell? _ _ y1)]; exact y1, ?_⟩
     exact y2.below hr.below
   ·rename_i x off n
    split at h
    case h_2 => cases h
    rename_i b hm
    split at h
    case h_2 => cases h
    rename_i hb hrow
    split at h
    case isFalse => cases h
    rename_i hc
    obtain ⟨rfl, hlen, hmore⟩ := hc
    split at h
    case h_2 => cases h
    rename_i ls ev' hls
    simp only [Option.some.injEq, Prod.mk.injEq] at h
    obtain ⟨rfl, rfl⟩ := h
    obtain ⟨r, N, p1, p2, p3, p4, p5, p6⟩ := ha
    obtain ⟨_, hB⟩ := hr.at hm p1
    obtain ⟨cs, fz, c1, c2, c3, c4⟩ := hB hb
    unfold Blk.holds at c3
    rw [hrow] at c3
    obtain ⟨c5, c6⟩ := c3
    have hsz := c5 hmore
    rw [List.take_of_length_le (by omega)] at c6
    obtain ⟨k1, k2⟩ := partsL_is hls he hr c6
    simp only [Option.getD_none, Nat.sub_zero] at p3 p4 p5
    have hN : cs.toList.length = N := by simpa using c2
    have hn : (ls.map (I.ldn v)).length = n := by rw [List.length_map]; omega
    refine ⟨_, N, by rw [hn]; exact p3, by omega, p6, .inr ⟨r, 0, rfl, fun j bs hj => ?_⟩⟩
    obtain ⟨y, y1, y2⟩ := k2 j bs hj
    refine ⟨y, ?_, y2⟩
    simp only [World.cell?, c1, Nat.zero_add]
    simpa using y1
   ·cases h
  ·cases h
 ·split at h
  ·rename_i hp
   simp only [Option.some.injEq, Prod.mk.injEq] at h
   obtain ⟨rfl, rfl⟩ := h
   exact A.is_val hp ha
  ·cases h
def argsE (P : Program) (s : Sig) : List Operand → List TypeId → Option (List EArg × List Ev)
 | [], [] => some ([], [])
 | x :: l, t :: ts => match s.ev x with
  | .one a => match argE P s t a, argsE P s l ts with
   | some (y, ev), some (r, ev') => some (y :: r, ev ++ ev')
   | _, _ => none
  | _ => none
 | _, _ => none
theorem argsE_is : ∀ {l : List Operand} {ts : List TypeId} {r : List EArg} {ev : List Ev}, argsE P s l ts = some (r, ev) → (∀ e ∈ ev, e.holds P v) → ∀ {ac : Act} {w : World} {p : Mp}, RelP v s ac w p → argsIs w (r.map (EArg.den v)) (l.map ac.eval)
 | [], [], r, ev, h, _, ac, w, p, _ => by
  simp only [argsE, Option.some.injEq, Prod.mk.injEq] at h
  obtain ⟨rfl, _⟩ := h
  rfl
 | x :: l, t :: ts, r, ev, h, he, ac, w, p, hr => by
  simp only [argsE] at h
  split at h
  ·rename_i a hx
   split at h
   ·rename_i y ev1 r' ev2 h1 h2
    simp only [Option.some.injEq, Prod.mk.injEq] at h
    obtain ⟨rfl, rfl⟩ := h
    have hxx := hr.ev x
    rw [hx] at hxx
    exact ⟨_, _, rfl, argE_is h1 (fun e hm => he e (by simp [hm])) hr hxx, argsE_is h2 (fun e hm => he e (by simp [hm])) hr⟩
   ·cases h
  ·cases h
 | [], _ :: _, _, _, h, _, _, _, _, _ => by simp [argsE] at h
 | _ :: _, [], _, _, h, _, _, _, _, _ => by simp [argsE] at h
end
end Go.Sx
namespace Go.Sx
open Go Go.RowKit
section
variable {P : Program} {v : Env} {s : Sig} {o : Oper}
def eqA (P : Program) (t : TypeId) (x y : A) : Option Bx :=
 match x, y with
 | .sc (.bool a), .sc (.bool b) => match P.underlying t with | some .bool => some (Bx.beq a b).fold | _ => none
 | .agg xs, .agg ys => if P.eqGuardType P.depth t = false ∧ isAggT P t = some true then eqT P 10000 t xs ys else none
 | .slc _ _ _ _, .nils => match P.underlying t with | some (.slice _) => some (.lit false) | _ => none
 | .nils, .nils => match P.underlying t with | some (.slice _) => some (.lit true) | _ => none
 | .imm _ (some nl), .nils => match P.underlying t with | some (.slice _) => some nl | _ => none
 | _, _ => none
def remA (k : IntKind) (x y : I) : Option (Sc × List Ev) := match y with
 | .lit _ => none
 | y => some (.int k (I.rem x y).fold, [Ev.dec (.cmp .eql y (.lit 0)) false])
theorem remA_run {k : IntKind} {x y : I} {z : Sc} {ev : List Ev} (h : remA k x y = some (z, ev)) (he : ∀ e ∈ ev, e.holds P v) (t : TypeId) (w : World) :
  (binOp .rem t (.int k (x.den v)) (.int k (y.den v))).run P w = .ok (z.den v) w := by
 unfold remA at h
 split at h
 ·cases h
 ·simp only [Option.some.injEq, Prod.mk.injEq] at h
  obtain ⟨rfl, rfl⟩ := h
  have := he _ (List.mem_singleton.2 rfl)
  simp only [Ev.holds, Bx.den, cmpD, I.den] at this
  have hy : ¬ y.den v = 0 := fun e => by rw [e] at this; simp at this
  simp [binOp_rem, Op.intDiv, hy, Sc.den, I.den_fold, I.den]
def binA (P : Program) (op : BinOp) (t : TypeId) (x y : A) : Option (A × List Ev) :=
 match x, y with
 | .sc (.int k a), .sc (.int k' b) =>
  match op with
  | .shl => (shA .shl k a b).map fun r => (.sc r.1, r.2)
  | .shr => (shA .shr k a b).map fun r => (.sc r.1, r.2)
  | .rem => if k = k' then (match intA .rem k a b with
   | some r => some (.sc r, [])
   | none => (remA k a b).map fun r => (.sc r.1, r.2)) else none
  | op => if k = k' then (intA op k a b).map fun r => (.sc r, []) else none
 | x, y =>
  match op with
  | .eql => (eqA P t x y).map fun b => (.sc (.bool b), [])
  | .neq => (eqA P t x y).map fun b => (.sc (.bool (Bx.not b).fold), [])
  | _ => none
theorem equal_slice_nil {t e : TypeId} (hu : P.underlying t = some (.slice e)) (d : Nat) (a : Addr) (n c : Nat) (w : World) : (Op.equalIn (d + 1) t (.slice (some a) n c) (.slice none 0 0)).run P w = .ok false w := by
 simp only [Op.equalIn, Sem.run_bind, run_underlying hu, Result.andThen_ok]
 rfl
theorem equal_nil_nil {t e : TypeId} (hu : P.underlying t = some (.slice e)) (d : Nat) (w : World) : (Op.equalIn (d + 1) t (.slice none 0 0) (.slice none 0 0)).run P w = .ok true w := by
 simp only [Op.equalIn, Sem.run_bind, run_underlying hu, Result.andThen_ok]
 rfl
theorem equal_any_nil {t e : TypeId} (hu : P.underlying t = some (.slice e)) (d : Nat) (b : Option Addr) (n c : Nat) (w : World) : (Op.equalIn (d + 1) t (.slice b n c) (.slice none 0 0)).run P w = .ok b.isNone w := by
 cases b with
 | none => simp only [Op.equalIn, Sem.run_bind, run_underlying hu, Result.andThen_ok]; rfl
 | some a => simp only [Op.equalIn, Sem.run_bind, run_underlying hu, Result.andThen_ok]; rfl
theorem eqA_run {t : TypeId} {x y : A} {b : Bx} (h : eqA P t x y = some b) (p : Mp) (u u' : Value) (hx : x.Is v p u) (hy : y.Is v p u') (xo yo : Operand) (op : BinOp) (hop : op = .eql ∨ op = .neq) (w : World) :
  (eqGuard op t xo yo u u').run P w = .ok () w ∧ (Op.equal t u u').run P w = .ok (b.den v) w ∧ (∀ z : Bool, binOp op t u u' = (if op = .eql then (do pure (.bool (← Op.equal t u u'))) else (do pure (.bool (!(← Op.equal t u u')))) : Sem Value)) := by
 unfold eqA at h
 split at h
 ·rename_i a b'
  rw [show u = .bool (a.den v) from hx, show u' = .bool (b'.den v) from hy]
  split at h
  ·rename_i hu
   simp only [Option.some.injEq] at h
   subst h
   refine ⟨by rw [eqGuard_at_bool]; rfl, ?_, fun _ => ?_⟩
   ·rw [Bx.den_fold]
    exact run_equalIn_bool w 9999 t _ _ hu
   ·rcases hop with rfl | rfl <;> rfl
  ·cases h
 ·rename_i xs ys
  split at h
  ·rename_i hg
   rw [show u = .agg _ from hx, show u' = .agg _ from hy]
   have hr := run_eqT (v := v) 10000 t _ _ b h w
   simp only [valL, hg.2] at hr
   refine ⟨?_, hr, fun _ => ?_⟩
   ·rcases hop with rfl | rfl <;> simp [eqGuard, hg.1]
   ·rcases hop with rfl | rfl <;> rfl
  ·cases h
 ·rename_i m off len cap
  split at h
  ·rename_i e hu
   simp only [Option.some.injEq] at h
   subst h
   obtain ⟨r, n, _, _, rfl, _⟩ := hx
   rw [show u' = .slice none 0 0 from hy]
   refine ⟨by rw [eqGuard_at_slice]; rfl, ?_, fun _ => ?_⟩
   ·exact equal_slice_nil hu 9999 _ _ _ w
   ·rcases hop with rfl | rfl <;> rfl
  ·cases h
 ·split at h
  ·rename_i e hu
   simp only [Option.some.injEq] at h
   subst h
   rw [show u = .slice none 0 0 from hx, show u' = .slice none 0 0 from hy]
   refine ⟨by rw [eqGuard_at_slice]; rfl, ?_, fun _ => ?_⟩
   ·exact equal_nil_nil hu 9999 w
   ·rcases hop with rfl | rfl <;> rfl
  ·cases h
 ·rename_i l nl
  split at h
  ·rename_i e hu
   simp only [Option.some.injEq] at h
   subst h
   obtain ⟨⟨ba, c, rfl, _⟩, hnl⟩ := hx
   rw [show u' = .slice none 0 0 from hy]
   refine ⟨by rw [eqGuard_at_slice]; rfl, ?_, fun _ => ?_⟩
   ·have := equal_any_nil hu 9999 ba (l.ldn v).length c w
    rw [← hnl _ rfl]
    cases ba <;> exact this
   ·rcases hop with rfl | rfl <;> rfl
  ·cases h
 ·cases h
theorem binA_run {op : BinOp} {t : TypeId} {x y z : A} {ev : List Ev} (h : binA P op t x y = some (z, ev)) (he : ∀ e ∈ ev, e.holds P v) (p : Mp) (u u' : Value) (hx : x.Is v p u) (hy : y.Is v p u') (xo yo : Operand) (w : World) :
  ∃ r, (do eqGuard op t xo yo u u'; binOp op t u u' : Sem Value).run P w = .ok r w ∧ z.Is v p r := by
 have hother : ∀ (b : Bx), eqA P t x y = some b → (op = .eql ∧ z = .sc (.bool b)) ∨ (op = .neq ∧ z = .sc (.bool (Bx.not b).fold)) →
   ∃ r, (do eqGuard op t xo yo u u'; binOp op t u u' : Sem Value).run P w = .ok r w ∧ z.Is v p r := by
  intro b hb hz
  rcases hz with ⟨rfl, rfl⟩ | ⟨rfl, rfl⟩
  ·obtain ⟨h1, h2, h3⟩ := eqA_run (v := v) hb p u u' hx hy xo yo .eql (.inl rfl) w
   have h4 := h3 true
   simp only [if_true] at h4
   exact ⟨.bool (b.den v), by simp only [Sem.run_bind, h1, Result.andThen_ok, h4, h2, Sem.run_pure], rfl⟩
  ·obtain ⟨h1, h2, h3⟩ := eqA_run (v := v) hb p u u' hx hy xo yo .neq (.inr rfl) w
   have h4 := h3 true
   simp only [reduceCtorEq, if_false] at h4
   exact ⟨.bool (!(b.den v)), by simp only [Sem.run_bind, h1, Result.andThen_ok, h4, h2, Sem.run_pure], by show _ = _; simp [Sc.den, Bx.den_fold, Bx.den]⟩
 unfold binA at h
 split at h
 ·rename_i k a k' b
  rw [show u = .int k (a.den v) from hx, show u' = .int k' (b.den v) from hy]
  split at h
  ·simp only [Option.map_eq_some_iff] at h
   obtain ⟨⟨r, ev'⟩, hr, hz⟩ := h
   simp only [Prod.mk.injEq] at hz
   obtain ⟨rfl, rfl⟩ := hz
   exact ⟨r.den v, by simp only [Sem.run_bind, eqGuard_shl, Sem.run_pure, Result.andThen_ok, shA_run hr he], rfl⟩
  ·simp only [Option.map_eq_some_iff] at h
   obtain ⟨⟨r, ev'⟩, hr, hz⟩ := h
   simp only [Prod.mk.injEq] at hz
   obtain ⟨rfl, rfl⟩ := hz
   exact ⟨r.den v, by simp only [Sem.run_bind, eqGuard_shr, Sem.run_pure, Result.andThen_ok, shA_run hr he], rfl⟩
  ·split at h
   ·rename_i hk
    subst hk
    split at h
    ·rename_i r hr
     simp only [Option.some.injEq, Prod.mk.injEq] at h
     obtain ⟨rfl, rfl⟩ := h
     exact ⟨r.den v, by simp only [Sem.run_bind, eqGuard_at_int, Sem.run_pure, Result.andThen_ok, intA_run hr], rfl⟩
    ·simp only [Option.map_eq_some_iff] at h
     obtain ⟨⟨r, ev'⟩, hr, hz⟩ := h
     simp only [Prod.mk.injEq] at hz
     obtain ⟨rfl, rfl⟩ := hz
     exact ⟨r.den v, by simp only [Sem.run_bind, eqGuard_at_int, Sem.run_pure, Result.andThen_ok, remA_run hr he], rfl⟩
   ·cases h
  ·split at h
   ·rename_i hk
    subst hk
    simp only [Option.map_eq_some_iff] at h
    obtain ⟨r, hr, hz⟩ := h
    simp only [Prod.mk.injEq] at hz
    obtain ⟨rfl, rfl⟩ := hz
    exact ⟨r.den v, by simp only [Sem.run_bind, eqGuard_at_int, Sem.run_pure, Result.andThen_ok, intA_run hr], rfl⟩
   ·cases h
 ·split at h
  ·simp only [Option.map_eq_some_iff] at h
   obtain ⟨b, hb, hz⟩ := h
   simp only [Prod.mk.injEq] at hz
   obtain ⟨rfl, rfl⟩ := hz
   exact hother b hb (.inl ⟨rfl, rfl⟩)
  ·simp only [Option.map_eq_some_iff] at h
   obtain ⟨b, hb, hz⟩ := h
   simp only [Prod.mk.injEq] at hz
   obtain ⟨rfl, rfl⟩ := hz
   exact hother b hb (.inr ⟨rfl, rfl⟩)
  ·cases h
theorem decA_is {a : A} {ora : List (Option Bool)} (h : ∀ e ∈ (decA a ora).2.1, e.holds P v) {p : Mp} {u : Value} (k : a.Is v p u) : (decA a ora).1.Is v p u := by
 cases a with
 | sc s => simp only [decA] at *; show u = _; rw [decSc_den s ora h]; exact k
 | agg l => simp only [decA] at *; show u = _; rw [decScs_den l ora h]; exact k
 | _ => exact k
theorem does_binOp {op : BinOp} {t yt : TypeId} {x y : Operand} {a b c : A} {ev : List Ev} {ora : List (Option Bool)} (hd : ∀ d, o.dst = some d → d < s.n) (ho : o.op = .binOp op t x y yt) (hx : s.ev x = .one a) (hy : s.ev y = .one b)
  (h : binA P op t a b = some (c, ev)) (he : ∀ e ∈ ev ++ (decA c ora).2.1, e.holds P v) (nv) : Does P v s o ⟨.one (decA c ora).1, [], ev ++ (decA c ora).2.1, nv, (decA c ora).2.2⟩ := by
 refine does_value hd fun ac w p hr => ?_
 have hxx := hr.ev x
 rw [hx] at hxx
 have hyy := hr.ev y
 rw [hy] at hyy
 obtain ⟨r, h1, h2⟩ := binA_run h (fun e hm => he e (by simp [hm])) p _ _ hxx hyy x y w
 refine ⟨r, ?_, decA_is (fun e hm => he e (by simp [hm])) h2⟩
 unfold execOp
 rw [ho]
 simp only [Sem.run_bind] at h1 ⊢
 simp only [h1, Result.andThen_ok, Sem.run_pure]
def freshScs (nv : Nat) : List Sc → List Sc × Nat
 | [] => ([], nv)
 | .int k _ :: l => let r := freshScs (nv + 1) l; (.int k (.var nv) :: r.1, r.2)
 | .bool _ :: l => let r := freshScs (nv + 1) l; (.bool (.var nv) :: r.1, r.2)
def freshA (P : Program) (nv : Nat) (t : TypeId) : Option (A × Nat) :=
 match zeroA P t with
 | some (.sc (.int k _)) => some (.sc (.int k (.var nv)), nv + 1)
 | some (.sc (.bool _)) => some (.sc (.bool (.var nv)), nv + 1)
 | some (.agg l) => let r := freshScs nv l; some (.agg r.1, r.2)
 | _ => none
def freshAs (P : Program) (nv : Nat) : List TypeId → Option (List A × Nat)
 | [] => some ([], nv)
 | t :: l => match freshA P nv t with
  | some (a, n) => match freshAs P n l with | some (r, m) => some (a :: r, m) | none => none
  | none => none
theorem freshA_pure {nv m : Nat} {t : TypeId} {a : A} (h : freshA P nv t = some (a, m)) : a.pure = true := by
 unfold freshA at h
 split at h <;> simp at h <;> (obtain ⟨rfl, _⟩ := h; rfl)
theorem freshAs_pure : ∀ {l : List TypeId} {nv m : Nat} {r : List A}, freshAs P nv l = some (r, m) → ∀ a ∈ r, a.pure = true
 | [], nv, m, r, h => by simp [freshAs] at h; obtain ⟨rfl, _⟩ := h; simp
 | t :: l, nv, m, r, h => by
  simp only [freshAs] at h
  cases h1 : freshA P nv t with
  | none => simp [h1] at h
  | some q =>
   obtain ⟨a, n⟩ := q
   simp only [h1] at h
   cases h2 : freshAs P n l with
   | none => simp [h2] at h
   | some q2 =>
    obtain ⟨r2, m2⟩ := q2
    simp only [h2, Option.some.injEq, Prod.mk.injEq] at h
    obtain ⟨rfl, rfl⟩ := h
    intro b hb
    cases hb with
    | head => exact freshA_pure h1
    | tail _ hb => exact freshAs_pure h2 b hb
def resA (l : List A) : AV := match l with | [a] => .one a | l => .tup l
theorem resA_is {l : List A} (h : ∀ a ∈ l, a.pure = true) (p : Mp) : (resA l).Is v p ((resA l).val v) := by
 unfold resA
 split
 ·exact A.pure_is (h _ (by simp)) p
 ·exact ⟨_, rfl, by simpa using pures_is p h⟩
theorem resA_val {l m : List A} (h : l.map (A.val v) = m.map (A.val v)) : (resA l).val v = (resA m).val v := by
 have hl : l.length = m.length := by simpa using congrArg List.length h
 unfold resA
 match l, m, hl with
 | [], [], _ => rfl
 | [a], [b], _ => simpa [AV.val] using h
 | a :: b :: l, c :: d :: m, _ => simp only [AV.val, h]
def argsA (s : Sig) : List Operand → Option (List A)
 | [] => some []
 | x :: l => match s.ev x, argsA s l with | .one a, some r => if a.pure then some (a :: r) else none | _, _ => none
theorem argsA_is {a : Act} {w : World} {p : Mp} (h : RelP v s a w p) : ∀ (l : List Operand) (r : List A), argsA s l = some r → l.map a.eval = r.map (A.val v)
 | [], r, hr => by simp only [argsA, Option.some.injEq] at hr; subst hr; rfl
 | x :: l, r, hr => by
  simp only [argsA] at hr
  split at hr
  ·rename_i y r' hy hr'
   split at hr
   ·rename_i hp
    simp only [Option.some.injEq] at hr
    subst hr
    have := h.ev x
    rw [hy] at this
    simp only [List.map_cons, A.is_val hp this, argsA_is h l r' hr']
   ·cases hr
  ·cases hr
theorem does_call {c : Call} {f : FuncId} {as r : List A} {m nv : Nat} {ts : List TypeId} {ora : List (Option Bool)} (hd : ∀ d, o.dst = some d → d < s.n) (ho : o.op = .call c) (hf : c.callee = .value (.func f)) (has : argsA s c.args.toList = some as)
  (hr : freshAs P nv ts = some (r, m)) (he : ∀ e ∈ Ev.call f as (resA r) :: (decAs r ora).2.1, e.holds P v) :
  Does P v s o ⟨resA (decAs r ora).1, [], Ev.call f as (resA r) :: (decAs r ora).2.1, m, (decAs r ora).2.2⟩ := by
 intro a w p h K Q hK
 have hcall : CallG P v.L f (as.map (A.val v)).toArray ((resA r).val v) := he _ (List.mem_cons_self ..)
 have hval : (resA (decAs r ora).1).val v = (resA r).val v := resA_val (decAs_val r ora fun e hm => he e (List.mem_cons_of_mem _ hm))
 have hpure := decAs_pure r ora (freshAs_pure hr)
 have hargs : c.args.map a.eval = (as.map (A.val v)).toArray := by
  apply Array.ext'
  simpa using argsA_is h _ _ has
 have hrun : (execOp a.eval o).run P w = (callFunc f (as.map (A.val v)).toArray).run P w := by
  unfold execOp
  rw [ho]
  simp [resolve, hf, hargs, Deferred.ofValue, Act.eval, invoke]
 have hK' : ∀ w', Below w.heap.size w w' → K (a.put o.dst ((resA r).val v)) w' := fun w' hb => by
  refine hK _ _ _ ((h.world hb).put hd ?_)
  rw [← hval]
  exact resA_is hpure p
 unfold Oper.wp
 rw [hrun]
 rcases hcall w h.laid.1 h.laid.2 with ⟨w', h1, h2⟩ | ⟨g, args', h1, h2⟩
 ·rw [h1, Oper.upon_value]
  exact hK' w' h2
 ·rw [h1, Oper.upon_enter]
  refine h2.mono fun e w' ⟨h3, h4⟩ => ?_
  subst h3
  exact hK' w' h4
theorem does_callFn {c : Call} {g : Nat} {f : FuncId} {recv : List Sc} {as r : List A} {m nv : Nat} {ts : List TypeId} {ora : List (Option Bool)} (hd : ∀ d, o.dst = some d → d < s.n) (ho : o.op = .call c) (hf : c.callee = .value (.tmp g)) (hfn : s.fr g = .one (.fn f recv)) (has : argsA s c.args.toList = some as)
  (hr : freshAs P nv ts = some (r, m)) (he : ∀ e ∈ Ev.call f (.agg recv :: as) (resA r) :: (decAs r ora).2.1, e.holds P v) :
  Does P v s o ⟨resA (decAs r ora).1, [], Ev.call f (.agg recv :: as) (resA r) :: (decAs r ora).2.1, m, (decAs r ora).2.2⟩ := by
 intro a w p h K Q hK
 have hcall : CallG P v.L f ((A.agg recv :: as).map (A.val v)).toArray ((resA r).val v) := he _ (List.mem_cons_self ..)
 have hval : (resA (decAs r ora).1).val v = (resA r).val v := resA_val (decAs_val r ora fun e hm => he e (List.mem_cons_of_mem _ hm))
 have hpure := decAs_pure r ora (freshAs_pure hr)
 have hargs : c.args.map a.eval = (as.map (A.val v)).toArray := by
  apply Array.ext'
  simpa using argsA_is h _ _ has
 have hg := h.frame g
 rw [hfn] at hg
 have hg' : a.tmps.getD g undef = .func (.func f) #[.agg (recv.map (Sc.den v)).toArray] #[] := hg
 have hall : #[Value.agg (recv.map (Sc.den v)).toArray] ++ (as.map (A.val v)).toArray = ((A.agg recv :: as).map (A.val v)).toArray := by
  apply Array.ext'
  simp [A.val]
 have hrun : (execOp a.eval o).run P w = (callFunc f ((A.agg recv :: as).map (A.val v)).toArray).run P w := by
  unfold execOp
  rw [ho]
  simp only [resolve, hf, hargs, Act.eval, hg', Deferred.ofValue, Sem.run_bind, Sem.run_pure, Result.andThen_ok, invoke, hall, Array.append_empty]
 have hK' : ∀ w', Below w.heap.size w w' → K (a.put o.dst ((resA r).val v)) w' := fun w' hb => by
  refine hK _ _ _ ((h.world hb).put hd ?_)
  rw [← hval]
  exact resA_is hpure p
 unfold Oper.wp
 rw [hrun]
 rcases hcall w h.laid.1 h.laid.2 with ⟨w', h1, h2⟩ | ⟨g, args', h1, h2⟩
 ·rw [h1, Oper.upon_value]
  exact hK' w' h2
 ·rw [h1, Oper.upon_enter]
  refine h2.mono fun e w' ⟨h3, h4⟩ => ?_
  subst h3
  exact hK' w' h4
theorem does_makeFunc {f : FuncId} {x : Operand} {first captured : Array Operand} {l : List Sc} (hd : ∀ d, o.dst = some d → d < s.n) (ho : o.op = .makeFunc (.func f) first captured) (hfi : first = #[x]) (hca : captured = #[]) (hx : s.ev x = .one (.agg l)) (nv ora) :
  Does P v s o ⟨.one (.fn f l), [], [], nv, ora⟩ := by
 refine does_value hd fun a w p h => ⟨.func (.func f) #[.agg (l.map (Sc.den v)).toArray] #[], ?_, rfl⟩
 have := h.ev x
 rw [hx] at this
 have ex : a.eval x = .agg (l.map (Sc.den v)).toArray := this
 unfold execOp
 rw [ho]
 simp [hfi, hca, ex, Instr.makeFunc]
theorem does_len {c : Call} {x : Operand} {t e : TypeId} {m off n : Nat} {cap : Option Nat} (hd : ∀ d, o.dst = some d → d < s.n) (ho : o.op = .call c) (hf : c.callee = .builtin .len) (hx : c.args = #[x]) (ht : c.argTypes[0]? = some t) (hu : P.underlying t = some (.slice e))
  (he : s.ev x = .one (.slc m off n cap)) (nv ora) : Does P v s o ⟨.one (.sc (.int .i64 (.lit n))), [], [], nv, ora⟩ := by
 refine does_value hd fun a w p h => ⟨.int .i64 n, ?_, rfl⟩
 have hxx := h.ev x
 rw [he] at hxx
 obtain ⟨r, n', hp, hn, ex, hcap⟩ := hxx
 unfold execOp
 rw [ho]
 simp [resolve, hf, hx, ex, invoke, builtin, Builtin.len_, ht, run_underlying hu, goInt]
theorem does_len_nil {c : Call} {x : Operand} {t e : TypeId} (hd : ∀ d, o.dst = some d → d < s.n) (ho : o.op = .call c) (hf : c.callee = .builtin .len) (hx : c.args = #[x]) (ht : c.argTypes[0]? = some t) (hu : P.underlying t = some (.slice e))
  (he : s.ev x = .one .nils) (nv ora) : Does P v s o ⟨.one (.sc (.int .i64 (.lit 0))), [], [], nv, ora⟩ := by
 refine does_value hd fun a w p h => ⟨.int .i64 0, ?_, rfl⟩
 have hxx := h.ev x
 rw [he] at hxx
 have ex : a.eval x = .slice none 0 0 := hxx
 unfold execOp
 rw [ho]
 simp [resolve, hf, hx, ex, invoke, builtin, Builtin.len_, ht, run_underlying hu, goInt]
end
end Go.Sx
namespace Go.Sx
open Go Go.RowKit
section
variable {P : Program} {v : Env} {s : Sig} {o : Oper}
def sliceT (P : Program) (t : TypeId) : Bool := match P.underlying t with | some (.slice _) => true | _ => false
def bytesT (P : Program) (t : TypeId) : Option TypeId := match P.underlying t with | some (.slice e) => (match P.underlying e with | some (.int .u8) => some e | _ => none) | _ => none
def arr64 (P : Program) (e : TypeId) : Option TypeId := (List.range P.types.size).find? fun t => match P.underlying t with | some (.array 64 e') => decide (e' = e) | _ => false
def fullE (e : TypeId) (nv : Nat) : ERes := .fresh e (.lvar nv) (.lit 0) (.len (.lvar nv)) true
def fullA (x0 nv : Nat) : A := .bsl x0 (.lit 0) (.len (.lvar nv)) true
def someE (T : TypeId) (nv : Nat) : ERes := .fresh T (.lvar nv) (.var nv) (.var (nv + 1)) false
def someA (x0 nv : Nat) : A := .bsl x0 (.var nv) (.var (nv + 1)) false
theorem fresh_rel {T : TypeId} {l off len : I} {full : Bool} {w w' : World} {p : Mp} {a : Act} {u : Value} {x0 : Nat} (h : RelP v s a w p) (hb : Below w.heap.size w w') (hx0 : s.mem x0 = none) (h0 : 0 ≤ off.den v) (h1 : 0 ≤ len.den v) (hr : ((ERes.fresh T l off len full).den v).Is w.heap.size w' u) :
  ∃ q, p.le q ∧ RelP v (s.setM x0 (newRowB T .u8 l)) a w' q ∧ (A.bsl x0 off len full).Is v q u := by
 obtain ⟨b, c, rfl, h2, h3, h4⟩ := hr
 have e0 : ((off.den v).toNat : Int) = off.den v := Int.toNat_of_nonneg h0
 have e1 : ((len.den v).toNat : Int) = len.den v := Int.toNat_of_nonneg h1
 rcases h4 with h4 | ⟨r, cs, rfl, h5, h6, h7, h8, h9⟩
 ·exact ⟨p, p.le_refl, (h.world hb).ghost hx0 rfl, b, (len.den v).toNat, c, e1.symm, rfl, h2, h3, .inl h4⟩
 ·obtain ⟨q, q1, q2, q3⟩ := h.fresh (x := x0) (b := newRowB T .u8 l) (cs := cs) hx0 hb h5 h6 (fun q _ _ => h7) h8
  exact ⟨q, q1, q3, _, (len.den v).toNat, c, e1.symm, rfl, h2, h3, .inr ⟨r, cs.size, (off.den v).toNat, q2, e0.symm, rfl, h9⟩⟩
theorem callS_run {c : Call} {f : FuncId} {as : List EArg} {rs : List ERes} {ts : List TypeId} {ev : List Ev} (ho : o.op = .call c) (hf : c.callee = .value (.func f)) (has : argsE P s c.args.toList ts = some (as, ev)) (he : ∀ e ∈ ev, e.holds P v)
  (hc : CallS P v.L f (as.map (EArg.den v)) (rs.map (ERes.den v))) {a : Act} {w : World} {p : Mp} (h : RelP v s a w p) {K : Act → World → Prop} {Q : Exit → Act → World → Prop}
  (hK : ∀ w' vs, Below w.heap.size w w' → resIs w.heap.size w' (rs.map (ERes.den v)) vs → K (a.put o.dst (retOf vs)) w') : o.wp P a w K Q := by
 obtain ⟨hen, hcalls⟩ := hc w _ h.laid.1 h.laid.2 (argsE_is has he h)
 have hargs : c.args.map a.eval = (c.args.toList.map a.eval).toArray := by
  apply Array.ext'
  simp
 have hrun : (execOp a.eval o).run P w = .ok (.enter f (c.args.toList.map a.eval).toArray) w := by
  unfold execOp
  rw [ho]
  simp only [resolve, hf, hargs, Act.eval, Deferred.ofValue, Sem.run_bind, Sem.run_pure, Result.andThen_ok, invoke]
  simpa using hen
 unfold Oper.wp
 rw [hrun, Oper.upon_enter]
 refine hcalls.mono fun e w' ⟨vs, h1, h2, h3⟩ => ?_
 subst h1
 exact hK w' vs h3 h2
theorem resIs_vals {B : Nat} {w : World} : ∀ {r : List A} {vs : List Value}, resIs B w ((r.map ERes.val).map (ERes.den v)) vs → vs = r.map (A.val v)
 | [], vs, h => h
 | a :: r, vs, ⟨u, us, e, h1, h2⟩ => by rw [e, show u = _ from h1, resIs_vals h2]; rfl
theorem retOf_val (r : List A) : retOf (r.map (A.val v)) = (resA r).val v := by
 unfold retOf resA
 match r with
 | [] => rfl
 | [x] => rfl
 | x :: y :: l => rfl
theorem does_callS_pure {c : Call} {f : FuncId} {as : List EArg} {r : List A} {m nv : Nat} {ts rt : List TypeId} {ev : List Ev} {ora : List (Option Bool)} (hd : ∀ d, o.dst = some d → d < s.n) (ho : o.op = .call c) (hf : c.callee = .value (.func f))
  (has : argsE P s c.args.toList ts = some (as, ev)) (hr : freshAs P nv rt = some (r, m)) (he : ∀ e ∈ ev ++ Ev.callS f as (r.map .val) :: (decAs r ora).2.1, e.holds P v) :
  Does P v s o ⟨resA (decAs r ora).1, [], ev ++ Ev.callS f as (r.map .val) :: (decAs r ora).2.1, m, (decAs r ora).2.2⟩ := by
 intro a w p h K Q hK
 have hcall : CallS P v.L f (as.map (EArg.den v)) ((r.map ERes.val).map (ERes.den v)) := he (Ev.callS f as (r.map .val)) (by simp)
 have hval : (resA (decAs r ora).1).val v = (resA r).val v := resA_val (decAs_val r ora fun e hm => he e (by simp [hm]))
 have hpure := decAs_pure r ora (freshAs_pure hr)
 refine callS_run ho hf has (fun e hm => he e (by simp [hm])) hcall h fun w' vs hb hvs => ?_
 rw [resIs_vals hvs, retOf_val, ← hval]
 exact hK _ _ _ ((h.world hb).put hd (resA_is hpure p))
theorem does_callS_row {c : Call} {f : FuncId} {as : List EArg} {nv x0 : Nat} {e : TypeId} {ts : List TypeId} {ev : List Ev} {ora : List (Option Bool)} (hd : ∀ d, o.dst = some d → d < s.n) (ho : o.op = .call c) (hf : c.callee = .value (.func f))
  (has : argsE P s c.args.toList ts = some (as, ev)) (hx0 : s.mem x0 = none) (he : ∀ e' ∈ ev ++ [Ev.callS f as [fullE e nv]], e'.holds P v) :
  Does P v s o ⟨.one (fullA x0 nv), [(x0, newRowB e .u8 (.lvar nv))], ev ++ [Ev.callS f as [fullE e nv]], nv + 1, ora⟩ := by
 intro a w p h K Q hK
 have hcall : CallS P v.L f (as.map (EArg.den v)) ([fullE e nv].map (ERes.den v)) := he (Ev.callS f as [fullE e nv]) (by simp)
 refine callS_run ho hf has (fun e hm => he e (by simp [hm])) hcall h fun w' vs hb hvs => ?_
 obtain ⟨u, us, rfl, h1, h2⟩ := hvs
 obtain ⟨q, q1, q2, q3⟩ := fresh_rel h hb hx0 (by simp [I.den]) (by simp [I.den]) h1
 rw [show us = [] from h2]
 exact hK _ _ q (q2.put hd q3)
theorem does_callS_two {c : Call} {f : FuncId} {as : List EArg} {y : A} {nv m x0 : Nat} {T t : TypeId} {ts : List TypeId} {ev : List Ev} {ora : List (Option Bool)} (hd : ∀ d, o.dst = some d → d < s.n) (ho : o.op = .call c) (hf : c.callee = .value (.func f))
  (has : argsE P s c.args.toList ts = some (as, ev)) (hy : freshA P nv t = some (y, m)) (hx0 : s.mem x0 = none)
  (he : ∀ e' ∈ ev ++ [Ev.callS f as [.val y, someE T m], .dec (.cmp .leq (.lit 0) (.var m)) true, .dec (.cmp .leq (.lit 0) (.var (m + 1))) true], e'.holds P v) :
  Does P v s o ⟨.tup [y, someA x0 m], [(x0, newRowB T .u8 (.lvar m))], ev ++ [Ev.callS f as [.val y, someE T m], .dec (.cmp .leq (.lit 0) (.var m)) true, .dec (.cmp .leq (.lit 0) (.var (m + 1))) true], m + 2, ora⟩ := by
 intro a w p h K Q hK
 have hcall : CallS P v.L f (as.map (EArg.den v)) ([.val y, someE T m].map (ERes.den v)) := he (Ev.callS f as [.val y, someE T m]) (by simp)
 have g1 := he (.dec (.cmp .leq (.lit 0) (.var m)) true) (by simp)
 have g2 := he (.dec (.cmp .leq (.lit 0) (.var (m + 1))) true) (by simp)
 simp only [Ev.holds, Bx.den, cmpD, decide_eq_true_eq] at g1 g2
 refine callS_run ho hf has (fun e hm => he e (by simp [hm])) hcall h fun w' vs hb hvs => ?_
 obtain ⟨u, us, rfl, h1, u2, us2, rfl, h2, h3⟩ := hvs
 obtain ⟨q, q1, q2, q3⟩ := fresh_rel h hb hx0 (by simpa [I.den] using g1) (by simpa [I.den] using g2) h2
 rw [show us2 = [] from h3]
 refine hK _ _ q (q2.put hd ⟨_, rfl, u, [u2], rfl, ?_, u2, [], rfl, q3, rfl⟩)
 rw [show u = _ from h1]
 exact A.pure_is (freshA_pure hy) q
theorem RelP.weaken {a : Act} {w : World} {p : Mp} (h : RelP v s a w p) {m : Nat} {b b' : Blk} (hm : s.mem m = some b) (hd : b.dead = false) (hT : b'.T = b.T) (ho : b'.own = b.own) (hrow : b'.row.isSome = true) (hh : ∀ cs, b.holds v p cs → b'.holds v p cs) :
  RelP v (s.setM m b') a w p := by
 have alive : ∀ y c, (s.setM m b').mem y = some c → c.dead = false → ∃ c0, s.mem y = some c0 ∧ c0.dead = false := by
  intro y c hy hc
  simp only [Sig.setM] at hy
  by_cases e : y = m
  ·exact ⟨b, by rw [e]; exact hm, hd⟩
  ·rw [if_neg e] at hy; exact ⟨c, hy, hc⟩
 refine ⟨h.defers, h.size, h.base, h.below, ?_, ?_, ?_, h.glob, h.frame, h.gk, h.g0⟩
 ·intro y z r n k c d hy hcd hz hdd hqy hqz
  obtain ⟨c0, h1, h2⟩ := alive y c hy hcd
  obtain ⟨d0, h3, h4⟩ := alive z d hz hdd
  exact h.inj y z r n k c0 d0 h1 h2 h3 h4 hqy hqz
 ·intro y c hy
  simp only [Sig.setM] at hy
  by_cases e : y = m
  ·rw [if_pos e] at hy
   cases hy
   rw [e]
   rcases h.mem m b hm with hn | ⟨r, n, h1, h2, h3⟩
   ·exact .inl ⟨hrow, hn.2⟩
   ·refine .inr ⟨r, n, h1, h2, fun _ => ?_⟩
    obtain ⟨cs, fz, k1, k2, k3, k4⟩ := h3 hd
    exact ⟨cs, fz, by rw [hT]; exact k1, k2, hh _ k3, fun hb' => k4 (by rw [← ho]; exact hb')⟩
  ·rw [if_neg e] at hy
   exact h.mem y c hy
 ·intro y hy
  simp only [Sig.setM] at hy
  by_cases e : y = m
  ·simp [e] at hy
  ·rw [if_neg e] at hy; exact h.free y hy
theorem does_rev {c : Call} {f : FuncId} {x : Operand} {m : Nat} {off len l : I} {b : Blk} {ev : List Ev} (hd : ∀ d, o.dst = some d → d < s.n) (ho : o.op = .call c) (hf : c.callee = .value (.func f)) (hargs : c.args = #[x]) (hx : s.ev x = .one (.bsl m off len true))
  (hm : s.mem m = some b) (hb : b.dead = false) (hown : b.own = true) (hn : b.nums = some (.u8, l)) (hev : leEv len (mkLen l) = some ev) (he : ∀ e ∈ ev ++ [Ev.rev f], e.holds P v) (nv ora) :
  Does P v s o ⟨.tup [], [(m, { b with cells := [], row := some (.u8, mkRev (mkPart l (.lit 0) len)) })], ev ++ [Ev.rev f], nv, ora⟩ := by
 intro a w p h K Q hK
 have hxx := h.ev x
 rw [hx] at hxx
 obtain ⟨ba, n, cc, l1, l2, l3, l4, l5⟩ := hxx
 have hle := leEv_ok hev (fun e hm => he e (by simp [hm]))
 rw [mkLen_den, l1] at hle
 have hrev : Reverser P f := he (.rev f) (by simp)
 have hrow : (mkRev (mkPart l (.lit 0) len)).ldn v = ((l.ldn v).take n).reverse := by
  rw [mkRev_ldn, mkPart_ldn, l1]
  simp [I.den]
 have hlen : ((l.ldn v).take n).length = n := by rw [List.length_take]; omega
 obtain ⟨hen, hnil, hrev⟩ := hrev w ba cc ((l.ldn v).take n) (by rw [hlen]; exact l3) l4
 rw [hlen] at hen hnil hrev
 have hrun : (execOp a.eval o).run P w = .ok (.enter f #[.slice ba n cc]) w := by
  unfold execOp
  rw [ho]
  simp only [resolve, hf, hargs, Act.eval, Deferred.ofValue, Sem.run_bind, Sem.run_pure, Result.andThen_ok, invoke]
  simpa [l2] using hen
 unfold Oper.wp
 rw [hrun, Oper.upon_enter]
 have htup : ∀ q, AV.Is v q (.tup []) (.tuple #[]) := fun q => ⟨#[], rfl, rfl⟩
 rcases l5 with l5 | ⟨r, N, q, p1, p2, p3, p4⟩
 ·refine (hnil l5).mono fun e w' ⟨h1, h2⟩ => ?_
  subst h1
  have hn0 : n = 0 := by omega
  refine hK _ _ p (RelP.put (RelP.weaken (b' := { b with cells := [], row := some (.u8, mkRev (mkPart l (.lit 0) len)) }) (h.world h2) hm hb rfl rfl rfl fun cs _ => ?_) hd (htup p))
  show List.take ((mkRev (mkPart l (.lit 0) len)).ldn v).length _ = List.map _ _
  rw [hrow, hn0]
  simp
 ·obtain ⟨rfl, rfl⟩ := p4 rfl
  obtain ⟨_, hB⟩ := h.at hm p1
  obtain ⟨cs, fz, k1, k2, k3, k4, k5, k6⟩ := nums_cell hB hb hn
  obtain ⟨k7, rfl, k8⟩ := k6 hown
  have h9 : cs.toList.take n = ((l.ldn v).take n).map (Value.int .u8) := by
   have := congrArg (List.take n) k3
   rw [List.take_take, Nat.min_eq_left (by omega), ← List.map_take] at this
   exact this
  refine (hrev r cs b.T p3 k1 h9).mono fun e w' ⟨h1, q, h2⟩ => ?_
  subst h1 h2
  have hw : RelP v s a (w.drewN q) p := h.world ⟨rfl, rfl, rfl, Nat.le_refl _, fun _ _ => rfl⟩
  have hst := hw.store (b' := { b with cells := [], row := some (.u8, mkRev (mkPart l (.lit 0) len)) }) (cs := cs) (cs' := (((l.ldn v).take n).reverse.map (Value.int .u8) ++ cs.toList.drop n).toArray) hm hb k7 p1 k1 rfl (fun _ => rfl)
   (by simp; omega) (by
    show List.take ((mkRev (mkPart l (.lit 0) len)).ldn v).length _ = List.map _ _
    rw [hrow, List.toList_toArray, List.take_left' (by simp)]) (by
    intro u hu
    simp only [List.toList_toArray, List.mem_append] at hu
    rcases hu with hu | hu
    ·obtain ⟨x, _, rfl⟩ := List.mem_map.1 hu; rfl
    ·exact k8 u (List.mem_of_mem_drop hu))
  exact hK _ _ p (hst.put hd (htup p))
end
end Go.Sx
namespace Go.Sx
open Go Go.RowKit
section
variable {P : Program} {v : Env} {s s' : Sig} {o : Oper}
def dstOk (s : Sig) (o : Oper) : Bool := match o.dst with | some d => decide (d < s.n) | none => true
def loadNum (P : Program) (t : TypeId) (i : I) (b : Blk) (nv : Nat) (ora : List (Option Bool)) : Option Out :=
 match b.dead, b.nums, isAggT P t with
 | false, some (k, l), some false => match ltEv i (mkLen l) with | some ev => some ⟨.one (.sc (.int k (mkGet l i))), [], ev, nv, ora⟩ | none => none
 | false, some (k, l), some true => match ((P.info? t).map (·.size) : Option Nat) with
  | some n => match leEv (mkSum i (.lit n)) (mkLen l) with | some ev => some ⟨.one (.agg (arrA k l i n)), [], ev, nv, ora⟩ | none => none
  | none => none
 | _, _, _ => none
theorem loadNum_does {t : TypeId} {x : Operand} {a : A} {m nv : Nat} {i : I} {b : Blk} {ora : List (Option Bool)} {out : Out} (h : loadNum P t i b nv ora = some out) (he : ∀ e ∈ out.ev, e.holds P v) (hd : ∀ d, o.dst = some d → d < s.n) (ho : o.op = .load t x) (hx : s.ev x = .one a)
  (hp : placeA a = some (m, i)) (hm : s.mem m = some b) : Does P v s o out := by
 unfold loadNum at h
 split at h
 ·rename_i k l hb hn ha
  split at h
  ·rename_i ev hev
   simp only [Option.some.injEq] at h; subst h
   exact does_load_num hd ho hx hp hm hb ha hn hev he _ _
  ·cases h
 ·rename_i k l hb hn ha
  split at h
  ·rename_i n hi
   split at h
   ·rename_i ev hev
    simp only [Option.some.injEq] at h; subst h
    exact does_load_arr hd ho hx hp hm hb ha hi hn hev he _ _
   ·cases h
  ·cases h
 ·cases h
def coreLoad (P : Program) (s : Sig) (nv : Nat) (ora : List (Option Bool)) (t : TypeId) (x : Operand) : Option Out :=
 match s.ev x with
 | .one (.ptr m off) => match s.mem m with
  | some b => match b.row with
   | none => match b.dead, isAggT P t with
    | false, some false => match b.cells[off]? with | some y => some ⟨.one y, [], [], nv, ora⟩ | none => none
    | false, some true => match (P.info? t).map (·.size) with
     | some sz => match scs ((b.cells.drop off).take sz) with | some ss => if ss.length = sz then some ⟨.one (.agg ss), [], [], nv, ora⟩ else none | none => none
     | none => none
    | _, _ => none
   | some _ => loadNum P t (.lit off) b nv ora
  | none => none
 | .one (.bptr m i) => match s.mem m with
  | some b => loadNum P t i b nv ora
  | none => none
 | .one (.immp z) => match isAggT P t with | some false => some ⟨.one (.sc (.int .u8 z)), [], [], nv, ora⟩ | _ => none
 | .one (.immPp n i) => match isAggT P t with | some false => some ⟨.one (.imm (.item n i) none), [], [], nv, ora⟩ | _ => none
 | _ => none
theorem coreLoad_does {t : TypeId} {x : Operand} {nv : Nat} {ora : List (Option Bool)} {out : Out} (h : coreLoad P s nv ora t x = some out) (he : ∀ e ∈ out.ev, e.holds P v) (hd : ∀ d, o.dst = some d → d < s.n) (ho : o.op = .load t x) : Does P v s o out := by
 unfold coreLoad at h
 split at h
 ·rename_i m off hxx
  split at h
  ·rename_i b hm
   split at h
   ·rename_i hw
    split at h
    ·rename_i hb ha
     split at h
     ·rename_i y hc
      simp only [Option.some.injEq] at h; subst h
      exact does_load_one hd ho hxx hm hb hw ha hc _ _
     ·cases h
    ·rename_i hb ha
     split at h
     ·rename_i sz hi
      split at h
      ·rename_i ss hss
       split at h
       ·rename_i hl
        subst hl
        simp only [Option.some.injEq] at h; subst h
        exact does_load_agg hd ho hxx hm hb hw ha hi hss _ _
       ·cases h
      ·cases h
     ·cases h
    ·cases h
   ·exact loadNum_does h he hd ho hxx rfl hm
  ·cases h
 ·rename_i m i hxx
  split at h
  ·rename_i b hm
   exact loadNum_does h he hd ho hxx rfl hm
  ·cases h
 ·rename_i z hxx
  split at h
  ·rename_i ha
   simp only [Option.some.injEq] at h; subst h
   exact does_load_imm hd ho hxx ha _ _
  ·cases h
 ·rename_i n i hxx
  split at h
  ·rename_i ha
   simp only [Option.some.injEq] at h; subst h
   exact does_load_immP hd ho hxx ha _ _
  ·cases h
 ·cases h
def storeNum (P : Program) (t : TypeId) (m : Nat) (i : I) (b : Blk) (z : A) (nv : Nat) (ora : List (Option Bool)) : Option Out :=
 match z, b.nums with
 | .sc (.int k z), some (k', l) =>
  if b.dead = false ∧ b.own = true ∧ (P.info? t).map (·.size) = some 1 ∧ k' = k then
   match ltEv i (mkLen l) with
   | some ev => some ⟨.undef, [(m, { b with cells := [], row := some (k, mkSet l i z) })], ev, nv, ora⟩
   | none => none
  else none
 | _, _ => none
theorem storeNum_does {t : TypeId} {x y : Operand} {a z : A} {m nv : Nat} {i : I} {b : Blk} {ora : List (Option Bool)} {out : Out} (h : storeNum P t m i b z nv ora = some out) (he : ∀ e ∈ out.ev, e.holds P v) (hd : ∀ d, o.dst = some d → d < s.n) (ho : o.op = .store t x y) (hx : s.ev x = .one a)
  (hp : placeA a = some (m, i)) (hy : s.ev y = .one z) (hm : s.mem m = some b) : Does P v s o out := by
 unfold storeNum at h
 split at h
 ·rename_i k z k' l hn
  split at h
  ·rename_i hc
   obtain ⟨h1, h2, h3, rfl⟩ := hc
   split at h
   ·rename_i ev hev
    simp only [Option.some.injEq] at h; subst h
    exact does_store_num hd ho hx hp hy hm h1 h2 h3 hn hev he _ _
   ·cases h
  ·cases h
 ·cases h
def coreStore (P : Program) (s : Sig) (nv : Nat) (ora : List (Option Bool)) (t : TypeId) (x y : Operand) : Option Out :=
 match s.ev x, s.ev y with
 | .one (.ptr m off), .one z => match s.mem m with
  | some b => match b.row with
   | none => if b.dead = false ∧ b.own = true ∧ (P.info? t).map (·.size) = some z.cells.length ∧ off + z.cells.length ≤ b.cells.length then some ⟨.undef, [(m, { b with cells := putCells b.cells off z.cells })], [], nv, ora⟩ else none
   | some _ => storeNum P t m (.lit off) b z nv ora
  | none => none
 | .one (.bptr m i), .one z => match s.mem m with
  | some b => storeNum P t m i b z nv ora
  | none => none
 | _, _ => none
theorem coreStore_does {t : TypeId} {x y : Operand} {nv : Nat} {ora : List (Option Bool)} {out : Out} (h : coreStore P s nv ora t x y = some out) (he : ∀ e ∈ out.ev, e.holds P v) (hd : ∀ d, o.dst = some d → d < s.n) (ho : o.op = .store t x y) : Does P v s o out := by
 unfold coreStore at h
 split at h
 ·rename_i m off z hxx hyy
  split at h
  ·rename_i b hm
   split at h
   ·rename_i hw
    split at h
    ·rename_i hc
     obtain ⟨h1, h2, h3, h4⟩ := hc
     simp only [Option.some.injEq] at h; subst h
     exact does_store hd ho hxx hyy hm h1 hw h2 h3 h4 _ _
    ·cases h
   ·exact storeNum_does h he hd ho hxx rfl hyy hm
  ·cases h
 ·rename_i m i z hxx hyy
  split at h
  ·rename_i b hm
   exact storeNum_does h he hd ho hxx rfl hyy hm
  ·cases h
 ·cases h
def takeU : List (Option Bool) → Nat → Option (Nat × List (Option Bool))
 | some true :: r, n => takeU r (n + 1)
 | some false :: r, n => some (n, r)
 | _, _ => none
def idxEv (z n : I) : Option (List Ev) := match leEv (.lit 0) z, ltEv z n with | some a, some b => some (a ++ b) | _, _ => none
theorem idxEv_ok {z n : I} {ev : List Ev} (h : idxEv z n = some ev) : ∃ a b, leEv (.lit 0) z = some a ∧ ltEv z n = some b ∧ ev = a ++ b := by
 unfold idxEv at h
 split at h
 ·rename_i a b h1 h2
  simp only [Option.some.injEq] at h
  exact ⟨a, b, h1, h2, h.symm⟩
 ·cases h
def coreIndex (P : Program) (s : Sig) (nv : Nat) (ora : List (Option Bool)) (t : TypeId) (x i : Operand) : Option Out :=
 match s.ev x, s.ev i with
 | .one (.ptr m off), .one (.sc (.int _ (.lit j))) => match P.underlying t with
  | some (.array n e) => if (P.info? e).isSome = true ∧ 0 ≤ j ∧ j < n then some ⟨.one (.ptr m (off + j.toNat * P.cellsOf e)), [], [], nv, ora⟩ else none
  | _ => none
 | .one (.slc m off len _), .one (.sc (.int _ (.lit j))) => match P.underlying t with
  | some (.slice e) => if (P.info? e).isSome = true ∧ 0 ≤ j ∧ j < len then some ⟨.one (.ptr m (off + j.toNat * P.cellsOf e)), [], [], nv, ora⟩ else none
  | _ => none
 | .one (.ptr m off), .one (.sc (.int _ z)) => match P.underlying t with
  | some (.array n e) =>
   if (P.info? e).isSome = true ∧ P.cellsOf e = 1 then
    match idxEv z (.lit n) with | some ev => some ⟨.one (.bptr m (mkSum (.lit off) z)), [], ev, nv, ora⟩ | none => none
   else match takeU ora 0 with
    | some (j, r) => if (P.info? e).isSome = true ∧ j < n then some ⟨.one (.ptr m (off + j * P.cellsOf e)), [], [.dec (.cmp .eql z (.lit j)) true], nv, r⟩ else none
    | none => none
  | _ => none
 | .one (.bsl m off len _), .one (.sc (.int _ z)) => match P.underlying t with
  | some (.slice e) => if (P.info? e).isSome = true ∧ P.cellsOf e = 1 then (match idxEv z len with | some ev => some ⟨.one (.bptr m (mkSum off z)), [], ev, nv, ora⟩ | none => none) else none
  | _ => none
 | .one (.imm l _), .one (.sc (.int _ z)) => match P.underlying t with
  | some (.slice e) => if (P.info? e).isSome = true ∧ P.cellsOf e = 1 then (match idxEv z (mkLen l) with | some ev => some ⟨.one (.immp (mkGet l z)), [], ev, nv, ora⟩ | none => none) else none
  | _ => none
 | .one (.immP n), .one (.sc (.int _ z)) => match P.underlying t with
  | some (.slice e) => if (P.info? e).isSome = true ∧ P.cellsOf e = 1 then (match idxEv z (.plen n) with | some ev => some ⟨.one (.immPp n z), [], ev, nv, ora⟩ | none => none) else none
  | _ => none
 | _, _ => none
theorem does_indexAddr_pick {t e : TypeId} {x i : Operand} {m off n j : Nat} {k : IntKind} {z : I} (hd : ∀ d, o.dst = some d → d < s.n) (ho : o.op = .indexAddr t x i) (hx : s.ev x = .one (.ptr m off)) (hi : s.ev i = .one (.sc (.int k z)))
  (hu : P.underlying t = some (.array n e)) (hs : (P.info? e).isSome = true) (h1 : j < n) (he : ∀ e ∈ [Ev.dec (.cmp .eql z (.lit j)) true], e.holds P v) (nv ora) : Does P v s o ⟨.one (.ptr m (off + j * P.cellsOf e)), [], [.dec (.cmp .eql z (.lit j)) true], nv, ora⟩ := by
 have hz := he _ (List.mem_singleton.2 rfl)
 simp only [Ev.holds, Bx.den, cmpD, I.den, beq_iff_eq] at hz
 refine does_value hd fun a w p h => ?_
 have hxx := h.ev x
 rw [hx] at hxx
 obtain ⟨r, n', hp, ex⟩ := hxx
 have hii := h.ev i
 rw [hi] at hii
 have ei : a.eval i = .int k (j : Int) := by rw [← hz]; exact hii
 obtain ⟨ti, hti⟩ := Option.isSome_iff_exists.1 hs
 refine ⟨_, ?_, r, n', hp, rfl⟩
 unfold execOp
 rw [ho]
 simp [ex, ei, Instr.indexAt, asIntOf, run_underlying hu, Instr.sureAddr, h1, run_sizeOf w hti, Addr.add_mid]
theorem coreIndex_does {t : TypeId} {x i : Operand} {nv : Nat} {ora : List (Option Bool)} {out : Out} (h : coreIndex P s nv ora t x i = some out) (he : ∀ e ∈ out.ev, e.holds P v) (hd : ∀ d, o.dst = some d → d < s.n) (ho : o.op = .indexAddr t x i) : Does P v s o out := by
 unfold coreIndex at h
 split at h
 ·rename_i m off k j hxx hii
  split at h
  ·rename_i n e hu
   split at h
   ·rename_i hc
    simp only [Option.some.injEq] at h; subst h
    exact does_indexAddr_array hd ho hxx hii hu hc.1 hc.2.1 hc.2.2 _ _
   ·cases h
  ·cases h
 ·rename_i m off len cap k j hxx hii
  split at h
  ·rename_i e hu
   split at h
   ·rename_i hc
    simp only [Option.some.injEq] at h; subst h
    exact does_indexAddr_slice hd ho hxx hii hu hc.1 hc.2.1 hc.2.2 _ _
   ·cases h
  ·cases h
 ·rename_i m off k z _ hxx hii
  split at h
  ·rename_i n e hu
   split at h
   ·rename_i hc
    split at h
    ·rename_i ev hev
     simp only [Option.some.injEq] at h; subst h
     obtain ⟨a, b, h1, h2, h3⟩ := idxEv_ok hev
     exact does_indexAddr_sym hd ho hxx hii hu hc.1 hc.2 h1 h2 h3 he _ _
    ·cases h
   ·split at h
    ·rename_i j r hj
     split at h
     ·rename_i hc
      simp only [Option.some.injEq] at h; subst h
      exact does_indexAddr_pick hd ho hxx hii hu hc.1 hc.2 he _ _
     ·cases h
    ·cases h
  ·cases h
 ·rename_i m off len full k z hxx hii
  split at h
  ·rename_i e hu
   split at h
   ·rename_i hc
    split at h
    ·rename_i ev hev
     simp only [Option.some.injEq] at h; subst h
     obtain ⟨a, b, h1, h2, h3⟩ := idxEv_ok hev
     exact does_indexAddr_bsl hd ho hxx hii hu hc.1 hc.2 h1 h2 h3 he _ _
    ·cases h
   ·cases h
  ·cases h
 ·rename_i l nl k z hxx hii
  split at h
  ·rename_i e hu
   split at h
   ·rename_i hc
    split at h
    ·rename_i ev hev
     simp only [Option.some.injEq] at h; subst h
     obtain ⟨a, b, h1, h2, h3⟩ := idxEv_ok hev
     exact does_indexAddr_imm hd ho hxx hii hu hc.1 hc.2 h1 h2 h3 he _ _
    ·cases h
   ·cases h
  ·cases h
 ·rename_i n k z hxx hii
  split at h
  ·rename_i e hu
   split at h
   ·rename_i hc
    split at h
    ·rename_i ev hev
     simp only [Option.some.injEq] at h; subst h
     obtain ⟨a, b, h1, h2, h3⟩ := idxEv_ok hev
     exact does_indexAddr_immP hd ho hxx hii hu hc.1 hc.2 h1 h2 h3 he _ _
    ·cases h
   ·cases h
  ·cases h
 ·cases h
def sliceEv (zl zh n : I) : Option (List Ev) := match leEv (.lit 0) zl, leEv zl zh, leEv zh n with | some a, some b, some c => some (a ++ b ++ c) | _, _, _ => none
theorem sliceEv_ok {zl zh n : I} {ev : List Ev} (h : sliceEv zl zh n = some ev) : ∃ a b c, leEv (.lit 0) zl = some a ∧ leEv zl zh = some b ∧ leEv zh n = some c ∧ ev = a ++ b ++ c := by
 unfold sliceEv at h
 split at h
 ·rename_i a b c h1 h2 h3
  simp only [Option.some.injEq] at h
  exact ⟨a, b, c, h1, h2, h3, h.symm⟩
 ·cases h
def coreSlice (P : Program) (s : Sig) (nv : Nat) (ora : List (Option Bool)) (t : TypeId) (x : Operand) (lo hi : Option Operand) : Option Out :=
 match s.ev x with
 | .one (.ptr m off) => match P.underlying t with
  | some (.array n e) => if (P.info? e).isSome = true ∧ P.cellsOf e = 1 ∧ n ≤ 16777216 then
    match boundA s (.lit 0) lo, boundA s (.lit n) hi with
    | some zl, some zh => match sliceEv zl zh (.lit n) with | some ev => some ⟨.one (.bsl m (mkSum (.lit off) zl) (mkDif zh zl) false), [], ev, nv, ora⟩ | none => none
    | _, _ => none
   else none
  | _ => none
 | .one (.bsl m off len full) => match P.underlying t with
  | some (.slice e) => if (P.info? e).isSome = true ∧ P.cellsOf e = 1 then
    match boundA s (.lit 0) lo, boundA s len hi with
    | some zl, some zh => match sliceEv zl zh len with | some ev => some ⟨.one (.bsl m (mkSum off zl) (mkDif zh zl) (full && decide (zl = .lit 0))), [], ev, nv, ora⟩ | none => none
    | _, _ => none
   else none
  | _ => none
 | .one (.imm l nl) => match P.underlying t with
  | some (.slice e) => if (P.info? e).isSome = true ∧ P.cellsOf e = 1 then
    match boundA s (.lit 0) lo, boundA s (mkLen l) hi with
    | some zl, some zh => match sliceEv zl zh (mkLen l) with | some ev => some ⟨.one (.imm (mkPart l zl (mkDif zh zl)) nl), [], ev, nv, ora⟩ | none => none
    | _, _ => none
   else none
  | _ => none
 | .one .nils => match P.underlying t with
  | some (.slice e) => if (P.info? e).isSome = true ∧ boundA s (.lit 0) lo = some (.lit 0) ∧ boundA s (.lit 0) hi = some (.lit 0) then some ⟨.one .nils, [], [], nv, ora⟩ else none
  | _ => none
 | _ => none
theorem coreSlice_does {t : TypeId} {x : Operand} {lo hi : Option Operand} {nv : Nat} {ora : List (Option Bool)} {out : Out} (h : coreSlice P s nv ora t x lo hi = some out) (he : ∀ e ∈ out.ev, e.holds P v) (hd : ∀ d, o.dst = some d → d < s.n) (ho : o.op = .slice t x lo hi none) : Does P v s o out := by
 unfold coreSlice at h
 split at h
 ·rename_i m off hxx
  split at h
  ·rename_i n e hu
   split at h
   ·rename_i hc
    split at h
    ·rename_i zl zh hl hh
     split at h
     ·rename_i ev hev
      simp only [Option.some.injEq] at h; subst h
      obtain ⟨a, b, c, h1, h2, h3, h4⟩ := sliceEv_ok hev
      exact does_slice_arr hd ho hxx hu hc.1 hc.2.1 (Nat.le_trans hc.2.2 (by decide)) hl hh h1 h2 h3 h4 he _ _
     ·cases h
    ·cases h
   ·cases h
  ·cases h
 ·rename_i m off len full hxx
  split at h
  ·rename_i e hu
   split at h
   ·rename_i hc
    split at h
    ·rename_i zl zh hl hh
     split at h
     ·rename_i ev hev
      simp only [Option.some.injEq] at h; subst h
      obtain ⟨a, b, c, h1, h2, h3, h4⟩ := sliceEv_ok hev
      exact does_slice_bsl hd ho hxx hu hc.1 hc.2 hl hh h1 h2 h3 h4 he _ _
     ·cases h
    ·cases h
   ·cases h
  ·cases h
 ·rename_i l nl hxx
  split at h
  ·rename_i e hu
   split at h
   ·rename_i hc
    split at h
    ·rename_i zl zh hl hh
     split at h
     ·rename_i ev hev
      simp only [Option.some.injEq] at h; subst h
      obtain ⟨a, b, c, h1, h2, h3, h4⟩ := sliceEv_ok hev
      exact does_slice_imm hd ho hxx hu hc.1 hc.2 hl hh h1 h2 h3 h4 he _ _
     ·cases h
    ·cases h
   ·cases h
  ·cases h
 ·rename_i hxx
  split at h
  ·rename_i e hu
   split at h
   ·rename_i hc
    simp only [Option.some.injEq] at h; subst h
    exact does_slice_nils hd ho hxx hu hc.1 hc.2.1 hc.2.2 _ _
   ·cases h
  ·cases h
 ·cases h
def smallB (P : Program) (e : TypeId) : Bool := match P.info? e with | some i => decide (i.bytes ≤ 8) | none => false
theorem smallB_ok {e : TypeId} (h : smallB P e = true) : ∀ i, P.info? e = some i → i.bytes ≤ 8 := by
 intro i hi
 unfold smallB at h
 rw [hi] at h
 exact of_decide_eq_true h
def coreMake (P : Program) (s : Sig) (x0 nv : Nat) (ora : List (Option Bool)) (t : TypeId) (x y : Operand) : Option Out :=
 match s.ev x, s.ev y, P.underlying t with
 | .one (.sc (.int _ (.lit a))), .one (.sc (.int _ (.lit b))), some (.slice e) => match zeroA P e with
  | some (.sc (.int k (.lit 0))) => if a = b ∧ 0 ≤ a ∧ a ≤ 16777216 ∧ P.cellsOf e = 1 ∧ smallB P e = true then some ⟨.one (.bsl x0 (.lit 0) (.lit a.toNat) true), [(x0, newRowB e k (mkRep (.lit a.toNat)))], [], nv, ora⟩ else none
  | _ => none
 | _, _, _ => none
theorem coreMake_does {t : TypeId} {x y : Operand} {x0 nv : Nat} {ora : List (Option Bool)} {out : Out} (h : coreMake P s x0 nv ora t x y = some out) (hd : ∀ d, o.dst = some d → d < s.n) (ho : o.op = .makeSlice t x y) (hx0 : s.mem x0 = none) : Does P v s o out := by
 unfold coreMake at h
 split at h
 ·rename_i k1 a k2 b e hxx hyy hu
  split at h
  ·rename_i k hz
   split at h
   ·rename_i hc
    obtain ⟨rfl, h1, h2, h3, h4⟩ := hc
    simp only [Option.some.injEq] at h; subst h
    have ha : a = ((a.toNat : Nat) : Int) := (Int.toNat_of_nonneg h1).symm
    rw [ha] at hxx hyy
    exact does_makeSlice hd ho hxx hyy hu hz h3 (smallB_ok h4) (by omega) hx0 _ _
   ·cases h
  ·cases h
 ·cases h
def intsAll (k : IntKind) : List A → Option (List I)
 | [] => some []
 | .sc (.int k' z) :: l => if k' = k then (match intsAll k l with | some r => some (z :: r) | none => none) else none
 | _ :: _ => none
theorem intsAll_eq {k : IntKind} : ∀ {l : List A} {r : List I}, intsAll k l = some r → l = r.map fun z => A.sc (.int k z)
 | [], r, h => by simp only [intsAll, Option.some.injEq] at h; subst h; rfl
 | a :: l, r, h => by
  unfold intsAll at h
  split at h
  ·rename_i heq; cases heq
  ·rename_i k' z l' heq
   simp only [List.cons.injEq] at heq
   obtain ⟨rfl, rfl⟩ := heq
   split at h
   ·rename_i hk
    subst hk
    split at h
    ·rename_i r' hr
     simp only [Option.some.injEq] at h
     subst h
     rw [intsAll_eq hr]
     rfl
    ·cases h
   ·cases h
  ·cases h
def coreBuildS (P : Program) (s : Sig) (x0 nv : Nat) (ora : List (Option Bool)) (t : TypeId) (len : Nat) (parts : Array (Nat × Operand)) : Option Out :=
 match P.underlying t with
 | some (.slice e) => match zeroA P e, partsA s parts.toList with
  | some z, some ps => match fillA (fun j => some (j * 1, 1)) (List.replicate len z) ps with
   | some r =>
    if P.cellsOf e = 1 ∧ len ≤ 16777216 then
     match z with
     | .sc (.int k (.lit 0)) => match intsAll k r with
      | some es => some ⟨.one (.bsl x0 (.lit 0) (.lit len) true), [(x0, newRowB e k (I.ofL es))], [], nv, ora⟩
      | none => none
     | z => if z.oneCell = true ∧ r.all A.oneCell = true then some ⟨.one (.slc x0 0 len none), [(x0, newBlk e r)], [], nv, ora⟩ else none
    else none
   | none => none
  | _, _ => none
 | _ => none
theorem coreBuildS_does {t : TypeId} {len : Nat} {parts : Array (Nat × Operand)} {x0 nv : Nat} {ora : List (Option Bool)} {out : Out} (h : coreBuildS P s x0 nv ora t len parts = some out) (hd : ∀ d, o.dst = some d → d < s.n) (ho : o.op = .buildSlice t len parts) (hx0 : s.mem x0 = none) : Does P v s o out := by
 unfold coreBuildS at h
 split at h
 ·rename_i e hu
  split at h
  ·rename_i z ps hz hps
   split at h
   ·rename_i r hr
    split at h
    ·rename_i hc
     split at h
     ·rename_i k
      split at h
      ·rename_i es hes
       simp only [Option.some.injEq] at h; subst h
       exact does_buildSlice_num hd ho hu hz hc.1 hc.2 hps hr (intsAll_eq hes) hx0 _ _
      ·cases h
     ·split at h
      ·rename_i h2
       simp only [Option.some.injEq] at h; subst h
       exact does_buildSlice_any hd ho hu hz hc.1 h2.1 hc.2 hps hr h2.2 hx0 _ _
      ·cases h
    ·cases h
   ·cases h
  ·cases h
 ·cases h
def coreAppend (P : Program) (s : Sig) (x0 nv : Nat) (ora : List (Option Bool)) (c : Call) : Option Out :=
 match c.args.toList, c.argTypes.toList with
 | [x, y], [t, t'] => match P.underlying t, s.ev x, s.ev y with
  | some (.slice e), .one a, .one b => match zeroA P e with
   | some (.sc (.int k (.lit 0))) => if P.cellsOf e = 1 ∧ smallB P e = true then
     if t' = t then match readA s k b with
      | some (news, nev) => match appA s x0 k e a news with
       | some (r, mems, ev) => some ⟨.one r, mems, nev ++ ev, nv, ora⟩
       | none => none
      | none => none
     else match P.underlying t', b with
      | some (.int _), .sc (.int _ z) => match leEv (.lit 0) z with
       | some nev => match appA s x0 k e a (mkRep z) with
        | some (r, mems, ev) => some ⟨.one r, mems, nev ++ ev, nv, ora⟩
        | none => none
       | none => none
      | _, _ => none
    else none
   | _ => none
  | _, _, _ => none
 | _, _ => none
theorem coreAppend_does {c : Call} {x0 nv : Nat} {ora : List (Option Bool)} {out : Out} (h : coreAppend P s x0 nv ora c = some out) (he : ∀ e ∈ out.ev, e.holds P v) (hd : ∀ d, o.dst = some d → d < s.n) (ho : o.op = .call c) (hf : c.callee = .builtin .append) (hx0 : s.mem x0 = none) : Does P v s o out := by
 unfold coreAppend at h
 split at h
 ·rename_i x y t t' hargs hts
  have hargs' : c.args = #[x, y] := by apply Array.ext'; simpa using hargs
  have hts' : c.argTypes = #[t, t'] := by apply Array.ext'; simpa using hts
  split at h
  ·rename_i e a b hu hxx hyy
   split at h
   ·rename_i k hz
    split at h
    ·rename_i hc
     split at h
     ·rename_i htt
      subst htt
      split at h
      ·rename_i news nev hn
       split at h
       ·rename_i r mems ev happ
        simp only [Option.some.injEq] at h; subst h
        exact does_append hd ho hf hargs' hts' hu hz hc.1 (smallB_ok hc.2) hxx hyy hn happ he hx0 _ _
       ·cases h
      ·cases h
     ·split at h
      ·rename_i kn kq z htn
       split at h
       ·rename_i nev hn
        split at h
        ·rename_i r mems ev happ
         simp only [Option.some.injEq] at h; subst h
         exact does_append_zeros hd ho hf hargs' hts' hu htn hz hc.1 (smallB_ok hc.2) hxx hyy hn happ he hx0 _ _
        ·cases h
       ·cases h
      ·cases h
    ·cases h
   ·cases h
  ·cases h
 ·cases h
def coreCallS (P : Program) (s : Sig) (x0 nv : Nat) (ora : List (Option Bool)) (c : Call) (f : FuncId) (fn : Func) : Option Out :=
 match fn.resultTypes.toList, c.args.toList with
 | [], [x] => match s.ev x with
  | .one (.bsl m _ len true) => match s.mem m with
   | some b => match b.dead, b.own, b.nums with
    | false, true, some (.u8, l) => match leEv len (mkLen l) with
     | some ev => some ⟨.tup [], [(m, { b with cells := [], row := some (.u8, mkRev (mkPart l (.lit 0) len)) })], ev ++ [Ev.rev f], nv, ora⟩
     | none => none
    | _, _, _ => none
   | none => none
  | _ => none
 | rt, args => match argsE P s args fn.params.toList with
  | some (as, ev) =>
   match rt with
   | [t] => match bytesT P t with
    | some e => some ⟨.one (fullA x0 nv), [(x0, newRowB e .u8 (.lvar nv))], ev ++ [Ev.callS f as [fullE e nv]], nv + 1, ora⟩
    | none => match freshAs P nv [t] with
     | some (r, m) => some ⟨resA (decAs r ora).1, [], ev ++ Ev.callS f as (r.map .val) :: (decAs r ora).2.1, m, (decAs r ora).2.2⟩
     | none => none
   | [t, t'] => match bytesT P t' with
    | some e => match freshA P nv t, arr64 P e with
     | some (y, m), some T => some ⟨.tup [y, someA x0 m], [(x0, newRowB T .u8 (.lvar m))], ev ++ [Ev.callS f as [.val y, someE T m], .dec (.cmp .leq (.lit 0) (.var m)) true, .dec (.cmp .leq (.lit 0) (.var (m + 1))) true], m + 2, ora⟩
     | _, _ => none
    | none => match freshAs P nv [t, t'] with
     | some (r, m) => some ⟨resA (decAs r ora).1, [], ev ++ Ev.callS f as (r.map .val) :: (decAs r ora).2.1, m, (decAs r ora).2.2⟩
     | none => none
   | _ => none
  | none => none
theorem coreCallS_does {c : Call} {f : FuncId} {fn : Func} {x0 nv : Nat} {ora : List (Option Bool)} {out : Out} (h : coreCallS P s x0 nv ora c f fn = some out) (he : ∀ e ∈ out.ev, e.holds P v) (hd : ∀ d, o.dst = some d → d < s.n) (ho : o.op = .call c) (hf : c.callee = .value (.func f)) (hx0 : s.mem x0 = none) : Does P v s o out := by
 unfold coreCallS at h
 split at h
 ·rename_i x _ hargs
  have hargs' : c.args = #[x] := by apply Array.ext'; simpa using hargs
  split at h
  ·rename_i m off len hxx
   split at h
   ·rename_i b hm
    split at h
    ·rename_i l hb hown hn
     split at h
     ·rename_i ev hev
      simp only [Option.some.injEq] at h; subst h
      exact does_rev hd ho hf hargs' hxx hm hb hown hn hev he _ _
     ·cases h
    ·cases h
   ·cases h
  ·cases h
 ·split at h
  ·rename_i as ev has
   split at h
   ·rename_i t
    split at h
    ·rename_i e hb
     simp only [Option.some.injEq] at h; subst h
     exact does_callS_row hd ho hf has hx0 he
    ·split at h
     ·rename_i r m hr
      simp only [Option.some.injEq] at h; subst h
      exact does_callS_pure hd ho hf has hr he
     ·cases h
   ·rename_i t t'
    split at h
    ·rename_i e hb
     split at h
     ·rename_i y m T hy hT
      simp only [Option.some.injEq] at h; subst h
      exact does_callS_two hd ho hf has hy hx0 he
     ·cases h
    ·split at h
     ·rename_i r m hr
      simp only [Option.some.injEq] at h; subst h
      exact does_callS_pure hd ho hf has hr he
     ·cases h
   ·cases h
  ·cases h
theorem RelP.mark {a : Act} {w w' : World} {p : Mp} (h : RelP v s a w p) {x r n : Nat} {b : Blk} {cs : Array Value} {fz fz' : Nat × Nat} (hx : s.mem x = some b) (hd : b.dead = false) (ho : v.w.heap.size ≤ r) (hp : p x = some (r, n))
  (hw : w.heap[r]? = some (.cells cs b.T fz)) (hsz : w'.heap.size = w.heap.size) (g1 : w'.os = w.os) (g2 : w'.tape = w.tape) (g3 : w'.output = w.output) (hr : w'.heap[r]? = some (.cells cs b.T fz')) (hk : ∀ k, k ≠ r → w'.heap[k]? = w.heap[k]?)
  (hs : cs.size = n) (hh : b.holds v p cs.toList) : RelP v (s.setM x { b with own := false }) a w' p := by
 have hlt : r < w.heap.size := (Array.getElem?_eq_some_iff.1 hw).1
 have alive : ∀ y c, (s.setM x { b with own := false }).mem y = some c → c.dead = false → ∃ c', s.mem y = some c' ∧ c'.dead = false := by
  intro y c hy hc
  simp only [Sig.setM] at hy
  by_cases e : y = x
  ·exact ⟨b, by rw [e]; exact hx, hd⟩
  ·rw [if_neg e] at hy; exact ⟨c, hy, hc⟩
 refine ⟨h.defers, h.size, by rw [hsz]; exact h.base, ?_, ?_, ?_, ?_, h.glob, h.frame, h.gk, h.g0⟩
 ·exact h.below.trans ⟨g1, g2, g3, by rw [hsz]; exact Nat.le_refl _, fun k hk' => hk k (by omega)⟩
 ·intro y z r' n' m' c d hy hcd hz hdd hqy hqz
  obtain ⟨c', h2, h3⟩ := alive y c hy hcd
  obtain ⟨d', h4, h5⟩ := alive z d hz hdd
  exact h.inj y z r' n' m' c' d' h2 h3 h4 h5 hqy hqz
 ·intro y c hy
  simp only [Sig.setM] at hy
  by_cases ey : y = x
  ·simp only [ey, if_true, Option.some.injEq] at hy
   subst hy
   exact .inr ⟨r, n, by rw [ey]; exact hp, by rw [hsz]; exact hlt, fun _ => ⟨cs, fz', hr, hs, hh, fun e => by cases e⟩⟩
  ·simp only [if_neg ey] at hy
   rcases h.mem y c hy with hn | ⟨r', n', h2, h3, h4⟩
   ·exact .inl hn
   ·refine .inr ⟨r', n', h2, by rw [hsz]; exact h3, fun hcd => ?_⟩
    have hne : r' ≠ r := by
     intro e
     subst e
     exact ey (h.inj y x r' n' n c b hy hcd hx hd h2 hp)
    obtain ⟨cs2, fz2, e1, e2⟩ := h4 hcd
    exact ⟨cs2, fz2, by rw [hk r' hne]; exact e1, e2⟩
 ·intro y hy
  simp only [Sig.setM] at hy
  by_cases ey : y = x
  ·simp [ey] at hy
  ·simp only [if_neg ey] at hy
   exact h.free y hy
theorem run_mark {t e : TypeId} {r o' n c : Nat} {cs : Array Value} {T : TypeId} {fz : Nat × Nat} {w : World} (ht : P.underlying t = some (.slice e)) (he : P.underlying e = some (.int .u8)) (hw : w.heap[r]? = some (.cells cs T fz)) :
  ∃ w' fz', (convert t t (.slice (some ⟨r, o', none⟩) n c)).run P w = .ok (.slice (some ⟨r, o', none⟩) n c) w' ∧ w'.heap.size = w.heap.size ∧ w'.os = w.os ∧ w'.tape = w.tape ∧ w'.output = w.output ∧ w'.heap[r]? = some (.cells cs T fz') ∧ ∀ k, k ≠ r → w'.heap[k]? = w.heap[k]? := by
 have hsh : w.shape? r = some (T, cs.size) := by unfold World.shape?; rw [hw]
 have hrun : (convert t t (.slice (some ⟨r, o', none⟩) n c)).run P w = .ok (.slice (some ⟨r, o', none⟩) n c) (w.freeze ⟨r, cs.size, none⟩ 1) := by
  simp [convert, run_underlying ht, run_underlying he, markStringish, hsh]
 obtain ⟨lo, hi⟩ := fz
 refine ⟨_, (if (lo == hi) = true then (cs.size, cs.size + 1) else (min lo cs.size, max hi (cs.size + 1))), hrun, ?_, ?_, ?_, ?_, ?_, ?_⟩ <;> unfold World.freeze <;> rw [if_neg (by decide)]
 ·simp
 ·simp only [Array.getElem?_modify, if_true, hw, Option.map_some]
 ·intro k hk
  simp only [Array.getElem?_modify]
  rw [if_neg (Ne.symm hk)]
theorem does_mark {t e : TypeId} {x : Operand} {m k : Nat} {off : I} {full : Bool} {b : Blk} (hd : ∀ d, o.dst = some d → d < s.n) (ho : o.op = .convert t t x) (hx : s.ev x = .one (.bsl m off (.lit ((k + 1 : Nat) : Int)) full)) (hm : s.mem m = some b) (hb : b.dead = false) (hown : b.own = true)
  (ht : P.underlying t = some (.slice e)) (he : P.underlying e = some (.int .u8)) (nv ora) :
  Does P v s o ⟨.one (.bsl m off (.lit ((k + 1 : Nat) : Int)) full), [(m, { b with own := false })], [], nv, ora⟩ := by
 intro a w p h K Q hK
 have hxx := h.ev x
 rw [hx] at hxx
 have his := hxx
 obtain ⟨bb, n, c, h1, h2, h3, h4, h5⟩ := hxx
 simp only [I.den] at h1
 have hn : n = k + 1 := by omega
 rcases h5 with h5 | ⟨r, N, q, h5, h6, rfl, h7⟩
 ·omega
 ·obtain ⟨hlt, hB⟩ := h.at hm h5
  obtain ⟨cs, fz, k1, k2, k3, k4⟩ := hB hb
  obtain ⟨w', fz', r1, r2, r3, r4, r5, r6, r7⟩ := run_mark (P := P) (t := t) (o' := q) (n := n) (c := c) ht he k1
  unfold Oper.wp
  have hrun : (execOp a.eval o).run P w = .ok (.value (a.eval x)) w' := by
   unfold execOp
   rw [ho]
   simp [h2, r1]
  rw [hrun, Oper.upon_value]
  exact hK _ _ _ ((h.mark hm hb (k4 hown).1 h5 k1 r2 r3 r4 r5 r6 r7 k2 k3).put hd his)
def coreMark (P : Program) (s : Sig) (nv : Nat) (ora : List (Option Bool)) (src dst : TypeId) (m : Nat) (off len : I) (full : Bool) : Option Out :=
 match len, P.underlying src, s.mem m with
 | .lit (.ofNat (k + 1)), some (.slice e), some b => match P.underlying e with
  | some (.int .u8) => if src = dst ∧ b.dead = false ∧ b.own = true then some ⟨.one (.bsl m off (.lit ((k + 1 : Nat) : Int)) full), [(m, { b with own := false })], [], nv, ora⟩ else none
  | _ => none
 | _, _, _ => none
theorem coreMark_does {src dst : TypeId} {x : Operand} {m : Nat} {off len : I} {full : Bool} {nv : Nat} {ora : List (Option Bool)} {out : Out} (h : coreMark P s nv ora src dst m off len full = some out) (hd : ∀ d, o.dst = some d → d < s.n) (ho : o.op = .convert src dst x) (hx : s.ev x = .one (.bsl m off len full)) : Does P v s o out := by
 unfold coreMark at h
 split at h
 ·rename_i k e b hu hm
  split at h
  ·rename_i he
   split at h
   ·rename_i hc
    obtain ⟨rfl, hb, hown⟩ := hc
    simp only [Option.some.injEq] at h; subst h
    exact does_mark hd ho hx hm hb hown hu he _ _
   ·cases h
  ·cases h
 ·cases h
def coreConv (P : Program) (s : Sig) (nv : Nat) (ora : List (Option Bool)) (src dst : TypeId) (x : Operand) : Option Out :=
 match s.ev x with
 | .one (.sc (.int _ e)) => match (P.underlying src).isSome, P.underlying dst with
  | true, some (.int k') => some ⟨.one (.sc (.int k' (I.conv k' e).fold)), [], [], nv, ora⟩
  | _, _ => none
 | .one (.bsl m off len full) => coreMark P s nv ora src dst m off len full
 | _ => none
theorem coreConv_does {src dst : TypeId} {x : Operand} {nv : Nat} {ora : List (Option Bool)} {out : Out} (h : coreConv P s nv ora src dst x = some out) (hd : ∀ d, o.dst = some d → d < s.n) (ho : o.op = .convert src dst x) : Does P v s o out := by
 unfold coreConv at h
 split at h
 ·rename_i k e hxx
  split at h
  ·rename_i k' hs hk
   simp only [Option.some.injEq] at h; subst h
   exact does_convert hd ho hxx hs hk _ _
  ·cases h
 ·rename_i m off len full hxx
  exact coreMark_does h hd ho hxx
 ·cases h
def core (P : Program) (s : Sig) (x0 nv : Nat) (ora : List (Option Bool)) (o : Oper) : Option Out :=
 match dstOk s o with
 | false => none
 | true =>
 match o.op with
 | .move x => some ⟨s.ev x, [], [], nv, ora⟩
 | .assign x => some ⟨s.ev x, [], [], nv, ora⟩
 | .pick c x y => match s.ev c with
  | .one (.sc (.bool (.lit t))) => some ⟨if t then s.ev x else s.ev y, [], [], nv, ora⟩
  | .one (.sc (.bool b)) => match boolAt b true (s.ev x), boolAt b false (s.ev y) with
   | some bx, some bY => some ⟨.one (.sc (.bool (Bx.ite b bx bY).fold)), [], [], nv, ora⟩
   | _, _ => none
  | _ => none
 | .alloc t => match zeroA P t with | some z => some ⟨.one (.ptr x0 0), [(x0, newBlk t z.cells)], [], nv, ora⟩ | none => none
 | .box t x => match s.ev x with | .one y => some ⟨.one (.ptr x0 0), [(x0, newBlk t y.cells)], [], nv, ora⟩ | _ => none
 | .load t x => coreLoad P s nv ora t x
 | .store t x y => coreStore P s nv ora t x y
 | .binOp op t x y _ => match s.ev x, s.ev y with
  | .one a, .one b => match binA P op t a b with
   | some (c, ev) => some ⟨.one (decA c ora).1, [], ev ++ (decA c ora).2.1, nv, (decA c ora).2.2⟩
   | none => none
  | _, _ => none
 | .unOp op _ x => match s.ev x with
  | .one (.sc y) => match unA op y with | some z => some ⟨.one (.sc z), [], [], nv, ora⟩ | none => none
  | _ => none
 | .convert src dst x => coreConv P s nv ora src dst x
 | .extract x i => match s.ev x with
  | .tup l => match l[i]? with | some y => some ⟨.one y, [], [], nv, ora⟩ | none => none
  | _ => none
 | .nilCheck x => match s.ev x with | .one (.ptr y off) => some ⟨.one (.ptr y off), [], [], nv, ora⟩ | _ => none
 | .indexAddr t x i => coreIndex P s nv ora t x i
 | .slice t x lo hi none => coreSlice P s nv ora t x lo hi
 | .makeSlice t x y => coreMake P s x0 nv ora t x y
 | .buildSlice t len parts => coreBuildS P s x0 nv ora t len parts
 | .sliceToArrayPointer t x => match s.ev x, P.underlying t with
  | .one (.bsl m off len _), some (.array n _) => if 0 < n then (match leEv (.lit n) len with | some ev => some ⟨.one (.bptr m off), [], ev, nv, ora⟩ | none => none) else none
  | _, _ => none
 | .index t x i => match s.ev x, s.ev i with
  | .one (.agg l), .one (.sc (.int _ (.lit j))) => match P.underlying t with
   | some (.array n e) => if (P.info? e).isSome = true ∧ isAggT P e = some false ∧ 0 ≤ j ∧ j < n then match l[j.toNat * P.cellsOf e]? with | some y => some ⟨.one (.sc y), [], [], nv, ora⟩ | none => none else none
   | _ => none
  | _, _ => none
 | .fieldAddr t x i => match s.ev x with
  | .one (.ptr m off) => match P.underlying t with
   | some (.struct fs) => match fs[i]? with | some f => if (P.info? f.type).isSome = true ∧ P.cellsOf f.type ≠ 0 then some ⟨.one (.ptr m (off + f.offset)), [], [], nv, ora⟩ else none | none => none
   | _ => none
  | _ => none
 | .field t x i => match s.ev x with
  | .one (.agg l) => match P.underlying t with
   | some (.struct fs) => match fs[i]? with
    | some f => match A.ofL P f.type (partL P f.type l f.offset) with
     | some y => if (P.info? f.type).isSome = true ∧ f.offset + P.cellsOf f.type ≤ l.length ∧ (isAggT P f.type = some true ∨ P.cellsOf f.type = 1) then some ⟨.one y, [], [], nv, ora⟩ else none
     | none => none
    | none => none
   | _ => none
  | _ => none
 | .build t parts => match zeroA P t, placeOf P t, partsA s parts.toList with
  | some z, some pl, some ps => match fillA pl z.cells ps with
   | some r => match scs r with | some ss => some ⟨.one (.agg ss), [], [], nv, ora⟩ | none => none
   | none => none
  | _, _, _ => none
 | .call c => match c.callee with
  | .value (.func f) => match P.funcs[f]? with
   | some fn =>
    if fn.params.any (sliceT P) || fn.resultTypes.any (sliceT P) then coreCallS P s x0 nv ora c f fn
    else match argsA s c.args.toList with
     | some as => match freshAs P nv fn.resultTypes.toList with
      | some (r, m) => some ⟨resA (decAs r ora).1, [], Ev.call f as (resA r) :: (decAs r ora).2.1, m, (decAs r ora).2.2⟩
      | none => none
     | none => none
   | none => none
  | .value (.tmp g) => match s.fr g with
   | .one (.fn f recv) => match argsA s c.args.toList, P.funcs[f]? with
    | some as, some fn => match freshAs P nv fn.resultTypes.toList with
     | some (r, m) => some ⟨resA (decAs r ora).1, [], Ev.call f (.agg recv :: as) (resA r) :: (decAs r ora).2.1, m, (decAs r ora).2.2⟩
     | none => none
    | _, _ => none
   | _ => none
  | .builtin .len => match c.args.toList, c.argTypes[0]? with
   | [x], some t => match P.underlying t with
    | some (.slice _) => match s.ev x with
     | .one (.slc _ _ n _) => some ⟨.one (.sc (.int .i64 (.lit n))), [], [], nv, ora⟩
     | .one .nils => some ⟨.one (.sc (.int .i64 (.lit 0))), [], [], nv, ora⟩
     | .one (.bsl _ _ len _) => some ⟨.one (.sc (.int .i64 len)), [], [], nv, ora⟩
     | .one (.imm l _) => some ⟨.one (.sc (.int .i64 (mkLen l))), [], [], nv, ora⟩
     | .one (.immP n) => some ⟨.one (.sc (.int .i64 (.plen n))), [], [], nv, ora⟩
     | _ => none
    | _ => none
   | _, _ => none
  | .builtin .cap => match c.args.toList, c.argTypes[0]? with
   | [x], some t => match P.underlying t with
    | some (.slice _) => match s.ev x with
     | .one .nils => some ⟨.one (.sc (.int .i64 (.lit 0))), [], [], nv, ora⟩
     | _ => none
    | _ => none
   | _, _ => none
  | .builtin .append => coreAppend P s x0 nv ora c
  | _ => none
 | .makeFunc (.func f) first captured => match first.toList, captured.toList with
  | [x], [] => match s.ev x with | .one (.agg l) => some ⟨.one (.fn f l), [], [], nv, ora⟩ | _ => none
  | _, _ => none
 | _ => none
theorem core_does {x0 nv : Nat} {ora : List (Option Bool)} {out : Out} (h : core P s x0 nv ora o = some out) (he : ∀ e ∈ out.ev, e.holds P v) (hx : s.mem x0 = none) : Does P v s o out := by
 unfold core at h
 split at h
 ·cases h
 rename_i hdo
 have hd : ∀ d, o.dst = some d → d < s.n := by
  intro d hd
  unfold dstOk at hdo
  rw [hd] at hdo
  exact of_decide_eq_true hdo
 split at h
 ·rename_i x ho
  simp only [Option.some.injEq] at h; subst h
  exact does_move hd (.inl ho) _ _
 ·rename_i x ho
  simp only [Option.some.injEq] at h; subst h
  exact does_move hd (.inr ho) _ _
 ·rename_i c x y ho
  split at h
  ·rename_i t hc
   simp only [Option.some.injEq] at h; subst h
   exact does_pick hd ho hc _ _
  ·rename_i b _ hc
   split at h
   ·rename_i bx bY hx hy
    simp only [Option.some.injEq] at h; subst h
    exact does_pick_sym hd ho hc hx hy _ _
   ·cases h
  ·cases h
 ·rename_i t ho
  split at h
  ·rename_i z hz
   simp only [Option.some.injEq] at h; subst h
   exact does_alloc hd ho hz hx _ _
  ·cases h
 ·rename_i t x ho
  split at h
  ·rename_i y hy
   simp only [Option.some.injEq] at h; subst h
   exact does_box hd ho hy hx _ _
  ·cases h
 ·rename_i t x ho
  exact coreLoad_does h he hd ho
 ·rename_i t x y ho
  exact coreStore_does h he hd ho
 ·rename_i op t x y yt ho
  split at h
  ·rename_i a b hxx hyy
   split at h
   ·rename_i c ev hb
    simp only [Option.some.injEq] at h; subst h
    exact does_binOp hd ho hxx hyy hb he _
   ·cases h
  ·cases h
 ·rename_i op t x ho
  split at h
  ·rename_i y hxx
   split at h
   ·rename_i z hz
    simp only [Option.some.injEq] at h; subst h
    exact does_unOp hd ho hxx hz _ _
   ·cases h
  ·cases h
 ·rename_i src dst x ho
  exact coreConv_does h hd ho
 ·rename_i x i ho
  split at h
  ·rename_i l hxx
   split at h
   ·rename_i y hy
    simp only [Option.some.injEq] at h; subst h
    exact does_extract hd ho hxx hy _ _
   ·cases h
  ·cases h
 ·rename_i x ho
  split at h
  ·rename_i y off hxx
   simp only [Option.some.injEq] at h; subst h
   exact does_nilCheck hd ho hxx _ _
  ·cases h
 ·rename_i t x i ho
  exact coreIndex_does h he hd ho
 ·rename_i t x lo hi ho
  exact coreSlice_does h he hd ho
 ·rename_i t x y ho
  exact coreMake_does h hd ho hx
 ·rename_i t len parts ho
  exact coreBuildS_does h hd ho hx
 ·rename_i t x ho
  split at h
  ·rename_i m off len full n e hxx hu
   split at h
   ·rename_i hn
    split at h
    ·rename_i ev hev
     simp only [Option.some.injEq] at h; subst h
     exact does_s2ap hd ho hxx hu hn hev he _ _
    ·cases h
   ·cases h
  ·cases h
 ·rename_i t x i ho
  split at h
  ·rename_i l k j hxx hii
   split at h
   ·rename_i n e hu
    split at h
    ·rename_i hc
     split at h
     ·rename_i y hy
      simp only [Option.some.injEq] at h; subst h
      exact does_index hd ho hxx hii hu hc.1 hc.2.1 hc.2.2.1 hc.2.2.2 hy _ _
     ·cases h
    ·cases h
   ·cases h
  ·cases h
 ·rename_i t x i ho
  split at h
  ·rename_i m off hxx
   split at h
   ·rename_i fs hu
    split at h
    ·rename_i f hf
     split at h
     ·rename_i hc
      simp only [Option.some.injEq] at h; subst h
      exact does_fieldAddr hd ho hxx hu hf hc.1 hc.2 _ _
     ·cases h
    ·cases h
   ·cases h
  ·cases h
 ·rename_i t x i ho
  split at h
  ·rename_i l hxx
   split at h
   ·rename_i fs hu
    split at h
    ·rename_i f hf
     split at h
     ·rename_i y hy
      split at h
      ·rename_i hc
       simp only [Option.some.injEq] at h; subst h
       refine does_field hd ho hxx hu hf hc.1 hc.2.1 (fun hfa => ?_) hy _ _
       rcases hc.2.2 with h1 | h1
       ·rw [hfa] at h1; cases h1
       ·exact h1
      ·cases h
     ·cases h
    ·cases h
   ·cases h
  ·cases h
 ·rename_i t parts ho
  split at h
  ·rename_i z pl ps hz hpl hps
   split at h
   ·rename_i r hr
    split at h
    ·rename_i ss hss
     simp only [Option.some.injEq] at h; subst h
     exact does_build hd ho hz hpl hps hr hss _ _
    ·cases h
   ·cases h
  ·cases h
 ·rename_i c ho
  split at h
  ·rename_i f hf
   split at h
   ·rename_i fn hfn
    split at h
    ·exact coreCallS_does h he hd ho hf hx
    ·split at h
     ·rename_i as has
      split at h
      ·rename_i r m hr
       simp only [Option.some.injEq] at h; subst h
       exact does_call hd ho hf has hr he
      ·cases h
     ·cases h
   ·cases h
  ·rename_i g hf
   split at h
   ·rename_i f recv hfn
    split at h
    ·rename_i as fn has hfun
     split at h
     ·rename_i r m hr
      simp only [Option.some.injEq] at h; subst h
      exact does_callFn hd ho hf hfn has hr he
     ·cases h
    ·cases h
   ·cases h
  ·rename_i hf
   split at h
   ·rename_i x t hargs ht
    have hx' : c.args = #[x] := by apply Array.ext'; simpa using hargs
    split at h
    ·rename_i e hu
     split at h
     ·rename_i m off n cap hxx
      simp only [Option.some.injEq] at h; subst h
      exact does_len hd ho hf hx' ht hu hxx _ _
     ·rename_i hxx
      simp only [Option.some.injEq] at h; subst h
      exact does_len_nil hd ho hf hx' ht hu hxx _ _
     ·rename_i m off len full hxx
      simp only [Option.some.injEq] at h; subst h
      exact does_len_bsl hd ho hf hx' ht hu hxx _ _
     ·rename_i l nl hxx
      simp only [Option.some.injEq] at h; subst h
      exact does_len_imm hd ho hf hx' ht hu hxx _ _
     ·rename_i n hxx
      simp only [Option.some.injEq] at h; subst h
      exact does_len_immP hd ho hf hx' ht hu hxx _ _
     ·cases h
    ·cases h
   ·cases h
  ·rename_i hf
   split at h
   ·rename_i x t hargs ht
    have hx' : c.args = #[x] := by apply Array.ext'; simpa using hargs
    split at h
    ·rename_i e hu
     split at h
     ·rename_i hxx
      simp only [Option.some.injEq] at h; subst h
      exact does_cap_nil hd ho hf hx' ht hu hxx _ _
     ·cases h
    ·cases h
   ·cases h
  ·rename_i hf
   exact coreAppend_does h he hd ho hf hx
  ·cases h
 ·rename_i f first captured ho
  split at h
  ·rename_i x h1 h2
   split at h
   ·rename_i l hx
    simp only [Option.some.injEq] at h; subst h
    exact does_makeFunc hd ho (by apply Array.ext'; simpa using h1) (by apply Array.ext'; simpa using h2) hx _ _
   ·cases h
  ·cases h
 ·cases h
inductive Gd where
 | yes
 | no
 | may (b : Bx) (want : Bool)
 | bad
def guardOf (s : Sig) (ops : Array Oper) (o : Oper) : Gd :=
 match o.guard with
 | none => .yes
 | some (j, want) =>
  match (ops[j]?).bind (·.dst) with
  | none => .no
  | some t => match s.fr t with
   | .one (.sc (.bool (.lit b))) => if b == want then .yes else .no
   | .one (.sc (.bool b)) => .may b want
   | .tup [] => .no
   | _ => .bad
def AV.given (b : Bx) (want : Bool) : AV → AV
 | .when b' want' a => if b' = b ∧ want' = want then .one a else .when b' want' a
 | x => x
def Sig.given (s : Sig) (b : Bx) (want : Bool) : Sig := { s with fr := fun t => (s.fr t).given b want }
theorem AV.given_is {b : Bx} {want : Bool} (hb : b.den v = want) {x : AV} {p : Mp} {u : Value} (h : x.Is v p u) : (x.given b want).Is v p u := by
 unfold AV.given
 split
 ·split
  ·rename_i hc
   obtain ⟨rfl, rfl⟩ := hc
   exact h hb
  ·exact h
 ·exact h
theorem RelP.given {a : Act} {w : World} {p : Mp} (h : RelP v s a w p) {b : Bx} {want : Bool} (hb : b.den v = want) : RelP v (s.given b want) a w p :=
 ⟨h.defers, h.size, h.base, h.below, h.inj, h.mem, h.free, h.glob, fun t => AV.given_is hb (h.frame t), h.gk, h.g0⟩
def stepO (P : Program) (s : Sig) (x0 nv : Nat) (ora : List (Option Bool)) (ops : Array Oper) (o : Oper) : Option Out :=
 match guardOf s ops o with
 | .yes => core P s x0 nv ora o
 | .no => if dstOk s o then some ⟨.tup [], [], [], nv, ora⟩ else none
 | .may b want => match core P (s.given b want) x0 nv [] o with
  | some ⟨.one a, [], [], nv', _⟩ => some ⟨.when b want a, [], [], nv', ora⟩
  | _ => none
 | .bad => none
theorem yielded_of {ops : Array Oper} {a : Act} {j t : Nat} {b : Bool} (hj : (ops[j]?).bind (·.dst) = some t) (hf' : a.tmps.getD t undef = .bool b) : yielded ops a.tmps j = some b := by
 have : a.tmps[t]? = some (.bool b) := by
  rcases Nat.lt_or_ge t a.tmps.size with hlt | hge
  ·simp only [Array.getD_eq_getD_getElem?, Array.getElem?_eq_getElem hlt, Option.getD_some] at hf'
   rw [Array.getElem?_eq_getElem hlt, hf']
  ·simp [Array.getElem?_eq_none hge, undef] at hf'
 unfold yielded
 rw [hj]
 simp only [Option.bind_some, this]
theorem wanted_eq {j : Nat} {want b : Bool} {ops : Array Oper} {a : Act} (hg : o.guard = some (j, want)) (hy : yielded ops a.tmps j = some b) : Region.wanted o (yielded ops a.tmps) = (b == want) := by
 unfold Region.wanted
 rw [hg]
 simp only [hy]
 cases b <;> cases want <;> rfl
theorem guardOf_wanted {ops : Array Oper} {a : Act} {w : World} {p : Mp} (hr : RelP v s a w p) :
  match guardOf s ops o with
  | .yes => Region.wanted o (yielded ops a.tmps) = true
  | .no => Region.wanted o (yielded ops a.tmps) = false
  | .may b want => Region.wanted o (yielded ops a.tmps) = (b.den v == want)
  | .bad => True := by
 unfold guardOf
 cases hg : o.guard with
 | none => simp only; unfold Region.wanted; rw [hg]
 | some jw =>
  obtain ⟨j, want⟩ := jw
  simp only
  cases hj : (ops[j]?).bind (·.dst) with
  | none =>
   simp only
   unfold Region.wanted yielded
   rw [hg]
   simp only [hj]
   rfl
  | some t =>
   simp only
   have hf := hr.frame t
   split
   ·rename_i h
    split at h
    ·rename_i c hc
     rw [hc] at hf
     have := wanted_eq (b := c) hg (yielded_of hj hf)
     split at h
     ·rename_i hcw; rw [this, hcw]
     ·cases h
    ·cases h
    ·cases h
    ·cases h
   ·rename_i h
    split at h
    ·rename_i c hc
     rw [hc] at hf
     have := wanted_eq (b := c) hg (yielded_of hj hf)
     split at h
     ·cases h
     ·rename_i hcw; rw [this]; simpa using hcw
    ·cases h
    ·rename_i hc
     rw [hc] at hf
     obtain ⟨us, e, hl⟩ := hf
     unfold Region.wanted
     rw [hg]
     simp only
     unfold yielded
     rw [hj]
     simp only [Option.bind_some]
     rcases Nat.lt_or_ge t a.tmps.size with hlt | hge
     ·simp only [Array.getD_eq_getD_getElem?, Array.getElem?_eq_getElem hlt, Option.getD_some] at e
      rw [Array.getElem?_eq_getElem hlt, e]
      rfl
     ·rw [Array.getElem?_eq_none hge]
      rfl
    ·cases h
   ·rename_i b' want' h
    split at h
    ·split at h <;> cases h
    ·rename_i c _ hc
     simp only [Gd.may.injEq] at h
     obtain ⟨rfl, rfl⟩ := h
     rw [hc] at hf
     exact wanted_eq hg (yielded_of hj hf)
    ·cases h
    ·cases h
   ·trivial
theorem stepO_does {x0 nv : Nat} {ora : List (Option Bool)} {ops : Array Oper} {out : Out} {i : Nat} (hi : ops[i]? = some o) (h : stepO P s x0 nv ora ops o = some out) (he : ∀ e ∈ out.ev, e.holds P v) (hx : s.mem x0 = none)
  {a : Act} {w : World} {p : Mp} (hr : RelP v s a w p) {K : Act → World → Prop} {Q : Exit → Act → World → Prop} (hK : ∀ a' w' q, RelP v (s.after o.dst out) a' w' q → K a' w') : wpOp P ops Q i K a w := by
 have hw := guardOf_wanted (o := o) (ops := ops) hr
 unfold stepO at h
 unfold wpOp
 rw [hi]
 simp only
 split at h
 ·rename_i hg
  rw [hg] at hw
  rw [if_pos hw]
  exact .inl (core_does h he hx a w p hr K Q hK)
 ·rename_i hg
  rw [hg] at hw
  simp only at hw
  rw [if_neg (by rw [hw]; simp)]
  split at h
  ·rename_i hdo
   simp only [Option.some.injEq] at h
   subst h
   refine hK _ _ _ (hr.put (fun d hd => ?_) ⟨#[], rfl, rfl⟩)
   unfold dstOk at hdo
   rw [hd] at hdo
   exact of_decide_eq_true hdo
  ·cases h
 ·rename_i b want hg
  rw [hg] at hw
  simp only at hw
  split at h
  ·rename_i y nv' ora' hcore
   simp only [Option.some.injEq] at h
   subst h
   have hdd : ∀ d, o.dst = some d → d < s.n := by
    intro d hd
    unfold core at hcore
    split at hcore
    ·cases hcore
    ·rename_i hdo
     unfold dstOk at hdo
     rw [hd] at hdo
     exact of_decide_eq_true hdo
   cases hb : (b.den v == want) with
   | true =>
    rw [hb] at hw
    rw [if_pos hw]
    have hb' : b.den v = want := by simpa using hb
    refine .inl (core_does hcore (by simp) hx a w p (hr.given hb') K Q fun a' w' q hr' => hK a' w' q ?_)
    refine ⟨hr'.defers, ?_, hr'.base, hr'.below, ?_, ?_, ?_, ?_, fun t => ?_, hr'.gk, hr'.g0⟩
    ·have := hr'.size
     cases hd : o.dst <;> simp only [Sig.after, Sig.put, hd, List.foldl_nil] at this ⊢ <;> exact this
    ·have := hr'.inj
     cases hd : o.dst <;> simp only [Sig.after, Sig.put, hd, List.foldl_nil] at this ⊢ <;> exact this
    ·have := hr'.mem
     cases hd : o.dst <;> simp only [Sig.after, Sig.put, hd, List.foldl_nil] at this ⊢ <;> exact this
    ·have := hr'.free
     cases hd : o.dst <;> simp only [Sig.after, Sig.put, hd, List.foldl_nil] at this ⊢ <;> exact this
    ·have := hr'.glob
     cases hd : o.dst <;> simp only [Sig.after, Sig.put, hd, List.foldl_nil] at this ⊢ <;> exact this
    ·have hft := hr'.frame t
     have weak : ∀ x u, (AV.given b want x).Is v q u → x.Is v q u := by
      intro x u hx'
      unfold AV.given at hx'
      split at hx'
      ·split at hx'
       ·exact fun _ => hx'
       ·exact hx'
      ·exact hx'
     cases hd : o.dst with
     | none =>
      simp only [Sig.after, Sig.put, hd, List.foldl_nil, Sig.given] at hft ⊢
      exact weak _ _ hft
     | some d =>
      simp only [Sig.after, Sig.put, hd, List.foldl_nil, Sig.given] at hft ⊢
      by_cases e : t = d
      ·rw [if_pos e] at hft ⊢
       exact fun _ => hft
      ·rw [if_neg e] at hft ⊢
       exact weak _ _ hft
   | false =>
    rw [hb] at hw
    rw [if_neg (by rw [hw]; simp)]
    refine hK _ _ _ (hr.put hdd fun hb' => ?_)
    rw [hb'] at hb
    simp at hb
  ·cases h
 ·cases h
end
end Go.Sx
namespace Go.Sx
open Go Go.RowKit
section
variable {P : Program} {v : Env} {s s' : Sig} {o : Oper}
inductive Loc where
 | t (n : Nat)
 | m (n : Nat)
 deriving DecidableEq, Repr, Inhabited
def same (s s' : Sig) : Loc → Prop
 | .t n => s.fr n = s'.fr n
 | .m n => s.mem n = s'.mem n
def tmpsOf (l : List Operand) : List Loc := l.filterMap fun | .tmp t => some (.t t) | _ => none
def memL (s : Sig) (a : A) : List Loc :=
 match a with
 | .ptr m _ => [.m m]
 | .bptr m _ => [.m m]
 | .bsl m _ _ _ => [.m m]
 | .slc m _ _ _ => .m m :: (match s.mem m with | some b => b.cells.flatMap (fun c => match c with | .bsl y _ _ _ => [Loc.m y] | _ => []) | none => [])
 | _ => []
def memAV (s : Sig) (x : AV) : List Loc :=
 match x with
 | .one a => memL s a
 | .when _ _ a => memL s a
 | _ => []
def memOf (s : Sig) (o : Oper) : List Loc :=
 match o.op with
 | .load _ x => memAV s (s.ev x)
 | .store _ x _ => memAV s (s.ev x)
 | .convert _ _ x => memAV s (s.ev x)
 | .call c => c.args.toList.flatMap fun x => memAV s (s.ev x)
 | _ => []
def guardT (ops : Array Oper) (o : Oper) : List Loc :=
 match o.guard with
 | none => []
 | some (j, _) => match (ops[j]?).bind (·.dst) with | some t => [.t t] | none => []
def readsOf (s : Sig) (ops : Array Oper) (x0 : Nat) (o : Oper) : List Loc := .m x0 :: guardT ops o ++ tmpsOf o.op.operands.toList ++ memOf s o
def writesOf (o : Oper) (out : Out) : List Loc := (match o.dst with | some d => [.t d] | none => []) ++ out.mems.map fun xb => .m xb.1
theorem ev_same (hg : s.gl = s'.gl) {l : List Operand} (h : ∀ q ∈ tmpsOf l, same s s' q) {x : Operand} (hx : x ∈ l) : s.ev x = s'.ev x := by
 cases x with
 | tmp t => exact h (.t t) (List.mem_filterMap.2 ⟨.tmp t, hx, rfl⟩)
 | const u => rfl
 | global g => simp only [Sig.ev, hg]
 | func f => rfl
theorem argsA_same : ∀ {l : List Operand}, (∀ x ∈ l, s.ev x = s'.ev x) → argsA s l = argsA s' l
 | [], _ => rfl
 | x :: l, h => by
  simp only [argsA, h x (by simp), argsA_same (l := l) fun y hy => h y (by simp [hy])]
theorem partsA_same : ∀ {l : List (Nat × Operand)}, (∀ x ∈ l, s.ev x.2 = s'.ev x.2) → partsA s l = partsA s' l
 | [], _ => rfl
 | (i, x) :: l, h => by
  simp only [partsA, h (i, x) (by simp), partsA_same (l := l) fun y hy => h y (by simp [hy])]
theorem loads_same {t : TypeId} {x : Operand} (hx : s.ev x = s'.ev x) (hm : ∀ q ∈ memAV s (s.ev x), same s s' q) (nv : Nat) (ora : List (Option Bool)) : coreLoad P s nv ora t x = coreLoad P s' nv ora t x := by
 unfold coreLoad
 rw [← hx]
 have key : ∀ a m, s.ev x = .one a → (Loc.m m) ∈ memL s a → s.mem m = s'.mem m := fun a m he hmem => hm (.m m) (by rw [he]; exact hmem)
 cases he : s.ev x with
 | one a =>
  cases a with
  | ptr m off => simp only [show s.mem m = s'.mem m from key _ m he (by simp [memL])]
  | bptr m i => simp only [show s.mem m = s'.mem m from key _ m he (by simp [memL])]
  | _ => rfl
 | _ => rfl
theorem stores_same {t : TypeId} {x y : Operand} (hx : s.ev x = s'.ev x) (hy : s.ev y = s'.ev y) (hm : ∀ q ∈ memAV s (s.ev x), same s s' q) (nv : Nat) (ora : List (Option Bool)) : coreStore P s nv ora t x y = coreStore P s' nv ora t x y := by
 unfold coreStore
 rw [← hx, ← hy]
 have key : ∀ a m, s.ev x = .one a → (Loc.m m) ∈ memL s a → s.mem m = s'.mem m := fun a m he hmem => hm (.m m) (by rw [he]; exact hmem)
 cases he : s.ev x with
 | one a =>
  cases s.ev y with
  | one z =>
   cases a with
   | ptr m off => simp only [show s.mem m = s'.mem m from key _ m he (by simp [memL])]
   | bptr m i => simp only [show s.mem m = s'.mem m from key _ m he (by simp [memL])]
   | _ => rfl
  | _ => cases a <;> rfl
 | _ => rfl
theorem bound_same {d : I} {x : Option Operand} (h : ∀ y, x = some y → s.ev y = s'.ev y) : boundA s d x = boundA s' d x := by
 cases x with
 | none => rfl
 | some y => simp only [boundA, h y rfl]
theorem slices_same {t : TypeId} {x : Operand} {lo hi : Option Operand} (hx : s.ev x = s'.ev x) (hl : ∀ y, lo = some y → s.ev y = s'.ev y) (hh : ∀ y, hi = some y → s.ev y = s'.ev y) (nv : Nat) (ora : List (Option Bool)) : coreSlice P s nv ora t x lo hi = coreSlice P s' nv ora t x lo hi := by
 unfold coreSlice
 rw [← hx]
 simp only [bound_same (s := s) (s' := s') hl, bound_same (s := s) (s' := s') hh]
theorem readA_same {k : IntKind} {a : A} (hm : ∀ q ∈ memL s a, same s s' q) : readA s k a = readA s' k a := by
 unfold readA
 cases a with
 | bsl y off len full => simp only [show s.mem y = s'.mem y from hm (.m y) (by simp [memL])]
 | _ => rfl
theorem partsL_same : ∀ {l : List A}, (∀ y off len full, A.bsl y off len full ∈ l → s.mem y = s'.mem y) → partsL s l = partsL s' l
 | [], _ => rfl
 | a :: l, h => by
  have ha : readA s .u8 a = readA s' .u8 a := by
   unfold readA
   cases a with
   | bsl y off len full => simp only [h y off len full (by simp)]
   | _ => rfl
  simp only [partsL, ha, partsL_same (l := l) fun y off len full hy => h y off len full (by simp [hy])]
theorem argE_same {t : TypeId} {a : A} (hm : ∀ q ∈ memL s a, same s s' q) : argE P s t a = argE P s' t a := by
 unfold argE
 rw [readA_same hm]
 cases P.underlying t with
 | none => rfl
 | some d =>
  cases d with
  | slice e =>
   simp only
   cases P.underlying e with
   | none => rfl
   | some d' =>
    cases d' with
    | slice e' =>
     simp only
     cases a with
     | slc x off n cap =>
      have hx : s.mem x = s'.mem x := hm (.m x) (by simp [memL])
      have hp : ∀ b, s.mem x = some b → partsL s b.cells = partsL s' b.cells := by
       intro b hb
       refine partsL_same fun y o l f hy => hm (.m y) ?_
       simp only [memL, hb, List.mem_cons]
       refine .inr (List.mem_flatMap.2 ⟨_, hy, ?_⟩)
       simp
      cases cap with
      | some c => rfl
      | none =>
       cases hb : s.mem x with
       | none => rw [hb] at hx; simp only [← hx, hb]
       | some b => rw [hb] at hx; simp only [← hx, hb, hp b hb]
     | _ => rfl
    | int kk => cases kk <;> rfl
    | _ => rfl
  | _ => rfl
theorem argsE_same : ∀ {l : List Operand} {ts : List TypeId}, (∀ x ∈ l, s.ev x = s'.ev x ∧ ∀ q ∈ memAV s (s.ev x), same s s' q) → argsE P s l ts = argsE P s' l ts
 | [], [], _ => rfl
 | x :: l, t :: ts, h => by
  obtain ⟨h1, h2⟩ := h x (by simp)
  have ih := argsE_same (l := l) (ts := ts) fun y hy => h y (by simp [hy])
  simp only [argsE]
  rw [← h1, ih]
  cases he : s.ev x with
  | one a => simp only [argE_same (P := P) (t := t) (a := a) fun q hq => h2 q (by rw [he]; exact hq)]
  | _ => rfl
 | [], _ :: _, _ => rfl
 | _ :: _, [], _ => rfl
theorem callsS_same {c : Call} {f : FuncId} {fn : Func} (h : ∀ x ∈ c.args.toList, s.ev x = s'.ev x ∧ ∀ q ∈ memAV s (s.ev x), same s s' q) (x0 nv : Nat) (ora : List (Option Bool)) : coreCallS P s x0 nv ora c f fn = coreCallS P s' x0 nv ora c f fn := by
 have ha := argsE_same (P := P) (ts := fn.params.toList) h
 unfold coreCallS
 split
 ·rename_i x _ hargs
  obtain ⟨h1, h2⟩ := h x (by rw [hargs]; simp)
  rw [← h1]
  cases he : s.ev x with
  | one a =>
   cases a with
   | bsl m off len full =>
    cases full with
    | true => simp only [show s.mem m = s'.mem m from h2 (.m m) (by rw [he]; simp [memAV, memL])]
    | false => rfl
   | _ => rfl
  | _ => rfl
 ·rw [ha]
theorem appends_same {c : Call} (h : ∀ x ∈ c.args.toList, s.ev x = s'.ev x ∧ ∀ q ∈ memAV s (s.ev x), same s s' q) (x0 nv : Nat) (ora : List (Option Bool)) : coreAppend P s x0 nv ora c = coreAppend P s' x0 nv ora c := by
 unfold coreAppend
 split
 ·rename_i x y t t' hargs _
  obtain ⟨h1, h2⟩ := h x (by rw [hargs]; simp)
  obtain ⟨h3, h4⟩ := h y (by rw [hargs]; simp)
  rw [← h1, ← h3]
  cases P.underlying t with
  | none => rfl
  | some d =>
   cases d with
   | slice e =>
    cases hx : s.ev x with
    | one a =>
     cases hy : s.ev y with
     | one b =>
      have hr : ∀ k, readA s k b = readA s' k b := fun k => readA_same fun q hq => h4 q (by rw [hy]; exact hq)
      have happ : ∀ k e news, appA s x0 k e a news = appA s' x0 k e a news := by
       intro k e news
       unfold appA
       cases a with
       | bsl m off len full =>
        cases full with
        | true => simp only [show s.mem m = s'.mem m from h2 (.m m) (by rw [hx]; simp [memAV, memL])]
        | false => rfl
       | _ => rfl
      simp only [hr, happ]
     | _ => rfl
    | _ => rfl
   | _ => rfl
 ·rfl
theorem converts_same {src dst : TypeId} {x : Operand} (hx : s.ev x = s'.ev x) (hm : ∀ q ∈ memAV s (s.ev x), same s s' q) (nv : Nat) (ora : List (Option Bool)) : coreConv P s nv ora src dst x = coreConv P s' nv ora src dst x := by
 unfold coreConv
 rw [← hx]
 cases he : s.ev x with
 | one a =>
  cases a with
  | sc z => cases z <;> rfl
  | bsl m off len full => simp only [coreMark, show s.mem m = s'.mem m from hm (.m m) (by rw [he]; simp [memAV, memL])]
  | _ => rfl
 | _ => rfl
theorem core_same (hg : s.gl = s'.gl) (hn : s.n = s'.n) (h : ∀ q ∈ tmpsOf o.op.operands.toList ++ memOf s o, same s s' q) (x0 nv : Nat) (ora : List (Option Bool)) : core P s x0 nv ora o = core P s' x0 nv ora o := by
 have ht : ∀ x ∈ o.op.operands.toList, s.ev x = s'.ev x := fun x hx => ev_same hg (fun q hq => h q (by simp [hq])) hx
 have hd : dstOk s o = dstOk s' o := by unfold dstOk; rw [hn]
 unfold core
 rw [hd]
 cases dstOk s' o with
 | false => rfl
 | true =>
  simp only
  cases ho : o.op <;> simp only [ho, Op.operands] at ht <;> first | rfl | (try simp only)
  case move x => rw [ht x (by simp)]
  case assign x => rw [ht x (by simp)]
  case pick c x y => rw [ht c (by simp), ht x (by simp), ht y (by simp)]
  case box t x => rw [ht x (by simp)]
  case load t x => exact loads_same (ht x (by simp)) (fun q hq => h q (by simp [memOf, ho, hq])) nv ora
  case store t x y => exact stores_same (ht x (by simp)) (ht y (by simp)) (fun q hq => h q (by simp [memOf, ho, hq])) nv ora
  case binOp op t x y yt => rw [ht x (by simp), ht y (by simp)]
  case unOp op t x => rw [ht x (by simp)]
  case convert a b x => exact converts_same (ht x (by simp)) (fun q hq => h q (by simp [memOf, ho, hq])) nv ora
  case extract x i => rw [ht x (by simp)]
  case nilCheck x => rw [ht x (by simp)]
  case indexAddr t x i => unfold coreIndex; rw [ht x (by simp), ht i (by simp)]
  case index t x i => rw [ht x (by simp), ht i (by simp)]
  case fieldAddr t x i => rw [ht x (by simp)]
  case field t x i => rw [ht x (by simp)]
  case sliceToArrayPointer t x => rw [ht x (by simp)]
  case makeSlice t x y => unfold coreMake; rw [ht x (by simp), ht y (by simp)]
  case slice t x lo hi mx =>
   cases mx with
   | some z => rfl
   | none => exact slices_same (ht x (by simp)) (fun y hy => ht y (by subst hy; simp)) (fun y hy => ht y (by subst hy; simp)) nv ora
  case build t parts =>
   have : partsA s parts.toList = partsA s' parts.toList := partsA_same fun x hx => ht x.2 (by simp; exact ⟨x.1, by simpa using hx⟩)
   rw [this]
  case buildSlice t len parts =>
   have : partsA s parts.toList = partsA s' parts.toList := partsA_same fun x hx => ht x.2 (by simp; exact ⟨x.1, by simpa using hx⟩)
   unfold coreBuildS
   rw [this]
  case makeFunc f first captured =>
   cases f with
   | func f =>
    simp only
    cases h1 : first.toList with
    | nil => rfl
    | cons x l =>
     cases l with
     | nil =>
      have : s.ev x = s'.ev x := ht x (by rw [Array.toList_append, h1]; simp)
      cases captured.toList with
      | nil => simp only [this]
      | cons y l => rfl
     | cons y l => rfl
   | _ => rfl
  case call c =>
   have hargs : ∀ x ∈ c.args.toList, s.ev x = s'.ev x := fun x hx => ht x (by simp [Call.operands]; exact .inr (by simpa using hx))
   have hargs2 : ∀ x ∈ c.args.toList, s.ev x = s'.ev x ∧ ∀ q ∈ memAV s (s.ev x), same s s' q := fun x hx => ⟨hargs x hx, fun q hq => h q (by
    rw [List.mem_append]; right
    simp only [memOf, ho]
    exact List.mem_flatMap.2 ⟨x, hx, hq⟩)⟩
   rw [argsA_same hargs]
   cases hcal : c.callee with
   | builtin b =>
    cases b <;> first | rfl | skip
    case append => exact appends_same hargs2 x0 nv ora
    all_goals
     simp only
     cases hop : c.argTypes[0]? with
     | none =>
      cases hc : c.args.toList with
      | nil => rfl
      | cons x l => cases l <;> rfl
     | some t =>
      cases hc : c.args.toList with
      | nil => rfl
      | cons x l =>
       cases l with
       | nil => simp only [hargs x (by simp [hc])]
       | cons y l => rfl
   | value f =>
    cases f with
    | func g => simp only [callsS_same hargs2]
    | tmp g =>
     have hg : s.ev (.tmp g) = s'.ev (.tmp g) := ht (.tmp g) (by simp [Call.operands, hcal])
     have hg' : s.fr g = s'.fr g := hg
     simp only [hg']
    | _ => rfl
   | invoke r m => rfl
theorem given_ev (b : Bx) (want : Bool) (x : Operand) : (s.given b want).ev x = (s.ev x).given b want := by
 cases x with
 | tmp t => rfl
 | const u => simp only [Sig.ev]; cases aOf u <;> rfl
 | global g => simp only [Sig.ev, Sig.given]; cases s.gl g <;> rfl
 | func f => rfl
theorem memAV_given (b : Bx) (want : Bool) (x : AV) : ∀ q ∈ memAV (s.given b want) (x.given b want), q ∈ memAV s x := by
 intro q hq
 unfold AV.given at hq
 split at hq
 ·split at hq
  ·exact hq
  ·exact hq
 ·exact hq
theorem memOf_given (b : Bx) (want : Bool) (o : Oper) : ∀ q ∈ memOf (s.given b want) o, q ∈ memOf s o := by
 intro q hq
 unfold memOf at *
 split at hq
 ·rw [given_ev] at hq; exact memAV_given _ _ _ q hq
 ·rw [given_ev] at hq; exact memAV_given _ _ _ q hq
 ·rw [given_ev] at hq; exact memAV_given _ _ _ q hq
 ·obtain ⟨x, hx, hq⟩ := List.mem_flatMap.1 hq
  rw [given_ev] at hq
  exact List.mem_flatMap.2 ⟨x, hx, memAV_given _ _ _ q hq⟩
 ·exact hq
theorem stepO_same {ops : Array Oper} (hg : s.gl = s'.gl) (hn : s.n = s'.n) {x0 : Nat} (h : ∀ q ∈ readsOf s ops x0 o, same s s' q) (nv : Nat) (ora : List (Option Bool)) : stepO P s x0 nv ora ops o = stepO P s' x0 nv ora ops o := by
 have hgd : guardOf s ops o = guardOf s' ops o := by
  unfold guardOf
  cases hgo : o.guard with
  | none => rfl
  | some jw =>
   obtain ⟨j, want⟩ := jw
   simp only
   cases hj : (ops[j]?).bind (·.dst) with
   | none => rfl
   | some t =>
    have : s.fr t = s'.fr t := h (.t t) (by simp [readsOf, guardT, hgo, hj])
    simp only [this]
 have hd : dstOk s o = dstOk s' o := by unfold dstOk; rw [hn]
 have hgiven : ∀ b want, core P (s.given b want) x0 nv [] o = core P (s'.given b want) x0 nv [] o := by
  intro b want
  refine core_same (s := s.given b want) (s' := s'.given b want) hg hn (fun q hq => ?_) x0 nv []
  have hq' : same s s' q := by
   rw [List.mem_append] at hq
   rcases hq with hq | hq
   ·exact h q (by simp [readsOf, hq])
   ·exact h q (by simp [readsOf, memOf_given b want o q hq])
  cases q with
  | t n => exact congrArg (AV.given b want) hq'
  | m n => exact hq'
 unfold stepO
 rw [hgd, hd, core_same hg hn (fun q hq => h q (by rw [List.mem_append] at hq; rcases hq with hq | hq <;> simp [readsOf, hq]))]
 simp only [hgiven]
theorem foldl_setM_fr (l : List (Nat × Blk)) : ∀ s : Sig, (l.foldl (fun s xb => s.setM xb.1 xb.2) s).fr = s.fr := by
 induction l with
 | nil => intro s; rfl
 | cons x l ih => intro s; rw [List.foldl_cons, ih]; rfl
theorem foldl_setM_n (l : List (Nat × Blk)) : ∀ s : Sig, (l.foldl (fun s xb => s.setM xb.1 xb.2) s).n = s.n := by
 induction l with
 | nil => intro s; rfl
 | cons x l ih => intro s; rw [List.foldl_cons, ih]; rfl
theorem foldl_setM_gl (l : List (Nat × Blk)) : ∀ s : Sig, (l.foldl (fun s xb => s.setM xb.1 xb.2) s).gl = s.gl := by
 induction l with
 | nil => intro s; rfl
 | cons x l ih => intro s; rw [List.foldl_cons, ih]; rfl
theorem foldl_setM_not (l : List (Nat × Blk)) (m : Nat) : ∀ s : Sig, (∀ xb ∈ l, xb.1 ≠ m) → (l.foldl (fun s xb => s.setM xb.1 xb.2) s).mem m = s.mem m := by
 induction l with
 | nil => intro s _; rfl
 | cons x l ih =>
  intro s h
  rw [List.foldl_cons, ih _ fun xb hx => h xb (by simp [hx])]
  simp [Sig.setM, Ne.symm (h x (by simp))]
theorem foldl_setM_in (l : List (Nat × Blk)) (m : Nat) : ∀ s s' : Sig, (s.mem m = s'.mem m ∨ ∃ xb ∈ l, xb.1 = m) → (l.foldl (fun s xb => s.setM xb.1 xb.2) s).mem m = (l.foldl (fun s xb => s.setM xb.1 xb.2) s').mem m := by
 induction l with
 | nil => intro s s' h; rcases h with h | ⟨_, h, _⟩; exact h; cases h
 | cons x l ih =>
  intro s s' h
  rw [List.foldl_cons, List.foldl_cons]
  refine ih _ _ ?_
  by_cases e : x.1 = m
  ·left; simp [Sig.setM, e]
  ·rcases h with h | ⟨xb, hx, he⟩
   ·left; simp [Sig.setM, Ne.symm e, h]
   ·rcases List.mem_cons.1 hx with rfl | hx
    ·exact absurd he e
    ·exact .inr ⟨xb, hx, he⟩
theorem put_mem (s : Sig) (dst : Option Nat) (x : AV) : (s.put dst x).mem = s.mem := by cases dst <;> rfl
theorem put_n (s : Sig) (dst : Option Nat) (x : AV) : (s.put dst x).n = s.n := by cases dst <;> rfl
theorem put_gl (s : Sig) (dst : Option Nat) (x : AV) : (s.put dst x).gl = s.gl := by cases dst <;> rfl
theorem after_n (s : Sig) (dst : Option Nat) (out : Out) : (s.after dst out).n = s.n := by unfold Sig.after; rw [put_n, foldl_setM_n]
theorem after_gl (s : Sig) (dst : Option Nat) (out : Out) : (s.after dst out).gl = s.gl := by unfold Sig.after; rw [put_gl, foldl_setM_gl]
theorem after_not {out : Out} {q : Loc} (h : q ∉ writesOf o out) (s : Sig) : same (s.after o.dst out) s q := by
 cases q with
 | t n =>
  show (s.after o.dst out).fr n = s.fr n
  unfold Sig.after
  cases hd : o.dst with
  | none => simp only [Sig.put, foldl_setM_fr]
  | some d =>
   have : n ≠ d := by rintro rfl; exact h (by simp [writesOf, hd])
   simp only [Sig.put, if_neg this, foldl_setM_fr]
 | m n =>
  show (s.after o.dst out).mem n = s.mem n
  unfold Sig.after
  rw [put_mem]
  exact foldl_setM_not _ _ _ fun xb hx e => h (List.mem_append.2 (.inr (List.mem_map.2 ⟨xb, hx, by rw [e]⟩)))
theorem after_in {out : Out} {q : Loc} (h : q ∈ writesOf o out) (s s' : Sig) : same (s.after o.dst out) (s'.after o.dst out) q := by
 cases q with
 | t n =>
  show (s.after o.dst out).fr n = (s'.after o.dst out).fr n
  unfold Sig.after
  simp only [writesOf, List.mem_append, List.mem_map, reduceCtorEq, and_false, exists_false, or_false] at h
  cases hd : o.dst with
  | none => simp [hd] at h
  | some d =>
   simp only [hd, List.mem_singleton, Loc.t.injEq] at h
   simp only [Sig.put, h, if_true]
 | m n =>
  show (s.after o.dst out).mem n = (s'.after o.dst out).mem n
  unfold Sig.after
  rw [put_mem, put_mem]
  refine foldl_setM_in _ _ _ _ (.inr ?_)
  simp only [writesOf, List.mem_append, List.mem_map, Loc.m.injEq] at h
  rcases h with h | ⟨xb, hx, e⟩
  ·cases hd : o.dst <;> simp [hd] at h
  ·exact ⟨xb, hx, e⟩
theorem same.trans {a b c : Sig} {q : Loc} (h : same a b q) (k : same b c q) : same a c q := by
 cases q
 ·exact Eq.trans (show a.fr _ = b.fr _ from h) k
 ·exact Eq.trans (show a.mem _ = b.mem _ from h) k
theorem same.symm {a b : Sig} {q : Loc} (h : same a b q) : same b a q := by
 cases q
 ·exact Eq.symm (show a.fr _ = b.fr _ from h)
 ·exact Eq.symm (show a.mem _ = b.mem _ from h)
theorem same.refl (a : Sig) (q : Loc) : same a a q := by cases q <;> rfl
theorem sig_ext {a b : Sig} (h : ∀ q, same a b q) (hn : a.n = b.n) (hg : a.gl = b.gl) : a = b := by
 cases a with
 | mk f m n g =>
  cases b with
  | mk f' m' n' g' =>
   simp only at hn hg
   subst hn hg
   have hf : f = f' := funext fun t => h (.t t)
   have hm : m = m' := funext fun t => h (.m t)
   rw [hf, hm]
section any
variable (ops : Array Oper) (outs : Nat → Out) (s0 : Sig)
def upd1 (i : Nat) (s : Sig) : Sig := match ops[i]? with | some o => s.after o.dst (outs i) | none => s
def upds (L : Nat → Bool) (n : Nat) : Sig := (List.range n).foldl (fun s i => if L i then upd1 ops outs i s else s) s0
theorem upds_succ (L : Nat → Bool) (n : Nat) : upds ops outs s0 L (n + 1) = if L n then upd1 ops outs n (upds ops outs s0 L n) else upds ops outs s0 L n := by
 unfold upds
 rw [List.range_succ, List.foldl_append]
 rfl
def writes (i : Nat) : List Loc := match ops[i]? with | some o => writesOf o (outs i) | none => []
theorem upd1_not {i : Nat} {q : Loc} (h : q ∉ writes ops outs i) (s : Sig) : same (upd1 ops outs i s) s q := by
 unfold upd1
 unfold writes at h
 cases ho : ops[i]? with
 | none => exact same.refl _ _
 | some o => rw [ho] at h; exact after_not h s
theorem upd1_in {i : Nat} {q : Loc} (h : q ∈ writes ops outs i) (s s' : Sig) : same (upd1 ops outs i s) (upd1 ops outs i s') q := by
 unfold upd1
 unfold writes at h
 cases ho : ops[i]? with
 | none => rw [ho] at h; cases h
 | some o => rw [ho] at h; exact after_in h s s'
theorem upd1_same {i : Nat} {q : Loc} {s s' : Sig} (h : same s s' q) : same (upd1 ops outs i s) (upd1 ops outs i s') q := by
 by_cases hq : q ∈ writes ops outs i
 ·exact upd1_in ops outs hq s s'
 ·exact ((upd1_not ops outs hq s).trans h).trans (upd1_not ops outs hq s').symm
theorem upd1_n (i : Nat) (s : Sig) : (upd1 ops outs i s).n = s.n := by
 unfold upd1
 split
 ·exact after_n _ _ _
 ·rfl
theorem upd1_gl (i : Nat) (s : Sig) : (upd1 ops outs i s).gl = s.gl := by
 unfold upd1
 split
 ·exact after_gl _ _ _
 ·rfl
theorem upds_n (L : Nat → Bool) : ∀ n, (upds ops outs s0 L n).n = s0.n
 | 0 => rfl
 | n + 1 => by rw [upds_succ]; split <;> simp only [upd1_n, upds_n L n]
theorem upds_gl (L : Nat → Bool) : ∀ n, (upds ops outs s0 L n).gl = s0.gl
 | 0 => rfl
 | n + 1 => by rw [upds_succ]; split <;> simp only [upd1_gl, upds_gl L n]
theorem upds_same {L M : Nat → Bool} {q : Loc} : ∀ n, (∀ j, j < n → q ∈ writes ops outs j → L j = M j) → same (upds ops outs s0 L n) (upds ops outs s0 M n) q
 | 0, _ => same.refl _ _
 | n + 1, h => by
  have ih := upds_same n fun j hj => h j (by omega)
  rw [upds_succ, upds_succ]
  by_cases hq : q ∈ writes ops outs n
  ·rw [h n (by omega) hq]
   split
   ·exact upd1_in ops outs hq _ _
   ·exact ih
  ·split
   ·split
    ·exact upd1_same ops outs ih
    ·exact (upd1_not ops outs hq _).trans ih
   ·split
    ·exact ih.trans (upd1_not ops outs hq _).symm
    ·exact ih
theorem upds_cut (L : Nat → Bool) (n : Nat) : ∀ m, upds ops outs s0 (fun j => L j && decide (j < n)) (n + m) = upds ops outs s0 L n
 | 0 => by
  have : ∀ k, k ≤ n → upds ops outs s0 (fun j => L j && decide (j < n)) k = upds ops outs s0 L k := by
   intro k hk
   induction k with
   | zero => rfl
   | succ k ih => rw [upds_succ, upds_succ, ih (by omega)]; simp [show k < n by omega]
  exact this n (Nat.le_refl _)
 | m + 1 => by
  have hf : decide (n + m < n) = false := by simp
  rw [show n + (m + 1) = (n + m) + 1 by omega, upds_succ, upds_cut L n m]
  simp [hf]
end any
structure Fits (P : Program) (v : Env) (ops : Array Oper) (s0 : Sig) (outs : Nat → Out) (anc : Nat → Nat → Bool) : Prop where
 step : ∀ i o, ops[i]? = some o → ∃ x0 nv ora, stepO P (upds ops outs s0 (fun _ => true) i) x0 nv ora ops o = some (outs i) ∧ (∀ e ∈ (outs i).ev, e.holds P v) ∧ (upds ops outs s0 (fun _ => true) i).mem x0 = none ∧
  (∀ j oj, ops[j]? = some oj → j ≠ i → (∃ q ∈ writes ops outs j, q ∈ readsOf (upds ops outs s0 (fun _ => true) i) ops x0 o ∨ q ∈ writes ops outs i) → (j < i → anc i j = true) ∧ (i < j → anc j i = true))
 back : ∀ i o, ops[i]? = some o → ∀ e ∈ o.after, Region.binds .any e = true → e.on < i
 anc : ∀ i o, ops[i]? = some o → ∀ j, anc i j = true → ∃ e ∈ o.after, Region.binds .any e = true ∧ (e.on = j ∨ anc e.on j = true)
def lst (listed : Array Bool) (i : Nat) : Bool := listed.getD i false
structure Down (ops : Array Oper) (listed : Array Bool) : Prop where
 size : listed.size = ops.size
 down : ∀ i o, ops[i]? = some o → lst listed i = true → ∀ e ∈ o.after, Region.binds .any e = true → lst listed e.on = true
theorem Down.anc {ops : Array Oper} {outs : Nat → Out} {s0 : Sig} {anc : Nat → Nat → Bool} (hf : Fits P v ops s0 outs anc) {listed : Array Bool} (hd : Down ops listed) : ∀ (n i : Nat), i < n → ∀ o, ops[i]? = some o → (∀ e ∈ o.after, Region.binds .any e = true → lst listed e.on = true) → ∀ j, anc i j = true → lst listed j = true
 | 0, i, hi, _, _, _, _, _ => by omega
 | n + 1, i, hi, o, ho, hall, j, ha => by
  obtain ⟨e, he, hb, hj⟩ := hf.anc i o ho j ha
  have hl := hall e he hb
  rcases hj with rfl | hj
  ·exact hl
  ·have hlt := hf.back i o ho e he hb
   have hsz : e.on < ops.size := by
    have : i < ops.size := (Array.getElem?_eq_some_iff.1 ho).1
    omega
   exact Down.anc hf hd n e.on (by omega) _ (Array.getElem?_eq_getElem hsz) (hd.down e.on _ (Array.getElem?_eq_getElem hsz) hl) j hj
theorem lst_set {listed : Array Bool} {i : Nat} (hi : i < listed.size) (j : Nat) : lst (listed.setIfInBounds i true) j = (decide (j = i) || lst listed j) := by
 unfold lst
 by_cases e : j = i
 ·subst e; simp [hi]
 ·simp [e, Array.getElem?_setIfInBounds_ne (Ne.symm e)]
theorem any_order {ops : Array Oper} {outs : Nat → Out} {s0 : Sig} {anc : Nat → Nat → Bool} (hf : Fits P v ops s0 outs anc) {Q : Exit → Act → World → Prop}
  (hQ : ∀ a w p, RelP v (upds ops outs s0 (fun _ => true) ops.size) a w p → Q .normal a w) :
  ∀ (fuel : Nat) (listed : Array Bool), Down ops listed → ((List.range ops.size).filter fun i => !lst listed i).length = fuel → ∀ a w p, RelP v (upds ops outs s0 (lst listed) ops.size) a w p → wpAny P .any ops Q fuel listed a w := by
 have hall : ∀ listed : Array Bool, ((List.range ops.size).filter fun i => !lst listed i) = [] → upds ops outs s0 (lst listed) ops.size = upds ops outs s0 (fun _ => true) ops.size := by
  intro listed h
  refine sig_ext (fun q => upds_same ops outs s0 _ fun j hj _ => ?_) (by rw [upds_n, upds_n]) (by rw [upds_gl, upds_gl])
  have := List.filter_eq_nil_iff.1 h j (List.mem_range.2 hj)
  simpa using this
 intro fuel
 induction fuel with
 | zero =>
  intro listed hd hc a w p hr
  have hnil := List.eq_nil_of_length_eq_zero hc
  rw [hall listed hnil] at hr
  refine ⟨?_, hQ a w p hr⟩
  apply List.eq_nil_iff_forall_not_mem.2
  intro i hi
  obtain ⟨h1, o, ho, _⟩ := mem_ready.1 hi
  have hlt : i < ops.size := (Array.getElem?_eq_some_iff.1 ho).1
  have := List.filter_eq_nil_iff.1 hnil i (List.mem_range.2 hlt)
  have hl : lst listed i = true := by simpa using this
  unfold lst at hl
  have hlt' : i < listed.size := by rw [hd.size]; exact hlt
  simp [hlt'] at h1 hl
  rw [h1] at hl
  cases hl
 | succ fuel ih =>
  intro listed hd hc a w p hr
  refine ⟨fun hrn => ?_, fun i hi => ?_⟩
  ·exfalso
   -- the first that is not listed is ready
   have hex : ∃ i, i < ops.size ∧ lst listed i = false := by
    cases hl : (List.range ops.size).filter fun i => !lst listed i with
    | nil => rw [hl] at hc; simp at hc
    | cons x l =>
     have hx : x ∈ (List.range ops.size).filter fun i => !lst listed i := by rw [hl]; simp
     obtain ⟨h1, h2⟩ := List.mem_filter.1 hx
     exact ⟨x, List.mem_range.1 h1, by simpa using h2⟩
   have hmin : ∀ n, (∃ i, i < n ∧ i < ops.size ∧ lst listed i = false) → ∃ i, i < ops.size ∧ lst listed i = false ∧ ∀ j, j < i → lst listed j = true := by
    intro n
    induction n with
    | zero => rintro ⟨i, h, _⟩; omega
    | succ n ihn =>
     rintro ⟨i, h1, h2, h3⟩
     by_cases hex' : ∃ i, i < n ∧ i < ops.size ∧ lst listed i = false
     ·exact ihn hex'
     ·refine ⟨i, h2, h3, fun j hj => ?_⟩
      cases hb : lst listed j with
      | true => rfl
      | false => exact absurd ⟨j, by omega, by omega, hb⟩ hex'
   obtain ⟨i, h1, h2⟩ := hex
   obtain ⟨m, hm1, hm2, hm3⟩ := hmin ops.size ⟨i, h1, h1, h2⟩
   have : m ∈ Region.ready .any ops listed := by
    rw [mem_ready]
    refine ⟨?_, _, Array.getElem?_eq_getElem hm1, fun e he hb => hm3 e.on (hf.back m _ (Array.getElem?_eq_getElem hm1) e he hb)⟩
    unfold lst at hm2
    have hlt' : m < listed.size := by rw [hd.size]; exact hm1
    simpa [hlt'] using hm2
   rw [hrn] at this
   cases this
  ·obtain ⟨h1, o, ho, hready⟩ := mem_ready.1 hi
   have hlt : i < ops.size := (Array.getElem?_eq_some_iff.1 ho).1
   have hlt' : i < listed.size := by rw [hd.size]; exact hlt
   have hli : lst listed i = false := by unfold lst; simpa [hlt'] using h1
   obtain ⟨x0, nv, ora, hstep, hev, hx0, hconf⟩ := hf.step i o ho
   have hanc : ∀ j, anc i j = true → lst listed j = true := Down.anc hf hd (i + 1) i (Nat.lt_succ_self i) o ho hready
   have hnot : ∀ j oj, ops[j]? = some oj → anc j i = true → lst listed j = false := by
    intro j oj hoj ha
    cases hb : lst listed j with
    | false => rfl
    | true =>
     have := Down.anc hf hd (j + 1) j (Nat.lt_succ_self j) oj hoj (hd.down j oj hoj hb) i ha
     rw [hli] at this
     cases this
   have hwr : ∀ j q, q ∈ writes ops outs j → ∃ oj, ops[j]? = some oj := by
    intro j q hq
    unfold writes at hq
    cases hoj : ops[j]? with
    | none => rw [hoj] at hq; cases hq
    | some oj => exact ⟨oj, rfl⟩
   -- the state at hand agrees with the text's at what i reads
   have hreads : ∀ q ∈ readsOf (upds ops outs s0 (fun _ => true) i) ops x0 o, same (upds ops outs s0 (fun _ => true) i) (upds ops outs s0 (lst listed) ops.size) q := by
    intro q hq
    have hcut := upds_cut ops outs s0 (fun _ => true) i (ops.size - i)
    rw [show i + (ops.size - i) = ops.size by omega] at hcut
    rw [← hcut]
    refine upds_same ops outs s0 _ fun j hj hw => ?_
    obtain ⟨oj, hoj⟩ := hwr j q hw
    simp only [Bool.true_and]
    by_cases hji : j = i
    ·subst hji; rw [hli]; simp
    ·obtain ⟨c1, c2⟩ := hconf j oj hoj hji ⟨q, hw, .inl hq⟩
     by_cases hjl : j < i
     ·rw [hanc j (c1 hjl)]; simpa using hjl
     ·rw [hnot j oj hoj (c2 (by omega))]; simpa using hjl
   have hstep' : stepO P (upds ops outs s0 (lst listed) ops.size) x0 nv ora ops o = some (outs i) := by
    rw [← stepO_same (by rw [upds_gl, upds_gl]) (by rw [upds_n, upds_n]) hreads]
    exact hstep
   have hx0' : (upds ops outs s0 (lst listed) ops.size).mem x0 = none := by
    have := hreads (.m x0) (by simp [readsOf])
    rw [← show (upds ops outs s0 (fun _ => true) i).mem x0 = _ from this]
    exact hx0
   -- and its update is that of the greater set
   have hnew : (upds ops outs s0 (lst listed) ops.size).after o.dst (outs i) = upds ops outs s0 (lst (listed.setIfInBounds i true)) ops.size := by
    refine sig_ext (fun q => ?_) (by rw [after_n, upds_n, upds_n]) (by rw [after_gl, upds_gl, upds_gl])
    by_cases hq : q ∈ writes ops outs i
    ·have hq' : q ∈ writesOf o (outs i) := by unfold writes at hq; rw [ho] at hq; exact hq
     have e1 : same (upds ops outs s0 (lst (listed.setIfInBounds i true)) ops.size) (upds ops outs s0 (fun j => lst (listed.setIfInBounds i true) j && decide (j < i + 1)) ops.size) q := by
      refine upds_same ops outs s0 _ fun j hj hw => ?_
      obtain ⟨oj, hoj⟩ := hwr j q hw
      by_cases hji : j = i
      ·subst hji; simp
      ·by_cases hjl : j < i
       ·simp [show j < i + 1 by omega]
       ·obtain ⟨c1, c2⟩ := hconf j oj hoj hji ⟨q, hw, .inr hq⟩
        rw [lst_set hlt']
        have := hnot j oj hoj (c2 (by omega))
        simp [this, hji]
     have e2 := upds_cut ops outs s0 (lst (listed.setIfInBounds i true)) (i + 1) (ops.size - (i + 1))
     rw [show i + 1 + (ops.size - (i + 1)) = ops.size by omega] at e2
     rw [e2, upds_succ, lst_set hlt'] at e1
     simp only [decide_true, Bool.true_or, if_true] at e1
     refine same.trans ?_ e1.symm
     unfold upd1
     rw [ho]
     exact after_in hq' _ _
    ·have hq' : q ∉ writesOf o (outs i) := by unfold writes at hq; rw [ho] at hq; exact hq
     refine (after_not hq' _).trans ?_
     refine upds_same ops outs s0 _ fun j hj hw => ?_
     rw [lst_set hlt']
     have : j ≠ i := by rintro rfl; exact hq hw
     simp [this]
   have hd' : Down ops (listed.setIfInBounds i true) := by
    refine ⟨by simpa using hd.size, fun j oj hoj hl e he hb => ?_⟩
    rw [lst_set hlt'] at hl ⊢
    by_cases hji : j = i
    ·subst hji
     rw [ho] at hoj
     cases hoj
     have := hready e he hb
     unfold lst
     simp [this]
    ·have hl' : lst listed j = true := by simpa [hji] using hl
     rw [hd.down j oj hoj hl' e he hb]
     simp
   have hc' : ((List.range ops.size).filter fun j => !lst (listed.setIfInBounds i true) j).length = fuel := by
    have hperm : ((List.range ops.size).filter fun j => !lst (listed.setIfInBounds i true) j) = ((List.range ops.size).filter fun j => !lst listed j).erase i := by
     have hnd : ((List.range ops.size).filter fun j => !lst listed j).Nodup := List.Pairwise.filter _ List.nodup_range
     rw [hnd.erase_eq_filter, List.filter_filter]
     apply List.filter_congr
     intro j _
     rw [lst_set hlt']
     by_cases e : j = i <;> simp [e]
    rw [hperm, List.length_erase_of_mem (List.mem_filter.2 ⟨List.mem_range.2 hlt, by simp [hli]⟩), hc]
    rfl
   refine stepO_does ho hstep' hev hx0' hr fun a' w' q' hr' => ?_
   rw [hnew] at hr'
   exact ih _ hd' hc' a' w' q' hr'
end
end Go.Sx
