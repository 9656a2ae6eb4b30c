/- The curve's variables as they are laid; the field's functions in their world. -/
import Derived.Test.YtkckmpnkacdchaaDoorFlo0
import Derived.Test.YtkckmpnkacdchaaDoorPure
set_option linter.unusedVariables false
set_option linter.unusedSimpArgs false
set_option maxHeartbeats 4000000
namespace Go.Proofs.YtkckmpnkacdchaaDoor
open Go.RowKit Go.Num Go.Sx
abbrev JT0 : List A := [(.sc (.int .i64 (.lit 2))), (.agg [.v 0, .v 1, .v 2, .v 3]), (.agg [.v 4, .v 5, .v 6, .v 7])]
abbrev JT1 : A := .agg [.v 8, .v 9, .v 10, .v 11]
abbrev JT2 : List A := [(.agg [.v 0, .v 1, .v 2, .v 3]), (.agg [.v 4, .v 5, .v 6, .v 7])]
def v_moduli : Nat × List Int := (4, modL)
def v_d : Nat × List Int := (1, [8496970652267935907, 31536524315187371, 10144147576115030168, 5909686906226998899])
def v_twice : Nat × List Int := (6, [16993941304535871833, 63073048630374742, 1841551078520508720, 2596001775599221991])
def v_one : Nat × List Int := (0, [1, 0, 0, 0])
def v_neutral : Nat × List Int := (2, [0, 0, 0, 0, 1, 0, 0, 0, 1, 0, 0, 0, 0, 0, 0, 0])
def v_root : Nat × List Int := (5, [14190309331451158704, 3405592160176694392, 3120150775007532967, 3135389899092516619])
def litCells (l : List Int) : Array Value := (l.map fun n => Value.int .u64 n).toArray
def KV (l : List (Nat × List Int)) : Nat := l.foldr (fun x n => max (x.1 + 1) n) 0
theorem KV_mem : ∀ {l : List (Nat × List Int)} {x : Nat × List Int}, x ∈ l → x.1 < KV l
 | y :: l, x, h => by
  show x.1 < max (y.1 + 1) (KV l)
  rcases List.mem_cons.1 h with rfl | h
  ·omega
  ·have := KV_mem h
   omega
theorem KV_le : ∀ {l : List (Nat × List Int)} {n : Nat}, (∀ x ∈ l, x.1 < n) → KV l ≤ n
 | [], n, _ => Nat.zero_le n
 | y :: l, n, h => by
  show max (y.1 + 1) (KV l) ≤ n
  have h1 := h y (by simp)
  have h2 := KV_le (l := l) fun x hx => h x (by simp [hx])
  omega
structure TV where
 ty : Nat → TypeId
 vs : List (Nat × List Int)
 one : v_one ∈ vs
 d : v_d ∈ vs
 moduli : v_moduli ∈ vs
structure TQ extends TV where
 neutral : v_neutral ∈ vs
 twice : v_twice ∈ vs
structure TR extends TV where
 root : v_root ∈ vs
instance : Coe TQ TV := ⟨TQ.toTV⟩
instance : Coe TR TV := ⟨TR.toTV⟩
def LE (Ts : TV) : Laid := ⟨KV Ts.vs, fun w => ∀ x ∈ Ts.vs, ∃ fz, w.heap[x.1]? = some (.cells (litCells x.2) (Ts.ty x.1) fz), fun _ _ h G x hx => by
 obtain ⟨fz, e⟩ := G x hx
 exact ⟨fz, by rw [h _ (KV_mem hx)]; exact e⟩⟩
abbrev edGs (Ts : TV) (l : List (Nat × List Int)) : List (Nat × Blk) := l.map fun x => (x.1, ⟨Ts.ty x.1, x.2.map fun n => .sc (.int .u64 (.lit n)), false, false, false, none⟩)
theorem varsOk (Ts : TV) (l : List (Nat × List Int)) (hs : ∀ x ∈ l, x ∈ Ts.vs) (hn : (l.map (·.1)).Nodup) : GsOk (LE Ts) (edGs Ts l) := by
 refine ⟨?_, ?_, fun w hw x hx => ?_⟩
 ·rw [List.map_map]; exact hn
 ·intro x hx
  obtain ⟨y, hy, rfl⟩ := List.mem_map.1 hx
  exact ⟨rfl, rfl, rfl, KV_mem (hs y hy)⟩
 ·obtain ⟨y, hy, rfl⟩ := List.mem_map.1 hx
  obtain ⟨fz, e⟩ := hw y (hs y hy)
  refine ⟨litCells y.2, fz, e, fun v => ?_⟩
  show listIs v _ _ (litCells y.2).toList
  unfold litCells
  rw [List.toList_toArray]
  exact litsIs v _ y.2
theorem callG_mono {P : Program} {L L' : Laid} {f : FuncId} {args : Array Value} {u : Value} (hk : L.K ≤ L'.K) (hg : ∀ w, L'.G w → L.G w) (h : CallG P L f args u) : CallG P L' f args u := fun w hK hG => h w (Nat.le_trans hk hK) (hg w hG)
theorem lf {Ts : TV} {f : FuncId} {args : Array Value} {u : Value} (h : CallG Tryd.prog (LF (Ts.ty 4)) f args u) : CallG Tryd.prog (LE Ts) f args u :=
 callG_mono (show 4 + 1 ≤ KV Ts.vs from KV_mem Ts.moduli) (fun w G => G v_moduli Ts.moduli) h
theorem one_l0 : lm 1 0 = 1 := by decide +kernel
theorem one_l1 : lm 1 1 = 0 := by decide +kernel
theorem one_l2 : lm 1 2 = 0 := by decide +kernel
theorem one_l3 : lm 1 3 = 0 := by decide +kernel
theorem P_mo : Ed.P = Mo 2 := by decide +kernel
theorem PN : Ed.P < N := by decide +kernel
theorem ltP {x : Nat} (h : x < Ed.P) : x < N := Nat.lt_trans h PN
theorem P_pos : 0 < Ed.P := by decide +kernel
theorem sb_P (a b : Nat) : sb Ed.P a b < Ed.P := Nat.mod_lt _ P_pos
theorem phi_sb (a b : Nat) : Ed.phi (sb Ed.P a b) = Ed.phi a - Ed.phi b := by
 unfold sb
 have hb : b % Ed.P ≤ Ed.P := Nat.le_of_lt (Nat.mod_lt _ P_pos)
 rw [Ed.phi_mod, Nat.add_sub_assoc hb, Ed.phi_sub hb, Ed.phi_mod, Ed.phi_mod]
theorem fadd_g (Ts : TV) (a b : Nat) (ha : a < N) (hb : b < N) {r : Nat} (hr : r = (a + b) % Ed.P) : CallG Tryd.prog (LE Ts) 29 #[.int .i64 (2 : Int), vN a, vN b] (vN r) :=
 lf (yadd_g _ (by decide) (by decide) P_mo a b ha hb hr)
theorem fsub_g (Ts : TV) (a b : Nat) (ha : a < N) (hb : b < N) {r : Nat} (hr : r = sb Ed.P a b) : CallG Tryd.prog (LE Ts) 34 #[.int .i64 (2 : Int), vN a, vN b] (vN r) :=
 lf (ysub_g _ (by decide) (by decide) P_mo a b ha hb hr)
theorem fmul_g (Ts : TV) (a b : Nat) (ha : a < N) (hb : b < N) {r : Nat} (hr : r = a * b % Ed.P) : CallG Tryd.prog (LE Ts) 30 #[.int .i64 (2 : Int), vN a, vN b] (vN r) :=
 lf (ymul_g _ (by decide) (by decide) P_mo a b ha hb hr)
theorem finv_g (Ts : TV) (a : Nat) (ha : a < N) {r : Nat} (hr : r = a ^ (Ed.P - 2) % Ed.P) : CallG Tryd.prog (LE Ts) 46 #[.int .i64 (2 : Int), vN a] (vN r) :=
 lf (yinv_g _ (by decide) (by decide) P_mo a ha hr)
theorem fpow_g (Ts : TV) (a b : Nat) (ha : a < N) (hb : b < N) {r : Nat} (hr : r = a ^ b % Ed.P) : CallG Tryd.prog (LE Ts) 49 #[.int .i64 (2 : Int), vN a, vN b] (vN r) :=
 lf (ypow_g _ (by decide) (by decide) P_mo a b ha hb hr)
theorem eadd_run (a : Nat) (b : Nat) (Ts : TV) (ha : a < N) (hb : b < N) (r : Nat) (hr : r = (a + b) % Ed.P) (w : World) (hK : (LE Ts).K ≤ w.heap.size) (hG : (LE Ts).G w) : Calls Tryd.prog 66 #[vN a, vN b] w fun e w' => e = .returned (vN r) ∧ Below w.heap.size w w' := by
 have hrun := calls_of_runG (P := Tryd.prog) (v := ⟨envI [lm a 0, lm a 1, lm a 2, lm a 3, lm b 0, lm b 1, lm b 2, lm b 3, lm r 0, lm r 1, lm r 2, lm r 3], envB [], envL [], envP [], LE Ts, w⟩) (gs := []) (fuel := 3000) (nv := 8) (args := JT2) (ora := []) (sums := []) (res := [JT1]) (ev := [.call 29 JT0 (.one JT1)]) (lev := []) Tryd.func66 (by kernel_rfl) (by kernel_rfl)
  (evs_of ⟨?_, trivial⟩) (by simp) (GsOk.nil _) hK hG
 ·(exact calls_eq hrun rfl)
 ·exact fadd_g Ts a b ha hb hr
theorem eadd_g (Ts : TV) (a b : Nat) (ha : a < N) (hb : b < N) {r : Nat} (hr : r = (a + b) % Ed.P) : CallG Tryd.prog (LE Ts) 66 #[vN a, vN b] (vN r) :=
 callG_of Tryd.func66 (by kernel_rfl) (by kernel_rfl) (fun w hK hG => eadd_run a b Ts ha hb r hr w hK hG)
theorem esub_run (a : Nat) (b : Nat) (Ts : TV) (ha : a < N) (hb : b < N) (r : Nat) (hr : r = sb Ed.P a b) (w : World) (hK : (LE Ts).K ≤ w.heap.size) (hG : (LE Ts).G w) : Calls Tryd.prog 65 #[vN a, vN b] w fun e w' => e = .returned (vN r) ∧ Below w.heap.size w w' := by
 have hrun := calls_of_runG (P := Tryd.prog) (v := ⟨envI [lm a 0, lm a 1, lm a 2, lm a 3, lm b 0, lm b 1, lm b 2, lm b 3, lm r 0, lm r 1, lm r 2, lm r 3], envB [], envL [], envP [], LE Ts, w⟩) (gs := []) (fuel := 3000) (nv := 8) (args := JT2) (ora := []) (sums := []) (res := [JT1]) (ev := [.call 34 JT0 (.one JT1)]) (lev := []) Tryd.func65 (by kernel_rfl) (by kernel_rfl)
  (evs_of ⟨?_, trivial⟩) (by simp) (GsOk.nil _) hK hG
 ·(exact calls_eq hrun rfl)
 ·exact fsub_g Ts a b ha hb hr
theorem esub_g (Ts : TV) (a b : Nat) (ha : a < N) (hb : b < N) {r : Nat} (hr : r = sb Ed.P a b) : CallG Tryd.prog (LE Ts) 65 #[vN a, vN b] (vN r) :=
 callG_of Tryd.func65 (by kernel_rfl) (by kernel_rfl) (fun w hK hG => esub_run a b Ts ha hb r hr w hK hG)
theorem emul_run (a : Nat) (b : Nat) (Ts : TV) (ha : a < N) (hb : b < N) (r : Nat) (hr : r = a * b % Ed.P) (w : World) (hK : (LE Ts).K ≤ w.heap.size) (hG : (LE Ts).G w) : Calls Tryd.prog 63 #[vN a, vN b] w fun e w' => e = .returned (vN r) ∧ Below w.heap.size w w' := by
 have hrun := calls_of_runG (P := Tryd.prog) (v := ⟨envI [lm a 0, lm a 1, lm a 2, lm a 3, lm b 0, lm b 1, lm b 2, lm b 3, lm r 0, lm r 1, lm r 2, lm r 3], envB [], envL [], envP [], LE Ts, w⟩) (gs := []) (fuel := 3000) (nv := 8) (args := JT2) (ora := []) (sums := []) (res := [JT1]) (ev := [.call 30 JT0 (.one JT1)]) (lev := []) Tryd.func63 (by kernel_rfl) (by kernel_rfl)
  (evs_of ⟨?_, trivial⟩) (by simp) (GsOk.nil _) hK hG
 ·(exact calls_eq hrun rfl)
 ·exact fmul_g Ts a b ha hb hr
theorem emul_g (Ts : TV) (a b : Nat) (ha : a < N) (hb : b < N) {r : Nat} (hr : r = a * b % Ed.P) : CallG Tryd.prog (LE Ts) 63 #[vN a, vN b] (vN r) :=
 callG_of Tryd.func63 (by kernel_rfl) (by kernel_rfl) (fun w hK hG => emul_run a b Ts ha hb r hr w hK hG)
theorem radd_run (a : Nat) (b : Nat) (Ts : TV) (ha : a < N) (hb : b < N) (r : Nat) (hr : r = (a + b) % Ed.P) (w : World) (hK : (LE Ts).K ≤ w.heap.size) (hG : (LE Ts).G w) : Calls Tryd.prog 47 #[vN a, vN b] w fun e w' => e = .returned (vN r) ∧ Below w.heap.size w w' := by
 have hrun := calls_of_runG (P := Tryd.prog) (v := ⟨envI [lm a 0, lm a 1, lm a 2, lm a 3, lm b 0, lm b 1, lm b 2, lm b 3, lm r 0, lm r 1, lm r 2, lm r 3], envB [], envL [], envP [], LE Ts, w⟩) (gs := []) (fuel := 3000) (nv := 8) (args := JT2) (ora := []) (sums := []) (res := [JT1]) (ev := [.call 29 JT0 (.one JT1)]) (lev := []) Tryd.func47 (by kernel_rfl) (by kernel_rfl)
  (evs_of ⟨?_, trivial⟩) (by simp) (GsOk.nil _) hK hG
 ·(exact calls_eq hrun rfl)
 ·exact fadd_g Ts a b ha hb hr
theorem radd_g (Ts : TV) (a b : Nat) (ha : a < N) (hb : b < N) {r : Nat} (hr : r = (a + b) % Ed.P) : CallG Tryd.prog (LE Ts) 47 #[vN a, vN b] (vN r) :=
 callG_of Tryd.func47 (by kernel_rfl) (by kernel_rfl) (fun w hK hG => radd_run a b Ts ha hb r hr w hK hG)
theorem rsub_run (a : Nat) (b : Nat) (Ts : TV) (ha : a < N) (hb : b < N) (r : Nat) (hr : r = sb Ed.P a b) (w : World) (hK : (LE Ts).K ≤ w.heap.size) (hG : (LE Ts).G w) : Calls Tryd.prog 44 #[vN a, vN b] w fun e w' => e = .returned (vN r) ∧ Below w.heap.size w w' := by
 have hrun := calls_of_runG (P := Tryd.prog) (v := ⟨envI [lm a 0, lm a 1, lm a 2, lm a 3, lm b 0, lm b 1, lm b 2, lm b 3, lm r 0, lm r 1, lm r 2, lm r 3], envB [], envL [], envP [], LE Ts, w⟩) (gs := []) (fuel := 3000) (nv := 8) (args := JT2) (ora := []) (sums := []) (res := [JT1]) (ev := [.call 34 JT0 (.one JT1)]) (lev := []) Tryd.func44 (by kernel_rfl) (by kernel_rfl)
  (evs_of ⟨?_, trivial⟩) (by simp) (GsOk.nil _) hK hG
 ·(exact calls_eq hrun rfl)
 ·exact fsub_g Ts a b ha hb hr
theorem rsub_g (Ts : TV) (a b : Nat) (ha : a < N) (hb : b < N) {r : Nat} (hr : r = sb Ed.P a b) : CallG Tryd.prog (LE Ts) 44 #[vN a, vN b] (vN r) :=
 callG_of Tryd.func44 (by kernel_rfl) (by kernel_rfl) (fun w hK hG => rsub_run a b Ts ha hb r hr w hK hG)
theorem rmul_run (a : Nat) (b : Nat) (Ts : TV) (ha : a < N) (hb : b < N) (r : Nat) (hr : r = a * b % Ed.P) (w : World) (hK : (LE Ts).K ≤ w.heap.size) (hG : (LE Ts).G w) : Calls Tryd.prog 43 #[vN a, vN b] w fun e w' => e = .returned (vN r) ∧ Below w.heap.size w w' := by
 have hrun := calls_of_runG (P := Tryd.prog) (v := ⟨envI [lm a 0, lm a 1, lm a 2, lm a 3, lm b 0, lm b 1, lm b 2, lm b 3, lm r 0, lm r 1, lm r 2, lm r 3], envB [], envL [], envP [], LE Ts, w⟩) (gs := []) (fuel := 3000) (nv := 8) (args := JT2) (ora := []) (sums := []) (res := [JT1]) (ev := [.call 30 JT0 (.one JT1)]) (lev := []) Tryd.func43 (by kernel_rfl) (by kernel_rfl)
  (evs_of ⟨?_, trivial⟩) (by simp) (GsOk.nil _) hK hG
 ·(exact calls_eq hrun rfl)
 ·exact fmul_g Ts a b ha hb hr
theorem rmul_g (Ts : TV) (a b : Nat) (ha : a < N) (hb : b < N) {r : Nat} (hr : r = a * b % Ed.P) : CallG Tryd.prog (LE Ts) 43 #[vN a, vN b] (vN r) :=
 callG_of Tryd.func43 (by kernel_rfl) (by kernel_rfl) (fun w hK hG => rmul_run a b Ts ha hb r hr w hK hG)
end Go.Proofs.YtkckmpnkacdchaaDoor
