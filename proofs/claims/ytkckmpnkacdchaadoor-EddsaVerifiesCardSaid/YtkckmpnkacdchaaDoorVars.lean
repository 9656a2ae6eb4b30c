/- Package variables as they are laid: a world that holds them. -/
import Derived.Test.YtkckmpnkacdchaaDoorSyM3
set_option linter.unusedVariables false
set_option linter.unusedSimpArgs false
namespace Go.Sx
open Go Go.RowKit
def litCells (l : List Int) : Array Value := (l.map fun n => Value.int .u64 n).toArray
theorem litsIsV (v : Env) (p : Mp) : ∀ l : List Int, listIs v p (l.map fun n => .sc (.int .u64 (.lit n))) (l.map fun n => Value.int .u64 n)
 | [] => rfl
 | n :: l => ⟨_, _, rfl, rfl, litsIsV v p l⟩
def KV (l : List (Nat × List Int)) : Nat := l.foldr (fun x n => max (x.1 + 1) n) 0
theorem KV_mem : ∀ {l : List (Nat × List Int)} {x : Nat × List Int}, x ∈ l → x.1 < KV l
 | y :: l, x, h => by
  show x.1 < max (y.1 + 1) (KV l)
  rcases List.mem_cons.1 h with rfl | h
  ·omega
  ·have := KV_mem h
   omega
theorem KV_le : ∀ {l : List (Nat × List Int)} {n : Nat}, (∀ x ∈ l, x.1 < n) → KV l ≤ n
 | [], n, _ => Nat.zero_le n
 | y :: l, n, h => by
  show max (y.1 + 1) (KV l) ≤ n
  have h1 := h y (by simp)
  have h2 := KV_le (l := l) fun x hx => h x (by simp [hx])
  omega
def LV (ty : Nat → TypeId) (vs : List (Nat × List Int)) : Laid := ⟨KV vs, fun w => ∀ x ∈ vs, ∃ fz, w.heap[x.1]? = some (.cells (litCells x.2) (ty x.1) fz), fun _ _ h G x hx => by
 obtain ⟨fz, e⟩ := G x hx
 exact ⟨fz, by rw [h _ (KV_mem hx)]; exact e⟩⟩
abbrev gsV (ty : Nat → TypeId) (l : List (Nat × List Int)) : List (Nat × Blk) := l.map fun x => (x.1, ⟨ty x.1, x.2.map fun n => .sc (.int .u64 (.lit n)), false, false, false, none⟩)
theorem varsOkV (ty : Nat → TypeId) (vs l : List (Nat × List Int)) (hs : ∀ x ∈ l, x ∈ vs) (hn : (l.map (·.1)).Nodup) : GsOk (LV ty vs) (gsV ty l) := by
 refine ⟨?_, ?_, fun w hw x hx => ?_⟩
 ·rw [List.map_map]; exact hn
 ·intro x hx
  obtain ⟨y, hy, rfl⟩ := List.mem_map.1 hx
  exact ⟨rfl, rfl, rfl, KV_mem (hs y hy)⟩
 ·obtain ⟨y, hy, rfl⟩ := List.mem_map.1 hx
  obtain ⟨fz, e⟩ := hw y (hs y hy)
  refine ⟨litCells y.2, fz, e, fun v => ?_⟩
  show listIs v _ _ (litCells y.2).toList
  unfold litCells
  rw [List.toList_toArray]
  exact litsIsV v _ y.2
theorem callG_mono {P : Program} {L L' : Laid} {f : FuncId} {args : Array Value} {u : Value} (hk : L.K ≤ L'.K) (hg : ∀ w, L'.G w → L.G w) (h : CallG P L f args u) : CallG P L' f args u := fun w hK hG => h w (Nat.le_trans hk hK) (hg w hG)
theorem CallS.weak {P : Program} {L : Laid} {f : FuncId} {args args' : List SArg} {res : List SRes} (h : CallS P L f args res) (ha : ∀ w us, argsIs w args' us → argsIs w args us) : CallS P L f args' res := fun w us hK hG hu => h w us hK hG (ha w us hu)
theorem reads_nil (w : World) : Reads w (.slice none 0 0) [] := ⟨none, 0, rfl, Nat.le_refl _, Nat.zero_le _, .inl rfl⟩
end Go.Sx
