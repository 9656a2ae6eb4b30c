/- slices.Reverse at []byte, walked. -/
import Derived.Test.YtijnfclocanhkaaDoorSyB
import Derived.Sort.WalkB12
import Derived.Lib.SlicesMore
import Derived.Test.YtijnfclocanhkaaDoorChecked
set_option linter.unusedVariables false
set_option linter.unusedSimpArgs false
namespace Go.Proofs.YtijnfclocanhkaaDoor
open Go.RowKit Go.Sort Go.Sx

abbrev encB : Int → Value := fun x => Value.int .u8 x

set_option maxHeartbeats 1600000 in
set_option maxRecDepth 1000000 in
theorem reverse_arr (blk off cap : Nat) (d : Array Int) (w : World) (hH : Holds encB w blk off d) (hsz : d.size ≤ 9223372036854775807) :
    Calls Tryd.prog 39 #[.slice (some ⟨blk, off, none⟩) d.size cap] w fun e w' => e = .returned (.tuple #[]) ∧ ∃ n, w' = putRow encB (Sort.ahead w n) blk off d.reverse := by
  go_enter Tryd.func39, Tryd.ntmps39
  go_wp2
  go_loopg [2, 3] d.size (fun k s2 s3 wr => ∃ (i jn : Nat) (jz : Int) (dk : Array Int) (n : Nat), s2 = .int .i64 i ∧ s3 = .int .i64 jz ∧ ((i : Int) < jz → jz = jn ∧ jn < d.size) ∧ (¬ (i : Int) < jz → ¬ i < jn) ∧ jn - i ≤ k ∧
    dk.size = d.size ∧ wr = putRow encB (Sort.ahead w n) blk off dk ∧ reverseLoop i jn dk = reverseLoop 0 (d.size - 1) d)
  case atStart => exact ⟨0, d.size - 1, (d.size : Int) - 1, d, 0, rfl, rfl, fun h => ⟨by omega, by omega⟩, fun h => by omega, by omega, rfl, (putRow_self encB w blk off d hH).symm, rfl⟩
  case round =>
    obtain ⟨i, jn, jz, dk, n, rfl, rfl, h1, h2, hk, hds, hwr, heq⟩ := hrel
    by_cases hlt : (i : Int) < jz
    · obtain ⟨rfl, hjn⟩ := h1 hlt
      have hij : i < jn := by omega
      have hHk : Holds encB wr blk off dk := by rw [hwr]; exact holds_putRow encB _ blk off d dk (holds_ahead encB w n blk off d hH) hds
      obtain ⟨ci, fi⟩ := hHk i (by omega)
      obtain ⟨cj, fj⟩ := hHk jn (by omega)
      have A : Aside (wr = putRow encB (Sort.ahead w n) blk off dk) := hwr
      clear hwr hHk hH h1 h2
      go_wp2_with fail
      go_region
      go_wp2
      go_roundg (jn - 1 - (i + 1))
      case measure => omega
      case rel =>
        rw [reverseLoop, if_pos hij] at heq
        exact ⟨i + 1, jn - 1, (jn : Int) - 1, swp dk i jn, n + 1, by simp, rfl, fun h => ⟨by omega, by omega⟩, fun h => by omega, Nat.le_refl _, by rw [size_swp]; exact hds,
          swap_world encB (by omega) (by omega) A.out (by first | rfl | simp [encB, getElem!_pos, show jn < dk.size by omega]) (by first | rfl | simp [encB, getElem!_pos, show i < dk.size by omega]), heq⟩
    · have hnot := h2 hlt
      go_wp2
      go_end0
      refine ⟨rfl, n, ?_⟩
      rw [reverseLoop, if_neg hnot] at heq
      rw [← Lib.reverseLoop_reverse, ← heq]

set_option maxHeartbeats 1000000 in
theorem reverse_empty (a : Option Addr) (cap : Nat) (w : World) :
    Calls Tryd.prog 39 #[.slice a 0 cap] w fun e w' => e = .returned (.tuple #[]) ∧ w' = w := by
  go_enter Tryd.func39, Tryd.ntmps39
  go_wp2
  go_loopg [2, 3] 0 (fun _ s2 s3 wr => s2 = .int .i64 0 ∧ s3 = .int .i64 (-1) ∧ wr = w)
  case atStart => exact ⟨rfl, rfl, rfl⟩
  case round =>
    obtain ⟨rfl, rfl, rfl⟩ := hrel
    go_wp2
    go_end0
    exact ⟨rfl, rfl⟩

theorem mapBlock_row {w : World} {r : Nat} {cs : Array Value} {T : TypeId} {fz : Nat × Nat} (h : w.heap[r]? = some (.cells cs T fz)) (f : Array Value → Array Value) : mapBlock w r f = w.setRow r (f cs) := by
  have he : w.heap.modify r (onCells f) = w.heap.modify r (fun | .cells _ elem frozen => .cells (f cs) elem frozen | o => o) := by
    apply Array.ext_getElem?
    intro j
    rw [Array.getElem?_modify, Array.getElem?_modify]
    by_cases e : r = j
    · subst e
      rw [if_pos rfl, if_pos rfl, h]
      rfl
    · rw [if_neg e, if_neg e]
  have h2 : w.setRow r (f cs) = { w with heap := w.heap.modify r (fun | .cells _ elem frozen => .cells (f cs) elem frozen | o => o) } := rfl
  have h1 : mapBlock w r f = { w with heap := w.heap.modify r (onCells f) } := rfl
  rw [h1, h2, he]

theorem putCells_list (d : Array Int) (cs : Array Value) (h : d.size ≤ cs.size) : (Sort.putCells encB 0 d cs).toList = d.toList.map (Value.int .u8) ++ cs.toList.drop d.size := by
  apply List.ext_getElem?
  intro j
  unfold Sort.putCells
  simp only [Array.getElem?_toList, Array.getElem?_mapIdx, Nat.zero_le, true_and, Nat.zero_add, Nat.sub_zero, List.getElem?_append, List.length_map, Array.length_toList, List.getElem?_map, List.getElem?_drop]
  by_cases hj : j < d.size
  · rw [if_pos hj]
    have hc : j < cs.size := by omega
    simp [hj, hc]
  · rw [if_neg hj]
    rw [show d.size + (j - d.size) = j by omega]
    simp only [hj, if_false]
    cases cs[j]? <;> rfl

theorem reverser : Reverser Tryd.prog 39 := by
  intro w b c bs hc hm
  refine ⟨enter_of Tryd.func39 (by kernel_rfl) (by kernel_rfl), fun h0 => ?_, fun r cs T hb hw ht => ?_⟩
  · have : bs = [] := List.eq_nil_of_length_eq_zero (by omega)
    subst this
    exact (reverse_empty b c w).mono fun e w' ⟨h1, h2⟩ => ⟨h1, by rw [h2]; exact Below.refl _ _⟩
  · subst hb
    have hlen := congrArg List.length ht
    simp only [List.length_take, List.length_map, Array.length_toList] at hlen
    have hcell : ∀ j, (hj : j < bs.length) → w.cell? ⟨r, 0 + j, none⟩ = some (.int .u8 bs[j]) := by
      intro j hj
      have e : (cs.toList.take bs.length)[j]? = some (Value.int .u8 bs[j]) := by rw [ht]; simp [hj]
      rw [List.getElem?_take, if_pos hj] at e
      simp only [World.cell?, hw, Nat.zero_add]
      simpa using e
    have hH : Holds encB w r 0 bs.toArray := by
      intro j hj
      have hj' : j < bs.length := by simpa using hj
      refine ⟨by rw [hcell j hj']; simp [encB, hj'], frozen_of_row w r (0 + j) cs T hw⟩
    have hbig : bs.toArray.size ≤ 9223372036854775807 := by
      have : maxLen ≤ 9223372036854775807 := by decide
      simp only [List.size_toArray]; omega
    have hrun := reverse_arr r 0 c bs.toArray w hH hbig
    simp only [List.size_toArray] at hrun
    refine hrun.mono fun e w' ⟨h1, q, h2⟩ => ⟨h1, q, ?_⟩
    rw [h2]
    have hq : (Sort.ahead w q).heap[r]? = some (.cells cs T (0, 0)) := hw
    have e1 : putRow encB (Sort.ahead w q) r 0 bs.toArray.reverse = (Sort.ahead w q).setRow r (Sort.putCells encB 0 bs.toArray.reverse cs) := mapBlock_row hq _
    rw [e1]
    have e2 : Sort.putCells encB 0 bs.toArray.reverse cs = (bs.reverse.map (Value.int .u8) ++ cs.toList.drop bs.length).toArray := by
      apply Array.ext'
      rw [putCells_list _ _ (by simp; omega)]
      simp
    rw [e2]
    rfl
end Go.Proofs.YtijnfclocanhkaaDoor
