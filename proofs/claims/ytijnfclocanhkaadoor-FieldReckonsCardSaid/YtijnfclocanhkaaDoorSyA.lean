/- Small words about symbolic runs. -/
import Derived.Test.YtijnfclocanhkaaDoorSyF
set_option linter.unusedVariables false
set_option linter.unusedSimpArgs false
namespace Go.Sx
open Go Go.RowKit

def allHold (P : Program) (v : Env) : List Ev → Prop
  | [] => True
  | e :: l => e.holds P v ∧ allHold P v l

theorem evs_of {P : Program} {v : Env} : ∀ {l : List Ev}, allHold P v l → ∀ e ∈ l, e.holds P v
  | [], _ => by simp
  | e :: l, h => by
    intro e' he
    rcases List.mem_cons.1 he with rfl | he
    · exact h.1
    · exact evs_of h.2 e' he

/-- a contract out of another by equal values -/
theorem calls_eq {P : Program} {f : FuncId} {args : Array Value} {w : World} {u u' : Value} (h : Calls P f args w fun e w' => e = .returned u ∧ Below w.heap.size w w') (hu : u = u') :
    Calls P f args w fun e w' => e = .returned u' ∧ Below w.heap.size w w' := by rw [← hu]; exact h

/-! tests on numbers, by their values -/
section
variable {P : Program} {v : Env} {x y : I} {a b : Int}
theorem dec_le_t (hx : x.den v = a) (hy : y.den v = b) (h : a ≤ b) : (Ev.dec (.cmp .leq x y) true).holds P v := by show cmpD _ _ _ = true; rw [hx, hy]; exact decide_eq_true h
theorem dec_le_f (hx : x.den v = a) (hy : y.den v = b) (h : ¬ a ≤ b) : (Ev.dec (.cmp .leq x y) false).holds P v := by show cmpD _ _ _ = false; rw [hx, hy]; exact decide_eq_false h
theorem dec_lt_t (hx : x.den v = a) (hy : y.den v = b) (h : a < b) : (Ev.dec (.cmp .lss x y) true).holds P v := by show cmpD _ _ _ = true; rw [hx, hy]; exact decide_eq_true h
theorem dec_lt_f (hx : x.den v = a) (hy : y.den v = b) (h : ¬ a < b) : (Ev.dec (.cmp .lss x y) false).holds P v := by show cmpD _ _ _ = false; rw [hx, hy]; exact decide_eq_false h
theorem dec_ge_t (hx : x.den v = a) (hy : y.den v = b) (h : a ≥ b) : (Ev.dec (.cmp .geq x y) true).holds P v := by show cmpD _ _ _ = true; rw [hx, hy]; exact decide_eq_true h
theorem dec_ge_f (hx : x.den v = a) (hy : y.den v = b) (h : ¬ a ≥ b) : (Ev.dec (.cmp .geq x y) false).holds P v := by show cmpD _ _ _ = false; rw [hx, hy]; exact decide_eq_false h
theorem dec_gt_t (hx : x.den v = a) (hy : y.den v = b) (h : a > b) : (Ev.dec (.cmp .gtr x y) true).holds P v := by show cmpD _ _ _ = true; rw [hx, hy]; exact decide_eq_true h
theorem dec_gt_f (hx : x.den v = a) (hy : y.den v = b) (h : ¬ a > b) : (Ev.dec (.cmp .gtr x y) false).holds P v := by show cmpD _ _ _ = false; rw [hx, hy]; exact decide_eq_false h
theorem dec_eq_t (hx : x.den v = a) (hy : y.den v = b) (h : a = b) : (Ev.dec (.cmp .eql x y) true).holds P v := by show cmpD _ _ _ = true; rw [hx, hy]; exact beq_iff_eq.2 h
theorem dec_eq_f (hx : x.den v = a) (hy : y.den v = b) (h : ¬ a = b) : (Ev.dec (.cmp .eql x y) false).holds P v := by show cmpD _ _ _ = false; rw [hx, hy]; exact beq_eq_false_iff_ne.2 h
theorem dec_ne_t (hx : x.den v = a) (hy : y.den v = b) (h : ¬ a = b) : (Ev.dec (.cmp .neq x y) true).holds P v := by show cmpD _ _ _ = true; rw [hx, hy]; exact bne_iff_ne.2 h
theorem dec_ne_f (hx : x.den v = a) (hy : y.den v = b) (h : a = b) : (Ev.dec (.cmp .neq x y) false).holds P v := by show cmpD _ _ _ = false; rw [hx, hy, h]; exact bne_self_eq_false b
end

/-- a contract on slices out of another by equal answers -/
theorem runS_eq {P : Program} {f : FuncId} {us : Array Value} {B : Nat} {w : World} {res res' : List SRes} (h : Calls P f us w fun e w' => ∃ vs, e = .returned (retOf vs) ∧ resIs B w' res vs ∧ Below B w w') (e : res = res') :
    Calls P f us w fun e w' => ∃ vs, e = .returned (retOf vs) ∧ resIs B w' res' vs ∧ Below B w w' := by rw [← e]; exact h
theorem callS_eq {P : Program} {L : Laid} {f : FuncId} {args args' : List SArg} {res res' : List SRes} (h : CallS P L f args res) (e : res = res') (e2 : args = args' := by rfl) : CallS P L f args' res' := by rw [← e, ← e2]; exact h

end Go.Sx
