/- Loops whose head changes on the way. -/
import Derived.Test.YtdbfhipnhnhkjaaDoorVars
set_option linter.unusedVariables false
set_option linter.unusedSimpArgs false
namespace Go.Sx
open Go Go.RowKit

theorem loop_roundsH {P : Program} {body : Code} {pre post : Fm} {ex : Ex} {n : Nat} {v : Env} (head : Nat → Fm) (u : Nat → Env) {r0 r1 : List (Option Nat)} (start : Fm.to v (u 0) r0 pre (head 0)) (round : ∀ k, k < n → Round P body (head k) (u k) .normal (head (k + 1)) (u (k + 1)))
    (u' : Env) (last : Round P body (head n) (u n) ex post u') (fin : Fm.to u' v r1 post post) (hex : ex ≠ .normal) : LEv.holds P v ⟨body, pre, post, ex⟩ := by
  intro a w p hr
  have key : ∀ m k, k + m = n → ∀ a w p, RelP (u k) (head k).sig a w p → Code.rounds P body (fun e a' w' => e = ex.to ∧ ∃ q, RelP v post.sig a' w' q) (m + 1) a w := by
    intro m
    induction m with
    | zero =>
      intro k hk a w p hr
      rw [rounds_succ]
      have : k = n := by omega
      subst this
      refine round_wp last hr fun a' w' q hr' => ?_
      have hpost := to_rel fin hr'
      cases ex with
      | normal => exact absurd rfl hex
      | exit id => exact ⟨rfl, _, hpost⟩
      | ret => exact ⟨rfl, _, hpost⟩
    | succ m ih =>
      intro k hk a w p hr
      rw [rounds_succ]
      exact round_wp (round k (by omega)) hr fun a' w' q hr' => ih (k + 1) (by omega) a' w' q hr'
  exact wp_loop_rounds (n + 1) (key n 0 (by omega) a w _ (to_rel start hr))
end Go.Sx
