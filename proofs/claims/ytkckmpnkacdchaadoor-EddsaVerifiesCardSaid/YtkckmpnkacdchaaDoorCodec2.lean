/- Numbers out of bytes, run. -/
import Derived.Test.YtkckmpnkacdchaaDoorCodec1
set_option linter.unusedVariables false
set_option linter.unusedSimpArgs false
set_option maxHeartbeats 4000000
namespace Go.Proofs.YtkckmpnkacdchaaDoor
open Go.RowKit Go.Num Go.Sx
abbrev JJ0 : I := .bit .or .u64 (.bit .or .u64 (.bit .or .u64 (.bit .or .u64 (.bit .or .u64 (.bit .or .u64 (.bit .or .u64 (.bit .or .u64 (.lit 0) (.shl .u64 (.conv .u64 (.get (.lvar 0) (.lit 24))) (.lit 0))) (.shl .u64 (.conv .u64 (.get (.lvar 0) (.lit 25))) (.lit 8))) (.shl .u64 (.conv .u64 (.get (.lvar 0) (.lit 26))) (.lit 16))) (.shl .u64 (.conv .u64 (.get (.lvar 0) (.lit 27))) (.lit 24))) (.shl .u64 (.conv .u64 (.get (.lvar 0) (.lit 28))) (.lit 32))) (.shl .u64 (.conv .u64 (.get (.lvar 0) (.lit 29))) (.lit 40))) (.shl .u64 (.conv .u64 (.get (.lvar 0) (.lit 30))) (.lit 48))) (.shl .u64 (.conv .u64 (.get (.lvar 0) (.lit 31))) (.lit 56))
abbrev JJ1 : I := .bit .or .u64 (.bit .or .u64 (.bit .or .u64 (.bit .or .u64 (.bit .or .u64 (.bit .or .u64 (.bit .or .u64 (.bit .or .u64 (.lit 0) (.shl .u64 (.conv .u64 (.get (.lvar 0) (.lit 16))) (.lit 0))) (.shl .u64 (.conv .u64 (.get (.lvar 0) (.lit 17))) (.lit 8))) (.shl .u64 (.conv .u64 (.get (.lvar 0) (.lit 18))) (.lit 16))) (.shl .u64 (.conv .u64 (.get (.lvar 0) (.lit 19))) (.lit 24))) (.shl .u64 (.conv .u64 (.get (.lvar 0) (.lit 20))) (.lit 32))) (.shl .u64 (.conv .u64 (.get (.lvar 0) (.lit 21))) (.lit 40))) (.shl .u64 (.conv .u64 (.get (.lvar 0) (.lit 22))) (.lit 48))) (.shl .u64 (.conv .u64 (.get (.lvar 0) (.lit 23))) (.lit 56))
abbrev JJ2 : I := .bit .or .u64 (.bit .or .u64 (.bit .or .u64 (.bit .or .u64 (.bit .or .u64 (.bit .or .u64 (.bit .or .u64 (.bit .or .u64 (.lit 0) (.shl .u64 (.conv .u64 (.get (.lvar 0) (.lit 8))) (.lit 0))) (.shl .u64 (.conv .u64 (.get (.lvar 0) (.lit 9))) (.lit 8))) (.shl .u64 (.conv .u64 (.get (.lvar 0) (.lit 10))) (.lit 16))) (.shl .u64 (.conv .u64 (.get (.lvar 0) (.lit 11))) (.lit 24))) (.shl .u64 (.conv .u64 (.get (.lvar 0) (.lit 12))) (.lit 32))) (.shl .u64 (.conv .u64 (.get (.lvar 0) (.lit 13))) (.lit 40))) (.shl .u64 (.conv .u64 (.get (.lvar 0) (.lit 14))) (.lit 48))) (.shl .u64 (.conv .u64 (.get (.lvar 0) (.lit 15))) (.lit 56))
abbrev JJ3 : I := .bit .or .u64 (.bit .or .u64 (.bit .or .u64 (.bit .or .u64 (.bit .or .u64 (.bit .or .u64 (.bit .or .u64 (.bit .or .u64 (.lit 0) (.shl .u64 (.conv .u64 (.get (.lvar 0) (.lit 0))) (.lit 0))) (.shl .u64 (.conv .u64 (.get (.lvar 0) (.lit 1))) (.lit 8))) (.shl .u64 (.conv .u64 (.get (.lvar 0) (.lit 2))) (.lit 16))) (.shl .u64 (.conv .u64 (.get (.lvar 0) (.lit 3))) (.lit 24))) (.shl .u64 (.conv .u64 (.get (.lvar 0) (.lit 4))) (.lit 32))) (.shl .u64 (.conv .u64 (.get (.lvar 0) (.lit 5))) (.lit 40))) (.shl .u64 (.conv .u64 (.get (.lvar 0) (.lit 6))) (.lit 48))) (.shl .u64 (.conv .u64 (.get (.lvar 0) (.lit 7))) (.lit 56))
abbrev JJ4 : A := .sc (.bool (.lit false))
abbrev JJ5 : A := .sc (.int .i64 (.var 2))
abbrev JJ6 : A := .sc (.int .i64 (.len (.lvar 0)))
abbrev JJ7 : A := .sc (.bool (.lit true))
abbrev JJ8 : Bx := .cmp .lss (.var 2) (.len (.lvar 0))
abbrev JJ9 : Bx := .cmp .lss (.lit 7) (.len (.lvar 0))
abbrev JJ10 : Bx := .cmp .lss (.lit 6) (.len (.lvar 0))
abbrev JJ11 : Bx := .cmp .lss (.lit 5) (.len (.lvar 0))
abbrev JJ12 : Bx := .cmp .lss (.lit 4) (.len (.lvar 0))
abbrev JJ13 : Bx := .cmp .lss (.lit 3) (.len (.lvar 0))
abbrev JJ14 : Bx := .cmp .lss (.lit 2) (.len (.lvar 0))
abbrev JJ15 : Bx := .cmp .lss (.lit 1) (.len (.lvar 0))
abbrev JJ16 : Bx := .cmp .lss (.lit 0) (.len (.lvar 0))
abbrev JJ17 : A := .sc (.int .i64 (.len (.lvar 1)))
abbrev JJ18 : I := .get (.lvar 1) (.var 2)
abbrev JJ19 : I := .get (.lvar 0) (.var 2)
abbrev JJ20 : Bx := .cmp .neq (.len (.lvar 0)) (.lit 64)
abbrev JJ21 : Bx := .cmp .neq (.len (.lvar 0)) (.lit 32)
abbrev JJ22 : Bx := .cmp .lss (.lit 31) (.len (.lvar 0))
abbrev JJ23 : Bx := .cmp .lss (.lit 30) (.len (.lvar 0))
abbrev JJ24 : Bx := .cmp .lss (.lit 29) (.len (.lvar 0))
abbrev JJ25 : Bx := .cmp .lss (.lit 28) (.len (.lvar 0))
abbrev JJ26 : Bx := .cmp .lss (.lit 27) (.len (.lvar 0))
abbrev JJ27 : Bx := .cmp .lss (.lit 26) (.len (.lvar 0))
abbrev JJ28 : Bx := .cmp .lss (.lit 25) (.len (.lvar 0))
abbrev JJ29 : Bx := .cmp .lss (.lit 24) (.len (.lvar 0))
abbrev JJ30 : Bx := .cmp .lss (.lit 23) (.len (.lvar 0))
abbrev JJ31 : Bx := .cmp .lss (.lit 22) (.len (.lvar 0))
abbrev JJ32 : Bx := .cmp .lss (.lit 21) (.len (.lvar 0))
abbrev JJ33 : Bx := .cmp .lss (.lit 20) (.len (.lvar 0))
abbrev JJ34 : Bx := .cmp .lss (.lit 19) (.len (.lvar 0))
abbrev JJ35 : Bx := .cmp .lss (.lit 18) (.len (.lvar 0))
abbrev JJ36 : Bx := .cmp .lss (.lit 17) (.len (.lvar 0))
abbrev JJ37 : Bx := .cmp .lss (.lit 16) (.len (.lvar 0))
abbrev JJ38 : Bx := .cmp .lss (.lit 15) (.len (.lvar 0))
abbrev JJ39 : Bx := .cmp .lss (.lit 14) (.len (.lvar 0))
abbrev JJ40 : Bx := .cmp .lss (.lit 13) (.len (.lvar 0))
abbrev JJ41 : Bx := .cmp .lss (.lit 12) (.len (.lvar 0))
abbrev JJ42 : Bx := .cmp .lss (.lit 11) (.len (.lvar 0))
abbrev JJ43 : Bx := .cmp .lss (.lit 10) (.len (.lvar 0))
abbrev JJ44 : Bx := .cmp .lss (.lit 9) (.len (.lvar 0))
abbrev JJ45 : Bx := .cmp .lss (.lit 8) (.len (.lvar 0))
abbrev JJ46 : Bx := .cmp .neq (.len (.lvar 0)) (.len (.lvar 1))
abbrev JJ47 : Bx := .cmp .leq (.lit 0) (.var 2)
abbrev JJ48 : Bx := .cmp .lss (.lit 32) (.len (.lvar 0))
abbrev JJ49 : A := .agg [.n 0, .n 0, .n 0, .n 0, .n 0, .n 0, .n 0, .n 0]
abbrev JJ50 : A := .sc (.int .i64 (.add .i64 (.var 2) (.lit 1)))
theorem dec_ixCodec2 {P : Program} {v : Env} {k : Int} {x : I} {l : List Int} (h : x.ldn v = l) (hk : k < ((l.length : Nat) : Int)) : (Ev.dec (.cmp .lss (.lit k) (.len x)) true).holds P v := dec_lt_t rfl (show ((x.ldn v).length : Int) = _ by rw [h]) hk
theorem arr8 {a0 b0 a1 b1 a2 b2 a3 b3 a4 b4 a5 b5 a6 b6 a7 b7 : Value} (h0 : a0 = b0) (h1 : a1 = b1) (h2 : a2 = b2) (h3 : a3 = b3) (h4 : a4 = b4) (h5 : a5 = b5) (h6 : a6 = b6) (h7 : a7 = b7) : (#[a0, a1, a2, a3, a4, a5, a6, a7] : Array Value) = #[b0, b1, b2, b3, b4, b5, b6, b7] := by
 subst h0 h1 h2 h3 h4 h5 h6 h7
 rfl
theorem arr4 {a0 b0 a1 b1 a2 b2 a3 b3 : Value} (h0 : a0 = b0) (h1 : a1 = b1) (h2 : a2 = b2) (h3 : a3 = b3) : (#[a0, a1, a2, a3] : Array Value) = #[b0, b1, b2, b3] := by
 subst h0 h1 h2 h3
 rfl
theorem clone_s (l : List Int) (hl : l.length ≤ 1099511627776) {r : List Int} (hr : r = l) : CallS Tryd.prog L0 62 [.bytes l] [.fresh 5 r 0 r.length true] := by
 subst hr
 refine callS_of Tryd.func62 (by kernel_rfl) (by kernel_rfl) (fun w us hK hG ha => ?_)
 obtain ⟨u0, _, rfl, hu0, rfl⟩ := ha
 cases hn : Value.isNil u0 with
 | false =>
  have hrun := calls_of_runS (P := Tryd.prog) (v := ⟨envI [], envB [], envL [r], envP [], L0, w⟩) (gs := []) (fuel := 3000) (nv := 1) (args := [.imm (.lvar 0) (some (.lit false))]) (ora := []) (sums := []) (r := ⟨[(.fresh 5 (.lvar 0) (.lit 0) (.len (.lvar 0)) true)], [.dec (.cmp .leq (.len (.lvar 0)) (.lit 1099511627776)) true], []⟩) Tryd.func62 (by kernel_rfl)
   (evs_of ⟨dec_le_t (a := r.length) (b := 1099511627776) rfl rfl (by omega), trivial⟩) (by simp) (GsOk.nil _) hK hG _ (⟨u0, _, rfl, ⟨hu0, fun b hb => by cases hb; exact hn⟩, rfl⟩)
  exact runS_eq hrun rfl
 | true =>
  have h0 : r = [] := by
   obtain ⟨b, c, rfl, h1, h2, h3⟩ := hu0
   cases b with
   | some a => simp [Value.isNil] at hn
   | none =>
    rcases h3 with h3 | ⟨_, _, h3, _⟩
    ·exact List.eq_nil_of_length_eq_zero (by omega)
    ·cases h3
  have hrun := calls_of_runS (P := Tryd.prog) (v := ⟨envI [], envB [], envL [r], envP [], L0, w⟩) (gs := []) (fuel := 3000) (nv := 1) (args := [.imm (.lvar 0) (some (.lit true))]) (ora := []) (sums := []) (r := ⟨[(.fresh 5 .nil (.lit 0) (.lit 0) true)], [], []⟩) Tryd.func62 (by kernel_rfl)
   (by simp) (by simp) (GsOk.nil _) hK hG _ (⟨u0, _, rfl, ⟨hu0, fun b hb => by cases hb; exact hn⟩, rfl⟩)
  subst h0
  exact runS_eq hrun rfl
abbrev same_env (w : World) (l : List Int) (m : List Int) (i : Int) : Env := ⟨envI [0, 0, i], envB [], envL [l, m], envP [], L0, w⟩
abbrev same_head : Fm := ⟨[(.one (.imm (.lvar 0) none)), (.one (.imm (.lvar 1) none)), .undef, .undef, (.one JJ4), (.one JJ5), (.one (.imm (.lvar 0) none)), (.one JJ6), (.one (.imm (.lvar 1) none)), (.one JJ17), (.one JJ4), .undef, .undef, .undef, .undef, .undef, .undef, .undef, .undef, .undef, .undef, .undef, .undef, .undef, .undef, .undef], [], []⟩
abbrev same_pre : Fm := ⟨[(.one (.imm (.lvar 0) none)), (.one (.imm (.lvar 1) none)), .undef, .undef, (.one JJ4), (.one (.sc (.int .i64 (.lit 0)))), (.one (.imm (.lvar 0) none)), (.one JJ6), (.one (.imm (.lvar 1) none)), (.one JJ17), (.one JJ4), .undef, .undef, .undef, .undef, .undef, .undef, .undef, .undef, .undef, .undef, .undef, .undef, .undef, .undef, .undef], [], []⟩
theorem same_more (w : World) (l : List Int) (m : List Int)  (i : Int) (h0 : 0 ≤ i) (h1 : i < l.length) (hm : l.length = m.length) (hl : l.length ≤ 1099511627776) (he : l.getD i.toNat 0 = m.getD i.toNat 0) : Round Tryd.prog (loopOf Tryd.f12 0) same_head (same_env w l m i) .normal same_head (same_env w l m (i + 1)) := by
 refine Round.mk (⟨envI [0, 0, i], envB [], envL [l, m], envP [], L0, w⟩) [] [] 3000 3 [some true, some false] [] ⟨⟨[(.one (.imm (.lvar 0) none)), (.one (.imm (.lvar 1) none)), .undef, .undef, (.one JJ4), (.one JJ50), (.one (.imm (.lvar 0) none)), (.one JJ6), (.one (.imm (.lvar 1) none)), (.one JJ17), (.one JJ4), (.one JJ5), (.one (.imm (.lvar 0) none)), (.one JJ6), (.one JJ7), (.one JJ5), (.one JJ50), (.one (.imm (.lvar 0) none)), (.one JJ5), (.one (.immp JJ19)), (.one (.sc (.int .u8 JJ19))), (.one (.imm (.lvar 1) none)), (.one JJ5), (.one (.immp JJ18)), (.one (.sc (.int .u8 JJ18))), (.one JJ4)], [], []⟩, 3, [], [], [.dec JJ8 true, .dec JJ47 true, .dec JJ8 true, .dec JJ47 true, .dec (.cmp .lss (.var 2) (.len (.lvar 1))) true, .dec (.cmp .neq JJ19 JJ18) false], []⟩ (by (refine ⟨?_, ?_, rfl, by decide, rfl, rfl⟩ <;> (repeat' (first | exact trivial | with_reducible rfl | apply And.intro | (show rn _ _ _; exact rfl) | (intro h; first | exact rfl | exact h) | simp only [I.den, I.ldn, Bx.den, envI, envB, envL, envP, List.getD_cons_succ, List.getD_cons_zero, List.getD_nil] | exact rfl)))) (by kernel_rfl) ⟨evs_of ⟨?_, ?_, ?_, ?_, ?_, ?_, trivial⟩, by simp⟩ ?_
 ·exact dec_lt_t (a := i) (b := l.length) rfl rfl (by omega)
 ·exact dec_le_t (a := 0) (b := i) rfl rfl (by omega)
 ·exact dec_lt_t (a := i) (b := l.length) rfl rfl (by omega)
 ·exact dec_le_t (a := 0) (b := i) rfl rfl (by omega)
 ·exact dec_lt_t (a := i) (b := m.length) rfl rfl (by omega)
 ·exact dec_ne_f (a := (l.getD (i).toNat 0)) (b := (m.getD (i).toNat 0)) rfl rfl (by omega)
 ·(refine ⟨?_, ?_, rfl, by decide, rfl, rfl⟩ <;> (repeat' (first | exact trivial | with_reducible rfl | apply And.intro | (show rn _ _ _; exact rfl) | (intro h; first | exact rfl | exact h) | simp only [I.den, I.ldn, Bx.den, envI, envB, envL, envP, List.getD_cons_succ, List.getD_cons_zero, List.getD_nil] | exact rfl)))
  all_goals (rw [IntKind.wrap_i64]; omega)
theorem same_diff (w : World) (l : List Int) (m : List Int)  (i : Int) (h0 : 0 ≤ i) (h1 : i < l.length) (hm : l.length = m.length) (he : ¬ l.getD i.toNat 0 = m.getD i.toNat 0) : Round Tryd.prog (loopOf Tryd.f12 0) same_head (same_env w l m i) .ret same_head (same_env w l m i) := by
 refine Round.mk (⟨envI [0, 0, i], envB [], envL [l, m], envP [], L0, w⟩) [] [] 3000 3 [some true, some true] [] ⟨⟨[(.one (.imm (.lvar 0) none)), (.one (.imm (.lvar 1) none)), .undef, .undef, (.one JJ4), (.one JJ5), (.one (.imm (.lvar 0) none)), (.one JJ6), (.one (.imm (.lvar 1) none)), (.one JJ17), (.one JJ4), (.one JJ5), (.one (.imm (.lvar 0) none)), (.one JJ6), (.one JJ7), .undef, .undef, (.one (.imm (.lvar 0) none)), (.one JJ5), (.one (.immp JJ19)), (.one (.sc (.int .u8 JJ19))), (.one (.imm (.lvar 1) none)), (.one JJ5), (.one (.immp JJ18)), (.one (.sc (.int .u8 JJ18))), (.one JJ7)], [], []⟩, 3, [], [], [.dec JJ8 true, .dec JJ47 true, .dec JJ8 true, .dec JJ47 true, .dec (.cmp .lss (.var 2) (.len (.lvar 1))) true, .dec (.cmp .neq JJ19 JJ18) true], []⟩ (by (refine ⟨?_, ?_, rfl, by decide, rfl, rfl⟩ <;> (repeat' (first | exact trivial | with_reducible rfl | apply And.intro | (show rn _ _ _; exact rfl) | (intro h; first | exact rfl | exact h) | simp only [I.den, I.ldn, Bx.den, envI, envB, envL, envP, List.getD_cons_succ, List.getD_cons_zero, List.getD_nil] | exact rfl)))) (by kernel_rfl) ⟨evs_of ⟨?_, ?_, ?_, ?_, ?_, ?_, trivial⟩, by simp⟩ ?_
 ·exact dec_lt_t (a := i) (b := l.length) rfl rfl (by omega)
 ·exact dec_le_t (a := 0) (b := i) rfl rfl (by omega)
 ·exact dec_lt_t (a := i) (b := l.length) rfl rfl (by omega)
 ·exact dec_le_t (a := 0) (b := i) rfl rfl (by omega)
 ·exact dec_lt_t (a := i) (b := m.length) rfl rfl (by omega)
 ·exact dec_ne_t (a := (l.getD (i).toNat 0)) (b := (m.getD (i).toNat 0)) rfl rfl (by omega)
 ·(refine ⟨?_, ?_, rfl, by decide, rfl, rfl⟩ <;> (repeat' (first | exact trivial | with_reducible rfl | apply And.intro | (show rn _ _ _; exact rfl) | (intro h; first | exact rfl | exact h) | simp only [I.den, I.ldn, Bx.den, envI, envB, envL, envP, List.getD_cons_succ, List.getD_cons_zero, List.getD_nil] | exact rfl)))
theorem same_last (w : World) (l : List Int) (m : List Int)  (i : Int) (h0 : (l.length : Int) ≤ i) : Round Tryd.prog (loopOf Tryd.f12 0) same_head (same_env w l m i) (.exit 0) same_head (same_env w l m i) := by
 refine Round.mk (⟨envI [0, 0, i], envB [], envL [l, m], envP [], L0, w⟩) [] [] 3000 3 [some false] [] ⟨⟨[(.one (.imm (.lvar 0) none)), (.one (.imm (.lvar 1) none)), .undef, .undef, (.one JJ4), (.one JJ5), (.one (.imm (.lvar 0) none)), (.one JJ6), (.one (.imm (.lvar 1) none)), (.one JJ17), (.one JJ4), (.one JJ5), (.one (.imm (.lvar 0) none)), (.one JJ6), (.one JJ4), .undef, .undef, .undef, .undef, .undef, .undef, .undef, .undef, .undef, .undef, .undef], [], []⟩, 3, [], [], [.dec JJ8 false], []⟩ (by (refine ⟨?_, ?_, rfl, by decide, rfl, rfl⟩ <;> (repeat' (first | exact trivial | with_reducible rfl | apply And.intro | (show rn _ _ _; exact rfl) | (intro h; first | exact rfl | exact h) | simp only [I.den, I.ldn, Bx.den, envI, envB, envL, envP, List.getD_cons_succ, List.getD_cons_zero, List.getD_nil] | exact rfl)))) (by kernel_rfl) ⟨evs_of ⟨?_, trivial⟩, by simp⟩ ?_
 ·exact dec_lt_f (a := i) (b := l.length) rfl rfl (by omega)
 ·(refine ⟨?_, ?_, rfl, by decide, rfl, rfl⟩ <;> (repeat' (first | exact trivial | with_reducible rfl | apply And.intro | (show rn _ _ _; exact rfl) | (intro h; first | exact rfl | exact h) | simp only [I.den, I.ldn, Bx.den, envI, envB, envL, envP, List.getD_cons_succ, List.getD_cons_zero, List.getD_nil] | exact rfl)))
theorem same_rounds_eq (w : World) (l m : List Int) (hm : l = m) (hl : l.length ≤ 1099511627776) (v : Env) {r0 r1 : List (Option Nat)} (start : Fm.to v (same_env w l m 0) r0 same_pre same_head) (fin : Fm.to (same_env w l m ((l.length : Nat) : Int)) v r1 same_head same_head) :
  LEv.holds Tryd.prog v ⟨loopOf Tryd.f12 0, same_pre, same_head, (.exit 0)⟩ := by
 subst hm
 refine loop_rounds (r0 := r0) (n := l.length) (head := same_head) (fun k => same_env w l l (k : Int)) start ?_ (same_env w l l ((l.length : Nat) : Int)) ?_ fin (by decide)
 ·intro k hk
  exact same_more w l l (k : Int) (by omega) (by omega) rfl hl rfl
 ·exact same_last w l l _ (by omega)
theorem same_rounds_ne (w : World) (l m : List Int) (hm : l.length = m.length) (hl : l.length ≤ 1099511627776) (j : Nat) (hj : j < l.length) (he : ∀ i, i < j → l.getD i 0 = m.getD i 0) (hne : l.getD j 0 ≠ m.getD j 0) (v : Env) {r0 r1 : List (Option Nat)} (start : Fm.to v (same_env w l m 0) r0 same_pre same_head) (fin : Fm.to (same_env w l m (j : Int)) v r1 same_head same_head) :
  LEv.holds Tryd.prog v ⟨loopOf Tryd.f12 0, same_pre, same_head, .ret⟩ := by
 refine loop_rounds (r0 := r0) (n := j) (head := same_head) (fun k => same_env w l m (k : Int)) start ?_ (same_env w l m (j : Int)) ?_ fin (by decide)
 ·intro k hk
  exact same_more w l m (k : Int) (by omega) (by omega) hm hl (by rw [Int.toNat_natCast]; exact he k hk)
 ·exact same_diff w l m (j : Int) (by omega) (by omega) hm (by rw [Int.toNat_natCast]; exact hne)
theorem same_len (l : List Int) (m : List Int) (hm : ¬ l.length = m.length) : CallS Tryd.prog (L0) 12 [.bytes l, .bytes m] [.val (.bool false)] := by
 refine callS_of Tryd.func12 (by kernel_rfl) (by kernel_rfl) (fun w us hK hG ha => ?_)
 obtain ⟨u0, _, rfl, hu0, u1, _, rfl, hu1, rfl⟩ := ha
 have hrun := calls_of_runS (P := Tryd.prog) (v := ⟨envI [], envB [], envL [l, m], envP [], L0, w⟩) (gs := []) (fuel := 3000) (nv := 2) (args := [(.imm (.lvar 0) none), (.imm (.lvar 1) none)]) (ora := [some true]) (sums := []) (r := ⟨[(.val JJ4)], [.dec JJ46 true], []⟩) Tryd.func12 (by kernel_rfl)
  (evs_of ⟨?_, trivial⟩) (by simp) (GsOk.nil _) hK hG _ (⟨u0, _, rfl, ⟨hu0, fun b hb => by cases hb⟩, u1, _, rfl, ⟨hu1, fun b hb => by cases hb⟩, rfl⟩)
 ·exact runS_eq hrun (by rfl)
 ·exact dec_ne_t (a := l.length) (b := m.length) rfl rfl (by omega)
theorem same_eq (l : List Int) (m : List Int) (hm : l = m) (hl : l.length ≤ 1099511627776) : CallS Tryd.prog (L0) 12 [.bytes l, .bytes m] [.val (.bool true)] := by
 refine callS_of Tryd.func12 (by kernel_rfl) (by kernel_rfl) (fun w us hK hG ha => ?_)
 obtain ⟨u0, _, rfl, hu0, u1, _, rfl, hu1, rfl⟩ := ha
 have hlm : l.length = m.length := by rw [hm]
 have hrun := calls_of_runS (P := Tryd.prog) (v := ⟨envI [0, 0, ((l.length : Nat) : Int)], envB [], envL [l, m], envP [], L0, w⟩) (gs := []) (fuel := 3000) (nv := 2) (args := [(.imm (.lvar 0) none), (.imm (.lvar 1) none)]) (ora := [some false]) (sums := [some ⟨[(5, (.one JJ5))], [], 3, (.exit 0)⟩]) (r := ⟨[(.val JJ7)], [.dec JJ46 false], [⟨loopOf Tryd.f12 0, same_pre, same_head, (.exit 0)⟩]⟩) Tryd.func12 (by kernel_rfl)
  (evs_of ⟨?_, trivial⟩) (levs_of ⟨?_, trivial⟩) (GsOk.nil _) hK hG _ (⟨u0, _, rfl, ⟨hu0, fun b hb => by cases hb⟩, u1, _, rfl, ⟨hu1, fun b hb => by cases hb⟩, rfl⟩)
 ·exact runS_eq hrun (by rfl)
 ·exact dec_ne_f (a := l.length) (b := m.length) rfl rfl (by omega)
 ·(refine same_rounds_eq w l m hm hl _ (r0 := []) (r1 := []) ?_ ?_ <;> (refine ⟨?_, ?_, rfl, by decide, rfl, rfl⟩ <;> (repeat' (first | exact trivial | with_reducible rfl | apply And.intro | (show rn _ _ _; exact rfl) | (intro h; first | exact rfl | exact h) | simp only [I.den, I.ldn, Bx.den, envI, envB, envL, envP, List.getD_cons_succ, List.getD_cons_zero, List.getD_nil] | exact rfl))))
theorem same_ne (l : List Int) (m : List Int) (hm : l.length = m.length) (hl : l.length ≤ 1099511627776) (j : Nat) (hj : j < l.length) (he : ∀ i, i < j → l.getD i 0 = m.getD i 0) (hne : l.getD j 0 ≠ m.getD j 0) : CallS Tryd.prog (L0) 12 [.bytes l, .bytes m] [.val (.bool false)] := by
 refine callS_of Tryd.func12 (by kernel_rfl) (by kernel_rfl) (fun w us hK hG ha => ?_)
 obtain ⟨u0, _, rfl, hu0, u1, _, rfl, hu1, rfl⟩ := ha
 have hrun := calls_of_runS (P := Tryd.prog) (v := ⟨envI [0, 0, (j : Int)], envB [], envL [l, m], envP [], L0, w⟩) (gs := []) (fuel := 3000) (nv := 2) (args := [(.imm (.lvar 0) none), (.imm (.lvar 1) none)]) (ora := [some false]) (sums := [some ⟨[(5, (.one JJ5))], [], 3, .ret⟩]) (r := ⟨[(.val JJ4)], [.dec JJ46 false], [⟨loopOf Tryd.f12 0, same_pre, same_head, .ret⟩]⟩) Tryd.func12 (by kernel_rfl)
  (evs_of ⟨?_, trivial⟩) (levs_of ⟨?_, trivial⟩) (GsOk.nil _) hK hG _ (⟨u0, _, rfl, ⟨hu0, fun b hb => by cases hb⟩, u1, _, rfl, ⟨hu1, fun b hb => by cases hb⟩, rfl⟩)
 ·exact runS_eq hrun (by rfl)
 ·exact dec_ne_f (a := l.length) (b := m.length) rfl rfl (by omega)
 ·(refine same_rounds_ne w l m hm hl j hj he hne _ (r0 := []) (r1 := []) ?_ ?_ <;> (refine ⟨?_, ?_, rfl, by decide, rfl, rfl⟩ <;> (repeat' (first | exact trivial | with_reducible rfl | apply And.intro | (show rn _ _ _; exact rfl) | (intro h; first | exact rfl | exact h) | simp only [I.den, I.ldn, Bx.den, envI, envB, envL, envP, List.getD_cons_succ, List.getD_cons_zero, List.getD_nil] | exact rfl))))
theorem same_s (l m : List Int) (hl : l.length ≤ 1099511627776) {k : Bool} (hk : k = decide (l = m)) : CallS Tryd.prog L0 12 [.bytes l, .bytes m] [.val (.bool k)] := by
 by_cases hlen : l.length = m.length
 ·by_cases e : l = m
  ·rw [hk, decide_eq_true e]; exact same_eq l m e hl
  ·obtain ⟨j, h1, h2, h3⟩ := first_diff hlen e
   rw [hk, decide_eq_false e]; exact same_ne l m hlen hl j h1 h2 h3
 ·rw [hk, decide_eq_false (fun e => hlen (by rw [e]))]; exact same_len l m hlen
theorem little_yes (l : List Int) (h : l.length = 32) (hb : IsBytes l) {r : Nat} (hr : r = leN l) : CallS Tryd.prog (L0) 32 [.bytes l] [.val (.agg #[.int .u64 (lm r 0), .int .u64 (lm r 1), .int .u64 (lm r 2), .int .u64 (lm r 3)]), .val (.bool true)] := by
 refine callS_of Tryd.func32 (by kernel_rfl) (by kernel_rfl) (fun w us hK hG ha => ?_)
 obtain ⟨u0, _, rfl, hu0, rfl⟩ := ha
 have hj0 : lm r 0 = leN ((l.drop (8 * 0)).take 8) := by rw [hr]; exact leN_limb4 h hb 0 (by decide)
 have hj1 : lm r 1 = leN ((l.drop (8 * 1)).take 8) := by rw [hr]; exact leN_limb4 h hb 1 (by decide)
 have hj2 : lm r 2 = leN ((l.drop (8 * 2)).take 8) := by rw [hr]; exact leN_limb4 h hb 2 (by decide)
 have hj3 : lm r 3 = leN ((l.drop (8 * 3)).take 8) := by rw [hr]; exact leN_limb4 h hb 3 (by decide)
 have hrun := calls_of_runS (P := Tryd.prog) (v := ⟨envI [], envB [], envL [l], envP [], L0, w⟩) (gs := []) (fuel := 3000) (nv := 1) (args := [(.imm (.lvar 0) none)]) (ora := [some false, some true, some true, some true, some true, some true, some true, some true, some true, some true, some true, some true, some true, some true, some true, some true, some true, some true, some true, some true, some true, some true, some true, some true, some true, some true, some true, some true, some true, some true, some true, some true, some true, some false]) (sums := []) (r := ⟨[(.val (.agg [.int .u64 JJ3, .int .u64 JJ2, .int .u64 JJ1, .int .u64 JJ0])), (.val JJ7)], [.dec JJ21 false, .dec JJ16 true, .dec JJ16 true, .dec JJ15 true, .dec JJ15 true, .dec JJ14 true, .dec JJ14 true, .dec JJ13 true, .dec JJ13 true, .dec JJ12 true, .dec JJ12 true, .dec JJ11 true, .dec JJ11 true, .dec JJ10 true, .dec JJ10 true, .dec JJ9 true, .dec JJ9 true, .dec JJ45 true, .dec JJ45 true, .dec JJ44 true, .dec JJ44 true, .dec JJ43 true, .dec JJ43 true, .dec JJ42 true, .dec JJ42 true, .dec JJ41 true, .dec JJ41 true, .dec JJ40 true, .dec JJ40 true, .dec JJ39 true, .dec JJ39 true, .dec JJ38 true, .dec JJ38 true, .dec JJ37 true, .dec JJ37 true, .dec JJ36 true, .dec JJ36 true, .dec JJ35 true, .dec JJ35 true, .dec JJ34 true, .dec JJ34 true, .dec JJ33 true, .dec JJ33 true, .dec JJ32 true, .dec JJ32 true, .dec JJ31 true, .dec JJ31 true, .dec JJ30 true, .dec JJ30 true, .dec JJ29 true, .dec JJ29 true, .dec JJ28 true, .dec JJ28 true, .dec JJ27 true, .dec JJ27 true, .dec JJ26 true, .dec JJ26 true, .dec JJ25 true, .dec JJ25 true, .dec JJ24 true, .dec JJ24 true, .dec JJ23 true, .dec JJ23 true, .dec JJ22 true, .dec JJ22 true, .dec JJ48 false], []⟩) Tryd.func32 (by kernel_rfl)
  (evs_of ⟨?_, ?_, ?_, ?_, ?_, ?_, ?_, ?_, ?_, ?_, ?_, ?_, ?_, ?_, ?_, ?_, ?_, ?_, ?_, ?_, ?_, ?_, ?_, ?_, ?_, ?_, ?_, ?_, ?_, ?_, ?_, ?_, ?_, ?_, ?_, ?_, ?_, ?_, ?_, ?_, ?_, ?_, ?_, ?_, ?_, ?_, ?_, ?_, ?_, ?_, ?_, ?_, ?_, ?_, ?_, ?_, ?_, ?_, ?_, ?_, ?_, ?_, ?_, ?_, ?_, ?_, trivial⟩) (by simp) (GsOk.nil _) hK hG _ (⟨u0, _, rfl, ⟨hu0, fun b hb => by cases hb⟩, rfl⟩)
 ·exact runS_eq hrun (by (refine congrArg (fun z => [SRes.val (.agg z), .val (.bool true)]) ?_; exact arr4 (congrArg (Value.int .u64) (limb_at hb 0 (by omega) rfl rfl rfl rfl rfl rfl rfl rfl hj0)) (congrArg (Value.int .u64) (limb_at hb 1 (by omega) rfl rfl rfl rfl rfl rfl rfl rfl hj1)) (congrArg (Value.int .u64) (limb_at hb 2 (by omega) rfl rfl rfl rfl rfl rfl rfl rfl hj2)) (congrArg (Value.int .u64) (limb_at hb 3 (by omega) rfl rfl rfl rfl rfl rfl rfl rfl hj3))))
 ·exact dec_ne_f (a := l.length) (b := 32) rfl rfl (by omega)
 iterate 64 (exact dec_ixCodec2 (l := l) rfl (by omega))
 ·exact dec_lt_f (a := 32) (b := l.length) rfl rfl (by omega)
theorem little_no (l : List Int) (h : ¬ l.length = 32) : CallS Tryd.prog (L0) 32 [.bytes l] [.val (.agg #[.int .u64 (lm 0 0), .int .u64 (lm 0 1), .int .u64 (lm 0 2), .int .u64 (lm 0 3)]), .val (.bool false)] := by
 refine callS_of Tryd.func32 (by kernel_rfl) (by kernel_rfl) (fun w us hK hG ha => ?_)
 obtain ⟨u0, _, rfl, hu0, rfl⟩ := ha
 have hrun := calls_of_runS (P := Tryd.prog) (v := ⟨envI [], envB [], envL [l], envP [], L0, w⟩) (gs := []) (fuel := 3000) (nv := 1) (args := [(.imm (.lvar 0) none)]) (ora := [some true]) (sums := []) (r := ⟨[(.val (.agg [.n 0, .n 0, .n 0, .n 0])), (.val JJ4)], [.dec JJ21 true], []⟩) Tryd.func32 (by kernel_rfl)
  (evs_of ⟨?_, trivial⟩) (by simp) (GsOk.nil _) hK hG _ (⟨u0, _, rfl, ⟨hu0, fun b hb => by cases hb⟩, rfl⟩)
 ·exact runS_eq hrun (by kernel_rfl)
 ·exact dec_ne_t (a := l.length) (b := 32) rfl rfl (by omega)
theorem little_s (l : List Int) (hb : IsBytes l) {r : Nat} {k : Bool} (hr : r = if l.length = 32 then leN l else 0) (hk : k = decide (l.length = 32)) : CallS Tryd.prog L0 32 [.bytes l] [.val (.agg #[.int .u64 (lm r 0), .int .u64 (lm r 1), .int .u64 (lm r 2), .int .u64 (lm r 3)]), .val (.bool k)] := by
 by_cases h : l.length = 32
 ·rw [if_pos h] at hr
  rw [hk, decide_eq_true h]
  exact little_yes l h hb hr
 ·rw [if_neg h] at hr
  rw [hk, decide_eq_false h, hr]
  exact little_no l h
theorem wide_yes (l : List Int) (h : l.length = 64) (hb : IsBytes l) {r : Nat} (hr : r = leN l) : CallS Tryd.prog (L0) 55 [.bytes l] [.val (.agg #[.int .u64 (lm r 0), .int .u64 (lm r 1), .int .u64 (lm r 2), .int .u64 (lm r 3), .int .u64 (lm r 4), .int .u64 (lm r 5), .int .u64 (lm r 6), .int .u64 (lm r 7)]), .val (.bool true)] := by
 refine callS_of Tryd.func55 (by kernel_rfl) (by kernel_rfl) (fun w us hK hG ha => ?_)
 obtain ⟨u0, _, rfl, hu0, rfl⟩ := ha
 have hj0 : lm r 0 = leN ((l.drop (8 * 0)).take 8) := by rw [hr]; exact leN_limb8 h hb 0 (by decide)
 have hj1 : lm r 1 = leN ((l.drop (8 * 1)).take 8) := by rw [hr]; exact leN_limb8 h hb 1 (by decide)
 have hj2 : lm r 2 = leN ((l.drop (8 * 2)).take 8) := by rw [hr]; exact leN_limb8 h hb 2 (by decide)
 have hj3 : lm r 3 = leN ((l.drop (8 * 3)).take 8) := by rw [hr]; exact leN_limb8 h hb 3 (by decide)
 have hj4 : lm r 4 = leN ((l.drop (8 * 4)).take 8) := by rw [hr]; exact leN_limb8 h hb 4 (by decide)
 have hj5 : lm r 5 = leN ((l.drop (8 * 5)).take 8) := by rw [hr]; exact leN_limb8 h hb 5 (by decide)
 have hj6 : lm r 6 = leN ((l.drop (8 * 6)).take 8) := by rw [hr]; exact leN_limb8 h hb 6 (by decide)
 have hj7 : lm r 7 = leN ((l.drop (8 * 7)).take 8) := by rw [hr]; exact leN_limb8 h hb 7 (by decide)
 have hrun := calls_of_runS (P := Tryd.prog) (v := ⟨envI [], envB [], envL [l], envP [], L0, w⟩) (gs := []) (fuel := 3000) (nv := 1) (args := [(.imm (.lvar 0) none)]) (ora := [some false, some true, some true, some true, some true, some true, some true, some true, some true, some true, some true, some true, some true, some true, some true, some true, some true, some true, some true, some true, some true, some true, some true, some true, some true, some true, some true, some true, some true, some true, some true, some true, some true, some true, some true, some true, some true, some true, some true, some true, some true, some true, some true, some true, some true, some true, some true, some true, some true, some true, some true, some true, some true, some true, some true, some true, some true, some true, some true, some true, some true, some true, some true, some true, some true, some false]) (sums := []) (r := ⟨[(.val (.agg [.int .u64 JJ3, .int .u64 JJ2, .int .u64 JJ1, .int .u64 JJ0, .int .u64 (.bit .or .u64 (.bit .or .u64 (.bit .or .u64 (.bit .or .u64 (.bit .or .u64 (.bit .or .u64 (.bit .or .u64 (.bit .or .u64 (.lit 0) (.shl .u64 (.conv .u64 (.get (.lvar 0) (.lit 32))) (.lit 0))) (.shl .u64 (.conv .u64 (.get (.lvar 0) (.lit 33))) (.lit 8))) (.shl .u64 (.conv .u64 (.get (.lvar 0) (.lit 34))) (.lit 16))) (.shl .u64 (.conv .u64 (.get (.lvar 0) (.lit 35))) (.lit 24))) (.shl .u64 (.conv .u64 (.get (.lvar 0) (.lit 36))) (.lit 32))) (.shl .u64 (.conv .u64 (.get (.lvar 0) (.lit 37))) (.lit 40))) (.shl .u64 (.conv .u64 (.get (.lvar 0) (.lit 38))) (.lit 48))) (.shl .u64 (.conv .u64 (.get (.lvar 0) (.lit 39))) (.lit 56))), .int .u64 (.bit .or .u64 (.bit .or .u64 (.bit .or .u64 (.bit .or .u64 (.bit .or .u64 (.bit .or .u64 (.bit .or .u64 (.bit .or .u64 (.lit 0) (.shl .u64 (.conv .u64 (.get (.lvar 0) (.lit 40))) (.lit 0))) (.shl .u64 (.conv .u64 (.get (.lvar 0) (.lit 41))) (.lit 8))) (.shl .u64 (.conv .u64 (.get (.lvar 0) (.lit 42))) (.lit 16))) (.shl .u64 (.conv .u64 (.get (.lvar 0) (.lit 43))) (.lit 24))) (.shl .u64 (.conv .u64 (.get (.lvar 0) (.lit 44))) (.lit 32))) (.shl .u64 (.conv .u64 (.get (.lvar 0) (.lit 45))) (.lit 40))) (.shl .u64 (.conv .u64 (.get (.lvar 0) (.lit 46))) (.lit 48))) (.shl .u64 (.conv .u64 (.get (.lvar 0) (.lit 47))) (.lit 56))), .int .u64 (.bit .or .u64 (.bit .or .u64 (.bit .or .u64 (.bit .or .u64 (.bit .or .u64 (.bit .or .u64 (.bit .or .u64 (.bit .or .u64 (.lit 0) (.shl .u64 (.conv .u64 (.get (.lvar 0) (.lit 48))) (.lit 0))) (.shl .u64 (.conv .u64 (.get (.lvar 0) (.lit 49))) (.lit 8))) (.shl .u64 (.conv .u64 (.get (.lvar 0) (.lit 50))) (.lit 16))) (.shl .u64 (.conv .u64 (.get (.lvar 0) (.lit 51))) (.lit 24))) (.shl .u64 (.conv .u64 (.get (.lvar 0) (.lit 52))) (.lit 32))) (.shl .u64 (.conv .u64 (.get (.lvar 0) (.lit 53))) (.lit 40))) (.shl .u64 (.conv .u64 (.get (.lvar 0) (.lit 54))) (.lit 48))) (.shl .u64 (.conv .u64 (.get (.lvar 0) (.lit 55))) (.lit 56))), .int .u64 (.bit .or .u64 (.bit .or .u64 (.bit .or .u64 (.bit .or .u64 (.bit .or .u64 (.bit .or .u64 (.bit .or .u64 (.bit .or .u64 (.lit 0) (.shl .u64 (.conv .u64 (.get (.lvar 0) (.lit 56))) (.lit 0))) (.shl .u64 (.conv .u64 (.get (.lvar 0) (.lit 57))) (.lit 8))) (.shl .u64 (.conv .u64 (.get (.lvar 0) (.lit 58))) (.lit 16))) (.shl .u64 (.conv .u64 (.get (.lvar 0) (.lit 59))) (.lit 24))) (.shl .u64 (.conv .u64 (.get (.lvar 0) (.lit 60))) (.lit 32))) (.shl .u64 (.conv .u64 (.get (.lvar 0) (.lit 61))) (.lit 40))) (.shl .u64 (.conv .u64 (.get (.lvar 0) (.lit 62))) (.lit 48))) (.shl .u64 (.conv .u64 (.get (.lvar 0) (.lit 63))) (.lit 56)))])), (.val JJ7)], [.dec JJ20 false, .dec JJ16 true, .dec JJ16 true, .dec JJ15 true, .dec JJ15 true, .dec JJ14 true, .dec JJ14 true, .dec JJ13 true, .dec JJ13 true, .dec JJ12 true, .dec JJ12 true, .dec JJ11 true, .dec JJ11 true, .dec JJ10 true, .dec JJ10 true, .dec JJ9 true, .dec JJ9 true, .dec JJ45 true, .dec JJ45 true, .dec JJ44 true, .dec JJ44 true, .dec JJ43 true, .dec JJ43 true, .dec JJ42 true, .dec JJ42 true, .dec JJ41 true, .dec JJ41 true, .dec JJ40 true, .dec JJ40 true, .dec JJ39 true, .dec JJ39 true, .dec JJ38 true, .dec JJ38 true, .dec JJ37 true, .dec JJ37 true, .dec JJ36 true, .dec JJ36 true, .dec JJ35 true, .dec JJ35 true, .dec JJ34 true, .dec JJ34 true, .dec JJ33 true, .dec JJ33 true, .dec JJ32 true, .dec JJ32 true, .dec JJ31 true, .dec JJ31 true, .dec JJ30 true, .dec JJ30 true, .dec JJ29 true, .dec JJ29 true, .dec JJ28 true, .dec JJ28 true, .dec JJ27 true, .dec JJ27 true, .dec JJ26 true, .dec JJ26 true, .dec JJ25 true, .dec JJ25 true, .dec JJ24 true, .dec JJ24 true, .dec JJ23 true, .dec JJ23 true, .dec JJ22 true, .dec JJ22 true, .dec JJ48 true, .dec JJ48 true, .dec (.cmp .lss (.lit 33) (.len (.lvar 0))) true, .dec (.cmp .lss (.lit 33) (.len (.lvar 0))) true, .dec (.cmp .lss (.lit 34) (.len (.lvar 0))) true, .dec (.cmp .lss (.lit 34) (.len (.lvar 0))) true, .dec (.cmp .lss (.lit 35) (.len (.lvar 0))) true, .dec (.cmp .lss (.lit 35) (.len (.lvar 0))) true, .dec (.cmp .lss (.lit 36) (.len (.lvar 0))) true, .dec (.cmp .lss (.lit 36) (.len (.lvar 0))) true, .dec (.cmp .lss (.lit 37) (.len (.lvar 0))) true, .dec (.cmp .lss (.lit 37) (.len (.lvar 0))) true, .dec (.cmp .lss (.lit 38) (.len (.lvar 0))) true, .dec (.cmp .lss (.lit 38) (.len (.lvar 0))) true, .dec (.cmp .lss (.lit 39) (.len (.lvar 0))) true, .dec (.cmp .lss (.lit 39) (.len (.lvar 0))) true, .dec (.cmp .lss (.lit 40) (.len (.lvar 0))) true, .dec (.cmp .lss (.lit 40) (.len (.lvar 0))) true, .dec (.cmp .lss (.lit 41) (.len (.lvar 0))) true, .dec (.cmp .lss (.lit 41) (.len (.lvar 0))) true, .dec (.cmp .lss (.lit 42) (.len (.lvar 0))) true, .dec (.cmp .lss (.lit 42) (.len (.lvar 0))) true, .dec (.cmp .lss (.lit 43) (.len (.lvar 0))) true, .dec (.cmp .lss (.lit 43) (.len (.lvar 0))) true, .dec (.cmp .lss (.lit 44) (.len (.lvar 0))) true, .dec (.cmp .lss (.lit 44) (.len (.lvar 0))) true, .dec (.cmp .lss (.lit 45) (.len (.lvar 0))) true, .dec (.cmp .lss (.lit 45) (.len (.lvar 0))) true, .dec (.cmp .lss (.lit 46) (.len (.lvar 0))) true, .dec (.cmp .lss (.lit 46) (.len (.lvar 0))) true, .dec (.cmp .lss (.lit 47) (.len (.lvar 0))) true, .dec (.cmp .lss (.lit 47) (.len (.lvar 0))) true, .dec (.cmp .lss (.lit 48) (.len (.lvar 0))) true, .dec (.cmp .lss (.lit 48) (.len (.lvar 0))) true, .dec (.cmp .lss (.lit 49) (.len (.lvar 0))) true, .dec (.cmp .lss (.lit 49) (.len (.lvar 0))) true, .dec (.cmp .lss (.lit 50) (.len (.lvar 0))) true, .dec (.cmp .lss (.lit 50) (.len (.lvar 0))) true, .dec (.cmp .lss (.lit 51) (.len (.lvar 0))) true, .dec (.cmp .lss (.lit 51) (.len (.lvar 0))) true, .dec (.cmp .lss (.lit 52) (.len (.lvar 0))) true, .dec (.cmp .lss (.lit 52) (.len (.lvar 0))) true, .dec (.cmp .lss (.lit 53) (.len (.lvar 0))) true, .dec (.cmp .lss (.lit 53) (.len (.lvar 0))) true, .dec (.cmp .lss (.lit 54) (.len (.lvar 0))) true, .dec (.cmp .lss (.lit 54) (.len (.lvar 0))) true, .dec (.cmp .lss (.lit 55) (.len (.lvar 0))) true, .dec (.cmp .lss (.lit 55) (.len (.lvar 0))) true, .dec (.cmp .lss (.lit 56) (.len (.lvar 0))) true, .dec (.cmp .lss (.lit 56) (.len (.lvar 0))) true, .dec (.cmp .lss (.lit 57) (.len (.lvar 0))) true, .dec (.cmp .lss (.lit 57) (.len (.lvar 0))) true, .dec (.cmp .lss (.lit 58) (.len (.lvar 0))) true, .dec (.cmp .lss (.lit 58) (.len (.lvar 0))) true, .dec (.cmp .lss (.lit 59) (.len (.lvar 0))) true, .dec (.cmp .lss (.lit 59) (.len (.lvar 0))) true, .dec (.cmp .lss (.lit 60) (.len (.lvar 0))) true, .dec (.cmp .lss (.lit 60) (.len (.lvar 0))) true, .dec (.cmp .lss (.lit 61) (.len (.lvar 0))) true, .dec (.cmp .lss (.lit 61) (.len (.lvar 0))) true, .dec (.cmp .lss (.lit 62) (.len (.lvar 0))) true, .dec (.cmp .lss (.lit 62) (.len (.lvar 0))) true, .dec (.cmp .lss (.lit 63) (.len (.lvar 0))) true, .dec (.cmp .lss (.lit 63) (.len (.lvar 0))) true, .dec (.cmp .lss (.lit 64) (.len (.lvar 0))) false], []⟩) Tryd.func55 (by kernel_rfl)
  (evs_of ⟨?_, ?_, ?_, ?_, ?_, ?_, ?_, ?_, ?_, ?_, ?_, ?_, ?_, ?_, ?_, ?_, ?_, ?_, ?_, ?_, ?_, ?_, ?_, ?_, ?_, ?_, ?_, ?_, ?_, ?_, ?_, ?_, ?_, ?_, ?_, ?_, ?_, ?_, ?_, ?_, ?_, ?_, ?_, ?_, ?_, ?_, ?_, ?_, ?_, ?_, ?_, ?_, ?_, ?_, ?_, ?_, ?_, ?_, ?_, ?_, ?_, ?_, ?_, ?_, ?_, ?_, ?_, ?_, ?_, ?_, ?_, ?_, ?_, ?_, ?_, ?_, ?_, ?_, ?_, ?_, ?_, ?_, ?_, ?_, ?_, ?_, ?_, ?_, ?_, ?_, ?_, ?_, ?_, ?_, ?_, ?_, ?_, ?_, ?_, ?_, ?_, ?_, ?_, ?_, ?_, ?_, ?_, ?_, ?_, ?_, ?_, ?_, ?_, ?_, ?_, ?_, ?_, ?_, ?_, ?_, ?_, ?_, ?_, ?_, ?_, ?_, ?_, ?_, ?_, ?_, trivial⟩) (by simp) (GsOk.nil _) hK hG _ (⟨u0, _, rfl, ⟨hu0, fun b hb => by cases hb⟩, rfl⟩)
 ·exact runS_eq hrun (by (refine congrArg (fun z => [SRes.val (.agg z), .val (.bool true)]) ?_; exact arr8 (congrArg (Value.int .u64) (limb_at hb 0 (by omega) rfl rfl rfl rfl rfl rfl rfl rfl hj0)) (congrArg (Value.int .u64) (limb_at hb 1 (by omega) rfl rfl rfl rfl rfl rfl rfl rfl hj1)) (congrArg (Value.int .u64) (limb_at hb 2 (by omega) rfl rfl rfl rfl rfl rfl rfl rfl hj2)) (congrArg (Value.int .u64) (limb_at hb 3 (by omega) rfl rfl rfl rfl rfl rfl rfl rfl hj3)) (congrArg (Value.int .u64) (limb_at hb 4 (by omega) rfl rfl rfl rfl rfl rfl rfl rfl hj4)) (congrArg (Value.int .u64) (limb_at hb 5 (by omega) rfl rfl rfl rfl rfl rfl rfl rfl hj5)) (congrArg (Value.int .u64) (limb_at hb 6 (by omega) rfl rfl rfl rfl rfl rfl rfl rfl hj6)) (congrArg (Value.int .u64) (limb_at hb 7 (by omega) rfl rfl rfl rfl rfl rfl rfl rfl hj7))))
 ·exact dec_ne_f (a := l.length) (b := 64) rfl rfl (by omega)
 iterate 128 (exact dec_ixCodec2 (l := l) rfl (by omega))
 ·exact dec_lt_f (a := 64) (b := l.length) rfl rfl (by omega)
theorem wide_no (l : List Int) (h : ¬ l.length = 64) : CallS Tryd.prog (L0) 55 [.bytes l] [.val (.agg #[.int .u64 (lm 0 0), .int .u64 (lm 0 1), .int .u64 (lm 0 2), .int .u64 (lm 0 3), .int .u64 (lm 0 4), .int .u64 (lm 0 5), .int .u64 (lm 0 6), .int .u64 (lm 0 7)]), .val (.bool false)] := by
 refine callS_of Tryd.func55 (by kernel_rfl) (by kernel_rfl) (fun w us hK hG ha => ?_)
 obtain ⟨u0, _, rfl, hu0, rfl⟩ := ha
 have hrun := calls_of_runS (P := Tryd.prog) (v := ⟨envI [], envB [], envL [l], envP [], L0, w⟩) (gs := []) (fuel := 3000) (nv := 1) (args := [(.imm (.lvar 0) none)]) (ora := [some true]) (sums := []) (r := ⟨[(.val JJ49), (.val JJ4)], [.dec JJ20 true], []⟩) Tryd.func55 (by kernel_rfl)
  (evs_of ⟨?_, trivial⟩) (by simp) (GsOk.nil _) hK hG _ (⟨u0, _, rfl, ⟨hu0, fun b hb => by cases hb⟩, rfl⟩)
 ·exact runS_eq hrun (by kernel_rfl)
 ·exact dec_ne_t (a := l.length) (b := 64) rfl rfl (by omega)
theorem wide_s (l : List Int) (hb : IsBytes l) {r : Nat} {k : Bool} (hr : r = if l.length = 64 then leN l else 0) (hk : k = decide (l.length = 64)) : CallS Tryd.prog L0 55 [.bytes l] [.val (.agg #[.int .u64 (lm r 0), .int .u64 (lm r 1), .int .u64 (lm r 2), .int .u64 (lm r 3), .int .u64 (lm r 4), .int .u64 (lm r 5), .int .u64 (lm r 6), .int .u64 (lm r 7)]), .val (.bool k)] := by
 by_cases h : l.length = 64
 ·rw [if_pos h] at hr
  rw [hk, decide_eq_true h]
  exact wide_yes l h hb hr
 ·rw [if_neg h] at hr
  rw [hk, decide_eq_false h, hr]
  exact wide_no l h
theorem eight_s (l : List Int) (hb : IsBytes l) (h : l.length = 8) {r : Nat} (hr : r = leN l) : CallS Tryd.prog (L0) 36 [.bytes l] [.val (.int .u64 (r : Nat))] := by
 refine callS_of Tryd.func36 (by kernel_rfl) (by kernel_rfl) (fun w us hK hG ha => ?_)
 obtain ⟨u0, _, rfl, hu0, rfl⟩ := ha
 have hrun := calls_of_runS (P := Tryd.prog) (v := ⟨envI [], envB [], envL [l], envP [], L0, w⟩) (gs := []) (fuel := 3000) (nv := 1) (args := [(.imm (.lvar 0) none)]) (ora := []) (sums := []) (r := ⟨[(.val (.sc (.int .u64 (.add .u64 (.mul .u64 (.add .u64 (.mul .u64 (.add .u64 (.mul .u64 (.add .u64 (.mul .u64 (.add .u64 (.mul .u64 (.add .u64 (.mul .u64 (.add .u64 (.mul .u64 (.add .u64 (.lit 0) (.conv .u64 (.get (.lvar 0) (.lit 7)))) (.lit 256)) (.conv .u64 (.get (.lvar 0) (.lit 6)))) (.lit 256)) (.conv .u64 (.get (.lvar 0) (.lit 5)))) (.lit 256)) (.conv .u64 (.get (.lvar 0) (.lit 4)))) (.lit 256)) (.conv .u64 (.get (.lvar 0) (.lit 3)))) (.lit 256)) (.conv .u64 (.get (.lvar 0) (.lit 2)))) (.lit 256)) (.conv .u64 (.get (.lvar 0) (.lit 1)))) (.lit 256)) (.conv .u64 (.get (.lvar 0) (.lit 0)))))))], [.dec JJ9 true, .dec JJ10 true, .dec JJ11 true, .dec JJ12 true, .dec JJ13 true, .dec JJ14 true, .dec JJ15 true, .dec JJ16 true], []⟩) Tryd.func36 (by kernel_rfl)
  (evs_of ⟨?_, ?_, ?_, ?_, ?_, ?_, ?_, ?_, trivial⟩) (by simp) (GsOk.nil _) hK hG _ (⟨u0, _, rfl, ⟨hu0, fun b hb => by cases hb⟩, rfl⟩)
 ·exact runS_eq hrun (by (refine congrArg (fun z => [SRes.val (Value.int .u64 z)]) ?_; exact eight_eq hb h rfl rfl rfl rfl rfl rfl rfl rfl hr))
 iterate 8 (exact dec_ixCodec2 (l := l) rfl (by omega))
theorem rlittle_yes (l : List Int) (h : l.length = 32) (hb : IsBytes l) {r : Nat} (hr : r = leN l) : CallS Tryd.prog (L0) 13 [.bytes l] [.val (.agg #[.int .u64 (lm r 0), .int .u64 (lm r 1), .int .u64 (lm r 2), .int .u64 (lm r 3)]), .val (.bool true)] := by
 refine callS_of Tryd.func13 (by kernel_rfl) (by kernel_rfl) (fun w us hK hG ha => ?_)
 obtain ⟨u0, _, rfl, hu0, rfl⟩ := ha
 obtain ⟨r1, hr1⟩ : ∃ r : Nat, r = leN ((l.drop ((0 : Int)).toNat).take ((8 : Int)).toNat) := ⟨_, rfl⟩
 obtain ⟨r2, hr2⟩ : ∃ r : Nat, r = leN ((l.drop ((8 : Int)).toNat).take ((8 : Int)).toNat) := ⟨_, rfl⟩
 obtain ⟨r3, hr3⟩ : ∃ r : Nat, r = leN ((l.drop ((16 : Int)).toNat).take ((8 : Int)).toNat) := ⟨_, rfl⟩
 obtain ⟨r4, hr4⟩ : ∃ r : Nat, r = leN ((l.drop ((24 : Int)).toNat).take ((8 : Int)).toNat) := ⟨_, rfl⟩
 have hj0 : lm r 0 = r1 := by rw [hr, hr1]; exact leN_limb4 h hb 0 (by decide)
 have hj1 : lm r 1 = r2 := by rw [hr, hr2]; exact leN_limb4 h hb 1 (by decide)
 have hj2 : lm r 2 = r3 := by rw [hr, hr3]; exact leN_limb4 h hb 2 (by decide)
 have hj3 : lm r 3 = r4 := by rw [hr, hr4]; exact leN_limb4 h hb 3 (by decide)
 have hrun := calls_of_runS (P := Tryd.prog) (v := ⟨envI [0, ((r1 : Nat) : Int), ((r2 : Nat) : Int), ((r3 : Nat) : Int), ((r4 : Nat) : Int)], envB [], envL [l], envP [], L0, w⟩) (gs := []) (fuel := 3000) (nv := 1) (args := [(.imm (.lvar 0) none)]) (ora := [some false]) (sums := []) (r := ⟨[(.val (.agg [.v 1, .v 2, .v 3, .v 4])), (.val JJ7)], [.dec JJ21 false, .dec (.cmp .leq (.lit 8) (.len (.lvar 0))) true, .callS 36 [(.bytes (.part (.lvar 0) (.lit 0) (.lit 8)))] [(.val (.sc (.v 1)))], .dec (.cmp .leq (.lit 16) (.len (.lvar 0))) true, .callS 36 [(.bytes (.part (.lvar 0) (.lit 8) (.lit 8)))] [(.val (.sc (.v 2)))], .dec (.cmp .leq (.lit 24) (.len (.lvar 0))) true, .callS 36 [(.bytes (.part (.lvar 0) (.lit 16) (.lit 8)))] [(.val (.sc (.v 3)))], .dec (.cmp .leq (.lit 32) (.len (.lvar 0))) true, .callS 36 [(.bytes (.part (.lvar 0) (.lit 24) (.lit 8)))] [(.val (.sc (.v 4)))]], []⟩) Tryd.func13 (by kernel_rfl)
  (evs_of ⟨?_, ?_, ?_, ?_, ?_, ?_, ?_, ?_, ?_, trivial⟩) (by simp) (GsOk.nil _) hK hG _ (⟨u0, _, rfl, ⟨hu0, fun b hb => by cases hb⟩, rfl⟩)
 ·exact runS_eq hrun (by (refine congrArg (fun z => [SRes.val (.agg z), .val (.bool true)]) ?_; exact arr4 (congrArg (fun (z : Nat) => Value.int .u64 (z : Int)) hj0.symm) (congrArg (fun (z : Nat) => Value.int .u64 (z : Int)) hj1.symm) (congrArg (fun (z : Nat) => Value.int .u64 (z : Int)) hj2.symm) (congrArg (fun (z : Nat) => Value.int .u64 (z : Int)) hj3.symm)))
 ·exact dec_ne_f (a := l.length) (b := 32) rfl rfl (by omega)
 ·exact dec_le_t (a := 8) (b := l.length) rfl rfl (by omega)
 ·exact CallS.g (eight_s ((l.drop ((0 : Int)).toNat).take ((8 : Int)).toNat) ((hb.drop _).take _) (by simp; omega) hr1)
 ·exact dec_le_t (a := 16) (b := l.length) rfl rfl (by omega)
 ·exact CallS.g (eight_s ((l.drop ((8 : Int)).toNat).take ((8 : Int)).toNat) ((hb.drop _).take _) (by simp; omega) hr2)
 ·exact dec_le_t (a := 24) (b := l.length) rfl rfl (by omega)
 ·exact CallS.g (eight_s ((l.drop ((16 : Int)).toNat).take ((8 : Int)).toNat) ((hb.drop _).take _) (by simp; omega) hr3)
 ·exact dec_le_t (a := 32) (b := l.length) rfl rfl (by omega)
 ·exact CallS.g (eight_s ((l.drop ((24 : Int)).toNat).take ((8 : Int)).toNat) ((hb.drop _).take _) (by simp; omega) hr4)
theorem rlittle_no (l : List Int) (h : ¬ l.length = 32) : CallS Tryd.prog (L0) 13 [.bytes l] [.val (.agg #[.int .u64 (lm 0 0), .int .u64 (lm 0 1), .int .u64 (lm 0 2), .int .u64 (lm 0 3)]), .val (.bool false)] := by
 refine callS_of Tryd.func13 (by kernel_rfl) (by kernel_rfl) (fun w us hK hG ha => ?_)
 obtain ⟨u0, _, rfl, hu0, rfl⟩ := ha
 have hrun := calls_of_runS (P := Tryd.prog) (v := ⟨envI [], envB [], envL [l], envP [], L0, w⟩) (gs := []) (fuel := 3000) (nv := 1) (args := [(.imm (.lvar 0) none)]) (ora := [some true]) (sums := []) (r := ⟨[(.val (.agg [.n 0, .n 0, .n 0, .n 0])), (.val JJ4)], [.dec JJ21 true], []⟩) Tryd.func13 (by kernel_rfl)
  (evs_of ⟨?_, trivial⟩) (by simp) (GsOk.nil _) hK hG _ (⟨u0, _, rfl, ⟨hu0, fun b hb => by cases hb⟩, rfl⟩)
 ·exact runS_eq hrun (by kernel_rfl)
 ·exact dec_ne_t (a := l.length) (b := 32) rfl rfl (by omega)
theorem rlittle_s (l : List Int) (hb : IsBytes l) {r : Nat} {k : Bool} (hr : r = if l.length = 32 then leN l else 0) (hk : k = decide (l.length = 32)) : CallS Tryd.prog L0 13 [.bytes l] [.val (.agg #[.int .u64 (lm r 0), .int .u64 (lm r 1), .int .u64 (lm r 2), .int .u64 (lm r 3)]), .val (.bool k)] := by
 by_cases h : l.length = 32
 ·rw [if_pos h] at hr
  rw [hk, decide_eq_true h]
  exact rlittle_yes l h hb hr
 ·rw [if_neg h] at hr
  rw [hk, decide_eq_false h, hr]
  exact rlittle_no l h
theorem rwide_yes (l : List Int) (h : l.length = 64) (hb : IsBytes l) {r : Nat} (hr : r = leN l) : CallS Tryd.prog (L0) 78 [.bytes l] [.val (.agg #[.int .u64 (lm r 0), .int .u64 (lm r 1), .int .u64 (lm r 2), .int .u64 (lm r 3), .int .u64 (lm r 4), .int .u64 (lm r 5), .int .u64 (lm r 6), .int .u64 (lm r 7)]), .val (.bool true)] := by
 refine callS_of Tryd.func78 (by kernel_rfl) (by kernel_rfl) (fun w us hK hG ha => ?_)
 obtain ⟨u0, _, rfl, hu0, rfl⟩ := ha
 obtain ⟨r1, hr1⟩ : ∃ r : Nat, r = leN ((l.drop ((0 : Int)).toNat).take ((8 : Int)).toNat) := ⟨_, rfl⟩
 obtain ⟨r2, hr2⟩ : ∃ r : Nat, r = leN ((l.drop ((8 : Int)).toNat).take ((8 : Int)).toNat) := ⟨_, rfl⟩
 obtain ⟨r3, hr3⟩ : ∃ r : Nat, r = leN ((l.drop ((16 : Int)).toNat).take ((8 : Int)).toNat) := ⟨_, rfl⟩
 obtain ⟨r4, hr4⟩ : ∃ r : Nat, r = leN ((l.drop ((24 : Int)).toNat).take ((8 : Int)).toNat) := ⟨_, rfl⟩
 obtain ⟨r5, hr5⟩ : ∃ r : Nat, r = leN ((l.drop ((32 : Int)).toNat).take ((8 : Int)).toNat) := ⟨_, rfl⟩
 obtain ⟨r6, hr6⟩ : ∃ r : Nat, r = leN ((l.drop ((40 : Int)).toNat).take ((8 : Int)).toNat) := ⟨_, rfl⟩
 obtain ⟨r7, hr7⟩ : ∃ r : Nat, r = leN ((l.drop ((48 : Int)).toNat).take ((8 : Int)).toNat) := ⟨_, rfl⟩
 obtain ⟨r8, hr8⟩ : ∃ r : Nat, r = leN ((l.drop ((56 : Int)).toNat).take ((8 : Int)).toNat) := ⟨_, rfl⟩
 have hj0 : lm r 0 = r1 := by rw [hr, hr1]; exact leN_limb8 h hb 0 (by decide)
 have hj1 : lm r 1 = r2 := by rw [hr, hr2]; exact leN_limb8 h hb 1 (by decide)
 have hj2 : lm r 2 = r3 := by rw [hr, hr3]; exact leN_limb8 h hb 2 (by decide)
 have hj3 : lm r 3 = r4 := by rw [hr, hr4]; exact leN_limb8 h hb 3 (by decide)
 have hj4 : lm r 4 = r5 := by rw [hr, hr5]; exact leN_limb8 h hb 4 (by decide)
 have hj5 : lm r 5 = r6 := by rw [hr, hr6]; exact leN_limb8 h hb 5 (by decide)
 have hj6 : lm r 6 = r7 := by rw [hr, hr7]; exact leN_limb8 h hb 6 (by decide)
 have hj7 : lm r 7 = r8 := by rw [hr, hr8]; exact leN_limb8 h hb 7 (by decide)
 have hrun := calls_of_runS (P := Tryd.prog) (v := ⟨envI [0, ((r1 : Nat) : Int), ((r2 : Nat) : Int), ((r3 : Nat) : Int), ((r4 : Nat) : Int), ((r5 : Nat) : Int), ((r6 : Nat) : Int), ((r7 : Nat) : Int), ((r8 : Nat) : Int)], envB [], envL [l], envP [], L0, w⟩) (gs := []) (fuel := 3000) (nv := 1) (args := [(.imm (.lvar 0) none)]) (ora := [some false]) (sums := []) (r := ⟨[(.val (.agg [.v 1, .v 2, .v 3, .v 4, .v 5, .v 6, .v 7, .v 8])), (.val JJ7)], [.dec JJ20 false, .dec (.cmp .leq (.lit 8) (.len (.lvar 0))) true, .callS 36 [(.bytes (.part (.lvar 0) (.lit 0) (.lit 8)))] [(.val (.sc (.v 1)))], .dec (.cmp .leq (.lit 16) (.len (.lvar 0))) true, .callS 36 [(.bytes (.part (.lvar 0) (.lit 8) (.lit 8)))] [(.val (.sc (.v 2)))], .dec (.cmp .leq (.lit 24) (.len (.lvar 0))) true, .callS 36 [(.bytes (.part (.lvar 0) (.lit 16) (.lit 8)))] [(.val (.sc (.v 3)))], .dec (.cmp .leq (.lit 32) (.len (.lvar 0))) true, .callS 36 [(.bytes (.part (.lvar 0) (.lit 24) (.lit 8)))] [(.val (.sc (.v 4)))], .dec (.cmp .leq (.lit 40) (.len (.lvar 0))) true, .callS 36 [(.bytes (.part (.lvar 0) (.lit 32) (.lit 8)))] [(.val (.sc (.v 5)))], .dec (.cmp .leq (.lit 48) (.len (.lvar 0))) true, .callS 36 [(.bytes (.part (.lvar 0) (.lit 40) (.lit 8)))] [(.val (.sc (.v 6)))], .dec (.cmp .leq (.lit 56) (.len (.lvar 0))) true, .callS 36 [(.bytes (.part (.lvar 0) (.lit 48) (.lit 8)))] [(.val (.sc (.v 7)))], .dec (.cmp .leq (.lit 64) (.len (.lvar 0))) true, .callS 36 [(.bytes (.part (.lvar 0) (.lit 56) (.lit 8)))] [(.val (.sc (.v 8)))]], []⟩) Tryd.func78 (by kernel_rfl)
  (evs_of ⟨?_, ?_, ?_, ?_, ?_, ?_, ?_, ?_, ?_, ?_, ?_, ?_, ?_, ?_, ?_, ?_, ?_, trivial⟩) (by simp) (GsOk.nil _) hK hG _ (⟨u0, _, rfl, ⟨hu0, fun b hb => by cases hb⟩, rfl⟩)
 ·exact runS_eq hrun (by (refine congrArg (fun z => [SRes.val (.agg z), .val (.bool true)]) ?_; exact arr8 (congrArg (fun (z : Nat) => Value.int .u64 (z : Int)) hj0.symm) (congrArg (fun (z : Nat) => Value.int .u64 (z : Int)) hj1.symm) (congrArg (fun (z : Nat) => Value.int .u64 (z : Int)) hj2.symm) (congrArg (fun (z : Nat) => Value.int .u64 (z : Int)) hj3.symm) (congrArg (fun (z : Nat) => Value.int .u64 (z : Int)) hj4.symm) (congrArg (fun (z : Nat) => Value.int .u64 (z : Int)) hj5.symm) (congrArg (fun (z : Nat) => Value.int .u64 (z : Int)) hj6.symm) (congrArg (fun (z : Nat) => Value.int .u64 (z : Int)) hj7.symm)))
 ·exact dec_ne_f (a := l.length) (b := 64) rfl rfl (by omega)
 ·exact dec_le_t (a := 8) (b := l.length) rfl rfl (by omega)
 ·exact CallS.g (eight_s ((l.drop ((0 : Int)).toNat).take ((8 : Int)).toNat) ((hb.drop _).take _) (by simp; omega) hr1)
 ·exact dec_le_t (a := 16) (b := l.length) rfl rfl (by omega)
 ·exact CallS.g (eight_s ((l.drop ((8 : Int)).toNat).take ((8 : Int)).toNat) ((hb.drop _).take _) (by simp; omega) hr2)
 ·exact dec_le_t (a := 24) (b := l.length) rfl rfl (by omega)
 ·exact CallS.g (eight_s ((l.drop ((16 : Int)).toNat).take ((8 : Int)).toNat) ((hb.drop _).take _) (by simp; omega) hr3)
 ·exact dec_le_t (a := 32) (b := l.length) rfl rfl (by omega)
 ·exact CallS.g (eight_s ((l.drop ((24 : Int)).toNat).take ((8 : Int)).toNat) ((hb.drop _).take _) (by simp; omega) hr4)
 ·exact dec_le_t (a := 40) (b := l.length) rfl rfl (by omega)
 ·exact CallS.g (eight_s ((l.drop ((32 : Int)).toNat).take ((8 : Int)).toNat) ((hb.drop _).take _) (by simp; omega) hr5)
 ·exact dec_le_t (a := 48) (b := l.length) rfl rfl (by omega)
 ·exact CallS.g (eight_s ((l.drop ((40 : Int)).toNat).take ((8 : Int)).toNat) ((hb.drop _).take _) (by simp; omega) hr6)
 ·exact dec_le_t (a := 56) (b := l.length) rfl rfl (by omega)
 ·exact CallS.g (eight_s ((l.drop ((48 : Int)).toNat).take ((8 : Int)).toNat) ((hb.drop _).take _) (by simp; omega) hr7)
 ·exact dec_le_t (a := 64) (b := l.length) rfl rfl (by omega)
 ·exact CallS.g (eight_s ((l.drop ((56 : Int)).toNat).take ((8 : Int)).toNat) ((hb.drop _).take _) (by simp; omega) hr8)
theorem rwide_no (l : List Int) (h : ¬ l.length = 64) : CallS Tryd.prog (L0) 78 [.bytes l] [.val (.agg #[.int .u64 (lm 0 0), .int .u64 (lm 0 1), .int .u64 (lm 0 2), .int .u64 (lm 0 3), .int .u64 (lm 0 4), .int .u64 (lm 0 5), .int .u64 (lm 0 6), .int .u64 (lm 0 7)]), .val (.bool false)] := by
 refine callS_of Tryd.func78 (by kernel_rfl) (by kernel_rfl) (fun w us hK hG ha => ?_)
 obtain ⟨u0, _, rfl, hu0, rfl⟩ := ha
 have hrun := calls_of_runS (P := Tryd.prog) (v := ⟨envI [], envB [], envL [l], envP [], L0, w⟩) (gs := []) (fuel := 3000) (nv := 1) (args := [(.imm (.lvar 0) none)]) (ora := [some true]) (sums := []) (r := ⟨[(.val JJ49), (.val JJ4)], [.dec JJ20 true], []⟩) Tryd.func78 (by kernel_rfl)
  (evs_of ⟨?_, trivial⟩) (by simp) (GsOk.nil _) hK hG _ (⟨u0, _, rfl, ⟨hu0, fun b hb => by cases hb⟩, rfl⟩)
 ·exact runS_eq hrun (by kernel_rfl)
 ·exact dec_ne_t (a := l.length) (b := 64) rfl rfl (by omega)
theorem rwide_s (l : List Int) (hb : IsBytes l) {r : Nat} {k : Bool} (hr : r = if l.length = 64 then leN l else 0) (hk : k = decide (l.length = 64)) : CallS Tryd.prog L0 78 [.bytes l] [.val (.agg #[.int .u64 (lm r 0), .int .u64 (lm r 1), .int .u64 (lm r 2), .int .u64 (lm r 3), .int .u64 (lm r 4), .int .u64 (lm r 5), .int .u64 (lm r 6), .int .u64 (lm r 7)]), .val (.bool k)] := by
 by_cases h : l.length = 64
 ·rw [if_pos h] at hr
  rw [hk, decide_eq_true h]
  exact rwide_yes l h hb hr
 ·rw [if_neg h] at hr
  rw [hk, decide_eq_false h, hr]
  exact rwide_no l h
end Go.Proofs.YtkckmpnkacdchaaDoor
