/- Numbers as chapter 10 writes them, run. -/
import Derived.Test.YtgmbgidcgdammaaCodec2
import Derived.Test.YtgmbgidcgdammaaLimE
set_option linter.unusedVariables false
set_option linter.unusedSimpArgs false
namespace Go.Proofs.Ytgmbgidcgdammaa
open Go.RowKit Go.Num Go.Sx

/-- how many noughts are left out ahead -/
def lead : List Int → Nat
  | [] => 0
  | [_] => 0
  | a :: b :: r => if a = 0 then lead (b :: r) + 1 else 0
theorem lead_spec : ∀ (l : List Int), l ≠ [] → lead l < l.length ∧ (∀ k, k < lead l → l.getD k 0 = 0) ∧ (lead l + 1 = l.length ∨ l.getD (lead l) 0 ≠ 0)
  | [], h => absurd rfl h
  | [a], _ => ⟨by simp [lead], by simp [lead], by simp [lead]⟩
  | a :: b :: r, _ => by
    obtain ⟨h1, h2, h3⟩ := lead_spec (b :: r) (by simp)
    by_cases ha : a = 0
    · rw [lead, if_pos ha]
      refine ⟨by simp only [List.length_cons] at h1 ⊢; omega, fun k hk => ?_, ?_⟩
      · cases k with
        | zero => simpa using ha
        | succ k => simpa using h2 k (by omega)
      · rcases h3 with h3 | h3
        · exact .inl (by simp only [List.length_cons] at h3 ⊢; omega)
        · exact .inr (by simpa using h3)
    · rw [lead, if_neg ha]
      exact ⟨by simp, by simp, .inr (by simpa using ha)⟩
/-- bytes as chapter 10 writes them: the sign's and the length's byte ahead -/
def derL (l : List Int) : List Int := if 128 ≤ l.getD (lead l) 0 then 2 :: ((33 - lead l : Nat) : Int) :: 0 :: l.drop (lead l) else 2 :: ((32 - lead l : Nat) : Int) :: l.drop (lead l)
def derI (x : Nat) : List Int := derL (putN 32 x).reverse
theorem drop_cons {l : List Int} {j : Nat} (h : j < l.length) : l.drop j = l.getD j 0 :: l.drop (j + 1) := by
  rw [List.drop_eq_getElem_cons h, List.getD_eq_getElem?_getD, List.getElem?_eq_getElem h]
  rfl
/-- where the program stops -/
theorem stop_at {l : List Int} (hl : l.length = 32) (hb : IsBytes l) : ∃ j, j < 32 ∧ (∀ k, k < j → l.getD k 0 = 0 ∧ l.getD (k + 1) 0 < 128) ∧ (j = 31 ∨ (j < 31 ∧ l.getD j 0 ≠ 0) ∨ (j < 31 ∧ l.getD j 0 = 0 ∧ 128 ≤ l.getD (j + 1) 0)) ∧
    derL l = if 128 ≤ l.getD j 0 then 2 :: ((33 - j : Nat) : Int) :: 0 :: l.drop j else 2 :: ((32 - j : Nat) : Int) :: l.drop j := by
  obtain ⟨h1, h2, h3⟩ := lead_spec l (by intro h; rw [h] at hl; simp at hl)
  rw [hl] at h1 h3
  by_cases hc : 0 < lead l ∧ 128 ≤ l.getD (lead l) 0
  · refine ⟨lead l - 1, by omega, fun k hk => ⟨h2 k (by omega), by rw [h2 (k + 1) (by omega)]; decide⟩, .inr (.inr ⟨by omega, h2 _ (by omega), ?_⟩), ?_⟩
    · rw [show lead l - 1 + 1 = lead l by omega]; exact hc.2
    · unfold derL
      rw [if_pos hc.2, h2 (lead l - 1) (by omega), if_neg (by decide), drop_cons (j := lead l - 1) (by omega), h2 (lead l - 1) (by omega), show lead l - 1 + 1 = lead l by omega, show 32 - (lead l - 1) = 33 - lead l by omega]
  · refine ⟨lead l, h1, fun k hk => ⟨h2 k hk, ?_⟩, ?_, rfl⟩
    · by_cases hk1 : k + 1 < lead l
      · rw [h2 (k + 1) hk1]; decide
      · rw [show k + 1 = lead l by omega]
        have : ¬ 128 ≤ l.getD (lead l) 0 := fun h => hc ⟨by omega, h⟩
        omega
    · rcases h3 with h3 | h3
      · exact .inl (by omega)
      · by_cases h31 : lead l = 31
        · exact .inl h31
        · exact .inr (.inl ⟨by omega, h3⟩)

abbrev derint_env (w : World) (x : Nat) (l : List Int) (off : Int) (len : Int) : Env := ⟨fun n => ([((lm x 0 : Nat) : Int), ((lm x 1 : Nat) : Int), ((lm x 2 : Nat) : Int), ((lm x 3 : Nat) : Int), 0, off, len] : List Int).getD n 0, fun n => ([] : List Bool).getD n false, fun n => ([[], [], [], [], l] : List (List Int)).getD n [], fun n => ([] : List (List (List Int))).getD n [], L0, w⟩
abbrev derint_head : Fm := ⟨[(.one (.agg [.int .u64 (.var 0), .int .u64 (.var 1), .int .u64 (.var 2), .int .u64 (.var 3)])), (.one (.ptr 0 0)), (.one .nils), (.one (.bsl 1 (.var 5) (.var 6) false)), (.one (.agg [.int .u64 (.var 0), .int .u64 (.var 1), .int .u64 (.var 2), .int .u64 (.var 3)])), (.one (.bsl 1 (.lit 0) (.len (.lvar 4)) true)), .undef, .undef, .undef, .undef, .undef, .undef, .undef, .undef, .undef, .undef, .undef, .undef, .undef, .undef, .undef, .undef, .undef, .undef, .undef, .undef, .undef, .undef, .undef, .undef, .undef, .undef, .undef, .undef, .undef, .undef], [⟨24, [(.sc (.int .u64 (.var 0))), (.sc (.int .u64 (.var 1))), (.sc (.int .u64 (.var 2))), (.sc (.int .u64 (.var 3)))], false, true, false, none⟩, ⟨5, [], true, true, false, (some (.u8, (.lvar 4)))⟩], []⟩
abbrev derint_pre : Fm := ⟨[(.one (.agg [.int .u64 (.var 0), .int .u64 (.var 1), .int .u64 (.var 2), .int .u64 (.var 3)])), (.one (.ptr 0 0)), (.one .nils), (.one (.bsl 1 (.lit 0) (.len (.lvar 4)) true)), (.one (.agg [.int .u64 (.var 0), .int .u64 (.var 1), .int .u64 (.var 2), .int .u64 (.var 3)])), (.one (.bsl 1 (.lit 0) (.len (.lvar 4)) true)), .undef, .undef, .undef, .undef, .undef, .undef, .undef, .undef, .undef, .undef, .undef, .undef, .undef, .undef, .undef, .undef, .undef, .undef, .undef, .undef, .undef, .undef, .undef, .undef, .undef, .undef, .undef, .undef, .undef, .undef], [⟨24, [(.sc (.int .u64 (.var 0))), (.sc (.int .u64 (.var 1))), (.sc (.int .u64 (.var 2))), (.sc (.int .u64 (.var 3)))], false, true, false, none⟩, ⟨5, [], true, true, false, (some (.u8, (.lvar 4)))⟩], []⟩
set_option maxHeartbeats 4000000 in
theorem derint_more (w : World) (x : Nat) (l : List Int)  (off : Int) (len : Int) (hl : l.length = 32) (h0 : 0 ≤ off) (h1 : off < 31) (h2 : off + len = 32) (he : l.getD off.toNat 0 = 0) (he1 : l.getD (off + 1).toNat 0 < 128) : Round Try.prog (loopOf Try.f50 0) derint_head (derint_env w x l off len) .normal derint_head (derint_env w x l (off + 1) (len - 1)) := by
  refine Round.mk (⟨fun n => ([((lm x 0 : Nat) : Int), ((lm x 1 : Nat) : Int), ((lm x 2 : Nat) : Int), ((lm x 3 : Nat) : Int), 0, off, len] : List Int).getD n 0, fun n => ([] : List Bool).getD n false, fun n => ([[], [], [], [], l] : List (List Int)).getD n [], fun n => ([] : List (List (List Int))).getD n [], L0, w⟩) [some 0, some 1] [(some 0), (some 1)] 3000 7 [some true, some true, some true] [] ⟨⟨[(.one (.agg [.int .u64 (.var 0), .int .u64 (.var 1), .int .u64 (.var 2), .int .u64 (.var 3)])), (.one (.ptr 0 0)), (.one .nils), (.one (.bsl 1 (.sum (.var 5) (.lit 1)) (.dif (.var 6) (.lit 1)) false)), (.one (.agg [.int .u64 (.var 0), .int .u64 (.var 1), .int .u64 (.var 2), .int .u64 (.var 3)])), (.one (.bsl 1 (.lit 0) (.len (.lvar 4)) true)), (.one (.bsl 1 (.var 5) (.var 6) false)), (.one (.sc (.int .i64 (.var 6)))), (.one (.sc (.bool (.lit true)))), (.one (.sc (.bool (.lit true)))), (.one (.bsl 1 (.var 5) (.var 6) false)), (.one (.bptr 1 (.var 5))), (.one (.sc (.int .u8 (.get (.lvar 4) (.var 5))))), (.one (.sc (.bool (.lit true)))), (.one (.sc (.bool (.lit true)))), (.one (.sc (.bool (.lit true)))), (.one (.bsl 1 (.var 5) (.var 6) false)), (.one (.bptr 1 (.sum (.var 5) (.lit 1)))), (.one (.sc (.int .u8 (.get (.lvar 4) (.sum (.var 5) (.lit 1)))))), (.one (.sc (.bool (.lit true)))), (.one (.sc (.bool (.lit true)))), (.one (.bsl 1 (.var 5) (.var 6) false)), (.one (.bsl 1 (.sum (.var 5) (.lit 1)) (.dif (.var 6) (.lit 1)) false)), .undef, .undef, .undef, .undef, .undef, .undef, .undef, .undef, .undef, .undef, .undef, .undef, .undef], [⟨24, [(.sc (.int .u64 (.var 0))), (.sc (.int .u64 (.var 1))), (.sc (.int .u64 (.var 2))), (.sc (.int .u64 (.var 3)))], false, true, false, none⟩, ⟨5, [], true, true, false, (some (.u8, (.lvar 4)))⟩], []⟩, 7, [], [], [.dec (.cmp .gtr (.var 6) (.lit 1)) true, .dec (.cmp .lss (.lit 0) (.var 6)) true, .dec (.cmp .lss (.var 5) (.len (.lvar 4))) true, .dec (.cmp .eql (.get (.lvar 4) (.var 5)) (.lit 0)) true, .dec (.cmp .lss (.lit 1) (.var 6)) true, .dec (.cmp .lss (.sum (.var 5) (.lit 1)) (.len (.lvar 4))) true, .dec (.cmp .lss (.get (.lvar 4) (.sum (.var 5) (.lit 1))) (.lit 128)) true, .dec (.cmp .leq (.lit 1) (.var 6)) true], []⟩ (by (refine And.intro ?_ (And.intro ?_ (And.intro rfl (And.intro (by decide) (And.intro rfl rfl)))) <;> (repeat' (first | exact trivial | with_reducible rfl | refine And.intro ?_ ?_ | (show rn _ _ _; exact rfl) | (refine fun h => ?_; first | exact rfl | exact h) | simp only [I.den, I.ldn, Bx.den, List.getD_cons_succ, List.getD_cons_zero, List.getD_nil] | exact rfl)))) (by kernel_rfl) ⟨evs_of ⟨?_, ?_, ?_, ?_, ?_, ?_, ?_, ?_, trivial⟩, by simp⟩ ?_
  · first | exact dec_gt_t (a := len) (b := (1 : Int)) rfl rfl (by omega) | (first | (simp [Ev.holds, Bx.den, cmpD, I.den, I.ldn]; done) | (simp [Ev.holds, Bx.den, cmpD, I.den, I.ldn]; omega))
  · first | exact dec_lt_t (a := (0 : Int)) (b := len) rfl rfl (by omega) | (first | (simp [Ev.holds, Bx.den, cmpD, I.den, I.ldn]; done) | (simp [Ev.holds, Bx.den, cmpD, I.den, I.ldn]; omega))
  · first | exact dec_lt_t (a := off) (b := ((l.length : Nat) : Int)) rfl rfl (by omega) | (first | (simp [Ev.holds, Bx.den, cmpD, I.den, I.ldn]; done) | (simp [Ev.holds, Bx.den, cmpD, I.den, I.ldn]; omega))
  · first | exact dec_eq_t (a := (l.getD (off).toNat 0)) (b := (0 : Int)) rfl rfl (by omega) | (first | (simp [Ev.holds, Bx.den, cmpD, I.den, I.ldn]; done) | (simp [Ev.holds, Bx.den, cmpD, I.den, I.ldn]; omega))
  · first | exact dec_lt_t (a := (1 : Int)) (b := len) rfl rfl (by omega) | (first | (simp [Ev.holds, Bx.den, cmpD, I.den, I.ldn]; done) | (simp [Ev.holds, Bx.den, cmpD, I.den, I.ldn]; omega))
  · first | exact dec_lt_t (a := (off + (1 : Int))) (b := ((l.length : Nat) : Int)) rfl rfl (by omega) | (first | (simp [Ev.holds, Bx.den, cmpD, I.den, I.ldn]; done) | (simp [Ev.holds, Bx.den, cmpD, I.den, I.ldn]; omega))
  · first | exact dec_lt_t (a := (l.getD ((off + (1 : Int))).toNat 0)) (b := (128 : Int)) rfl rfl (by omega) | (first | (simp [Ev.holds, Bx.den, cmpD, I.den, I.ldn]; done) | (simp [Ev.holds, Bx.den, cmpD, I.den, I.ldn]; omega))
  · first | exact dec_le_t (a := (1 : Int)) (b := len) rfl rfl (by omega) | (first | (simp [Ev.holds, Bx.den, cmpD, I.den, I.ldn]; done) | (simp [Ev.holds, Bx.den, cmpD, I.den, I.ldn]; omega))
  · (refine And.intro ?_ (And.intro ?_ (And.intro rfl (And.intro (by decide) (And.intro rfl rfl)))) <;> (repeat' (first | exact trivial | with_reducible rfl | refine And.intro ?_ ?_ | (show rn _ _ _; exact rfl) | (refine fun h => ?_; first | exact rfl | exact h) | simp only [I.den, I.ldn, Bx.den, List.getD_cons_succ, List.getD_cons_zero, List.getD_nil] | exact rfl)))
    all_goals first | omega | (simp; done)
set_option maxHeartbeats 4000000 in
theorem derint_one (w : World) (x : Nat) (l : List Int)  (off : Int) (len : Int) (h0 : len ≤ 1) : Round Try.prog (loopOf Try.f50 0) derint_head (derint_env w x l off len) (.exit 0) derint_head (derint_env w x l off len) := by
  refine Round.mk (⟨fun n => ([((lm x 0 : Nat) : Int), ((lm x 1 : Nat) : Int), ((lm x 2 : Nat) : Int), ((lm x 3 : Nat) : Int), 0, off, len] : List Int).getD n 0, fun n => ([] : List Bool).getD n false, fun n => ([[], [], [], [], l] : List (List Int)).getD n [], fun n => ([] : List (List (List Int))).getD n [], L0, w⟩) [some 0, some 1] [(some 0), (some 1)] 3000 7 [some false] [] ⟨⟨[(.one (.agg [.int .u64 (.var 0), .int .u64 (.var 1), .int .u64 (.var 2), .int .u64 (.var 3)])), (.one (.ptr 0 0)), (.one .nils), (.one (.bsl 1 (.var 5) (.var 6) false)), (.one (.agg [.int .u64 (.var 0), .int .u64 (.var 1), .int .u64 (.var 2), .int .u64 (.var 3)])), (.one (.bsl 1 (.lit 0) (.len (.lvar 4)) true)), (.one (.bsl 1 (.var 5) (.var 6) false)), (.one (.sc (.int .i64 (.var 6)))), (.one (.sc (.bool (.lit false)))), (.one (.sc (.bool (.lit false)))), (.tup []), (.tup []), (.tup []), (.tup []), (.one (.sc (.bool (.lit false)))), (.one (.sc (.bool (.lit false)))), (.tup []), (.tup []), (.tup []), (.tup []), (.one (.sc (.bool (.lit false)))), .undef, .undef, .undef, .undef, .undef, .undef, .undef, .undef, .undef, .undef, .undef, .undef, .undef, .undef, .undef], [⟨24, [(.sc (.int .u64 (.var 0))), (.sc (.int .u64 (.var 1))), (.sc (.int .u64 (.var 2))), (.sc (.int .u64 (.var 3)))], false, true, false, none⟩, ⟨5, [], true, true, false, (some (.u8, (.lvar 4)))⟩], []⟩, 7, [], [], [.dec (.cmp .gtr (.var 6) (.lit 1)) false], []⟩ (by (refine And.intro ?_ (And.intro ?_ (And.intro rfl (And.intro (by decide) (And.intro rfl rfl)))) <;> (repeat' (first | exact trivial | with_reducible rfl | refine And.intro ?_ ?_ | (show rn _ _ _; exact rfl) | (refine fun h => ?_; first | exact rfl | exact h) | simp only [I.den, I.ldn, Bx.den, List.getD_cons_succ, List.getD_cons_zero, List.getD_nil] | exact rfl)))) (by kernel_rfl) ⟨evs_of ⟨?_, trivial⟩, by simp⟩ ?_
  · first | exact dec_gt_f (a := len) (b := (1 : Int)) rfl rfl (by omega) | (first | (simp [Ev.holds, Bx.den, cmpD, I.den, I.ldn]; done) | (simp [Ev.holds, Bx.den, cmpD, I.den, I.ldn]; omega))
  · (refine And.intro ?_ (And.intro ?_ (And.intro rfl (And.intro (by decide) (And.intro rfl rfl)))) <;> (repeat' (first | exact trivial | with_reducible rfl | refine And.intro ?_ ?_ | (show rn _ _ _; exact rfl) | (refine fun h => ?_; first | exact rfl | exact h) | simp only [I.den, I.ldn, Bx.den, List.getD_cons_succ, List.getD_cons_zero, List.getD_nil] | exact rfl)))
set_option maxHeartbeats 4000000 in
theorem derint_here (w : World) (x : Nat) (l : List Int)  (off : Int) (len : Int) (hl : l.length = 32) (h0 : 0 ≤ off) (h1 : off < 31) (h2 : off + len = 32) (he : ¬ l.getD off.toNat 0 = 0) : Round Try.prog (loopOf Try.f50 0) derint_head (derint_env w x l off len) (.exit 0) derint_head (derint_env w x l off len) := by
  refine Round.mk (⟨fun n => ([((lm x 0 : Nat) : Int), ((lm x 1 : Nat) : Int), ((lm x 2 : Nat) : Int), ((lm x 3 : Nat) : Int), 0, off, len] : List Int).getD n 0, fun n => ([] : List Bool).getD n false, fun n => ([[], [], [], [], l] : List (List Int)).getD n [], fun n => ([] : List (List (List Int))).getD n [], L0, w⟩) [some 0, some 1] [(some 0), (some 1)] 3000 7 [some true, some false] [] ⟨⟨[(.one (.agg [.int .u64 (.var 0), .int .u64 (.var 1), .int .u64 (.var 2), .int .u64 (.var 3)])), (.one (.ptr 0 0)), (.one .nils), (.one (.bsl 1 (.var 5) (.var 6) false)), (.one (.agg [.int .u64 (.var 0), .int .u64 (.var 1), .int .u64 (.var 2), .int .u64 (.var 3)])), (.one (.bsl 1 (.lit 0) (.len (.lvar 4)) true)), (.one (.bsl 1 (.var 5) (.var 6) false)), (.one (.sc (.int .i64 (.var 6)))), (.one (.sc (.bool (.lit true)))), (.one (.sc (.bool (.lit true)))), (.one (.bsl 1 (.var 5) (.var 6) false)), (.one (.bptr 1 (.var 5))), (.one (.sc (.int .u8 (.get (.lvar 4) (.var 5))))), (.one (.sc (.bool (.lit false)))), (.one (.sc (.bool (.lit false)))), (.one (.sc (.bool (.lit false)))), (.tup []), (.tup []), (.tup []), (.tup []), (.one (.sc (.bool (.lit false)))), .undef, .undef, .undef, .undef, .undef, .undef, .undef, .undef, .undef, .undef, .undef, .undef, .undef, .undef, .undef], [⟨24, [(.sc (.int .u64 (.var 0))), (.sc (.int .u64 (.var 1))), (.sc (.int .u64 (.var 2))), (.sc (.int .u64 (.var 3)))], false, true, false, none⟩, ⟨5, [], true, true, false, (some (.u8, (.lvar 4)))⟩], []⟩, 7, [], [], [.dec (.cmp .gtr (.var 6) (.lit 1)) true, .dec (.cmp .lss (.lit 0) (.var 6)) true, .dec (.cmp .lss (.var 5) (.len (.lvar 4))) true, .dec (.cmp .eql (.get (.lvar 4) (.var 5)) (.lit 0)) false], []⟩ (by (refine And.intro ?_ (And.intro ?_ (And.intro rfl (And.intro (by decide) (And.intro rfl rfl)))) <;> (repeat' (first | exact trivial | with_reducible rfl | refine And.intro ?_ ?_ | (show rn _ _ _; exact rfl) | (refine fun h => ?_; first | exact rfl | exact h) | simp only [I.den, I.ldn, Bx.den, List.getD_cons_succ, List.getD_cons_zero, List.getD_nil] | exact rfl)))) (by kernel_rfl) ⟨evs_of ⟨?_, ?_, ?_, ?_, trivial⟩, by simp⟩ ?_
  · first | exact dec_gt_t (a := len) (b := (1 : Int)) rfl rfl (by omega) | (first | (simp [Ev.holds, Bx.den, cmpD, I.den, I.ldn]; done) | (simp [Ev.holds, Bx.den, cmpD, I.den, I.ldn]; omega))
  · first | exact dec_lt_t (a := (0 : Int)) (b := len) rfl rfl (by omega) | (first | (simp [Ev.holds, Bx.den, cmpD, I.den, I.ldn]; done) | (simp [Ev.holds, Bx.den, cmpD, I.den, I.ldn]; omega))
  · first | exact dec_lt_t (a := off) (b := ((l.length : Nat) : Int)) rfl rfl (by omega) | (first | (simp [Ev.holds, Bx.den, cmpD, I.den, I.ldn]; done) | (simp [Ev.holds, Bx.den, cmpD, I.den, I.ldn]; omega))
  · first | exact dec_eq_f (a := (l.getD (off).toNat 0)) (b := (0 : Int)) rfl rfl (by omega) | (first | (simp [Ev.holds, Bx.den, cmpD, I.den, I.ldn]; done) | (simp [Ev.holds, Bx.den, cmpD, I.den, I.ldn]; omega))
  · (refine And.intro ?_ (And.intro ?_ (And.intro rfl (And.intro (by decide) (And.intro rfl rfl)))) <;> (repeat' (first | exact trivial | with_reducible rfl | refine And.intro ?_ ?_ | (show rn _ _ _; exact rfl) | (refine fun h => ?_; first | exact rfl | exact h) | simp only [I.den, I.ldn, Bx.den, List.getD_cons_succ, List.getD_cons_zero, List.getD_nil] | exact rfl)))
set_option maxHeartbeats 4000000 in
theorem derint_high (w : World) (x : Nat) (l : List Int)  (off : Int) (len : Int) (hl : l.length = 32) (h0 : 0 ≤ off) (h1 : off < 31) (h2 : off + len = 32) (he : l.getD off.toNat 0 = 0) (he1 : ¬ l.getD (off + 1).toNat 0 < 128) : Round Try.prog (loopOf Try.f50 0) derint_head (derint_env w x l off len) (.exit 0) derint_head (derint_env w x l off len) := by
  refine Round.mk (⟨fun n => ([((lm x 0 : Nat) : Int), ((lm x 1 : Nat) : Int), ((lm x 2 : Nat) : Int), ((lm x 3 : Nat) : Int), 0, off, len] : List Int).getD n 0, fun n => ([] : List Bool).getD n false, fun n => ([[], [], [], [], l] : List (List Int)).getD n [], fun n => ([] : List (List (List Int))).getD n [], L0, w⟩) [some 0, some 1] [(some 0), (some 1)] 3000 7 [some true, some true, some false] [] ⟨⟨[(.one (.agg [.int .u64 (.var 0), .int .u64 (.var 1), .int .u64 (.var 2), .int .u64 (.var 3)])), (.one (.ptr 0 0)), (.one .nils), (.one (.bsl 1 (.var 5) (.var 6) false)), (.one (.agg [.int .u64 (.var 0), .int .u64 (.var 1), .int .u64 (.var 2), .int .u64 (.var 3)])), (.one (.bsl 1 (.lit 0) (.len (.lvar 4)) true)), (.one (.bsl 1 (.var 5) (.var 6) false)), (.one (.sc (.int .i64 (.var 6)))), (.one (.sc (.bool (.lit true)))), (.one (.sc (.bool (.lit true)))), (.one (.bsl 1 (.var 5) (.var 6) false)), (.one (.bptr 1 (.var 5))), (.one (.sc (.int .u8 (.get (.lvar 4) (.var 5))))), (.one (.sc (.bool (.lit true)))), (.one (.sc (.bool (.lit true)))), (.one (.sc (.bool (.lit true)))), (.one (.bsl 1 (.var 5) (.var 6) false)), (.one (.bptr 1 (.sum (.var 5) (.lit 1)))), (.one (.sc (.int .u8 (.get (.lvar 4) (.sum (.var 5) (.lit 1)))))), (.one (.sc (.bool (.lit false)))), (.one (.sc (.bool (.lit false)))), .undef, .undef, .undef, .undef, .undef, .undef, .undef, .undef, .undef, .undef, .undef, .undef, .undef, .undef, .undef], [⟨24, [(.sc (.int .u64 (.var 0))), (.sc (.int .u64 (.var 1))), (.sc (.int .u64 (.var 2))), (.sc (.int .u64 (.var 3)))], false, true, false, none⟩, ⟨5, [], true, true, false, (some (.u8, (.lvar 4)))⟩], []⟩, 7, [], [], [.dec (.cmp .gtr (.var 6) (.lit 1)) true, .dec (.cmp .lss (.lit 0) (.var 6)) true, .dec (.cmp .lss (.var 5) (.len (.lvar 4))) true, .dec (.cmp .eql (.get (.lvar 4) (.var 5)) (.lit 0)) true, .dec (.cmp .lss (.lit 1) (.var 6)) true, .dec (.cmp .lss (.sum (.var 5) (.lit 1)) (.len (.lvar 4))) true, .dec (.cmp .lss (.get (.lvar 4) (.sum (.var 5) (.lit 1))) (.lit 128)) false], []⟩ (by (refine And.intro ?_ (And.intro ?_ (And.intro rfl (And.intro (by decide) (And.intro rfl rfl)))) <;> (repeat' (first | exact trivial | with_reducible rfl | refine And.intro ?_ ?_ | (show rn _ _ _; exact rfl) | (refine fun h => ?_; first | exact rfl | exact h) | simp only [I.den, I.ldn, Bx.den, List.getD_cons_succ, List.getD_cons_zero, List.getD_nil] | exact rfl)))) (by kernel_rfl) ⟨evs_of ⟨?_, ?_, ?_, ?_, ?_, ?_, ?_, trivial⟩, by simp⟩ ?_
  · first | exact dec_gt_t (a := len) (b := (1 : Int)) rfl rfl (by omega) | (first | (simp [Ev.holds, Bx.den, cmpD, I.den, I.ldn]; done) | (simp [Ev.holds, Bx.den, cmpD, I.den, I.ldn]; omega))
  · first | exact dec_lt_t (a := (0 : Int)) (b := len) rfl rfl (by omega) | (first | (simp [Ev.holds, Bx.den, cmpD, I.den, I.ldn]; done) | (simp [Ev.holds, Bx.den, cmpD, I.den, I.ldn]; omega))
  · first | exact dec_lt_t (a := off) (b := ((l.length : Nat) : Int)) rfl rfl (by omega) | (first | (simp [Ev.holds, Bx.den, cmpD, I.den, I.ldn]; done) | (simp [Ev.holds, Bx.den, cmpD, I.den, I.ldn]; omega))
  · first | exact dec_eq_t (a := (l.getD (off).toNat 0)) (b := (0 : Int)) rfl rfl (by omega) | (first | (simp [Ev.holds, Bx.den, cmpD, I.den, I.ldn]; done) | (simp [Ev.holds, Bx.den, cmpD, I.den, I.ldn]; omega))
  · first | exact dec_lt_t (a := (1 : Int)) (b := len) rfl rfl (by omega) | (first | (simp [Ev.holds, Bx.den, cmpD, I.den, I.ldn]; done) | (simp [Ev.holds, Bx.den, cmpD, I.den, I.ldn]; omega))
  · first | exact dec_lt_t (a := (off + (1 : Int))) (b := ((l.length : Nat) : Int)) rfl rfl (by omega) | (first | (simp [Ev.holds, Bx.den, cmpD, I.den, I.ldn]; done) | (simp [Ev.holds, Bx.den, cmpD, I.den, I.ldn]; omega))
  · first | exact dec_lt_f (a := (l.getD ((off + (1 : Int))).toNat 0)) (b := (128 : Int)) rfl rfl (by omega) | (first | (simp [Ev.holds, Bx.den, cmpD, I.den, I.ldn]; done) | (simp [Ev.holds, Bx.den, cmpD, I.den, I.ldn]; omega))
  · (refine And.intro ?_ (And.intro ?_ (And.intro rfl (And.intro (by decide) (And.intro rfl rfl)))) <;> (repeat' (first | exact trivial | with_reducible rfl | refine And.intro ?_ ?_ | (show rn _ _ _; exact rfl) | (refine fun h => ?_; first | exact rfl | exact h) | simp only [I.den, I.ldn, Bx.den, List.getD_cons_succ, List.getD_cons_zero, List.getD_nil] | exact rfl)))

theorem derint_rounds (w : World) (x : Nat) (l : List Int) (hl : l.length = 32) (j : Nat) (hj : j < 32) (hs : ∀ k, k < j → l.getD k 0 = 0 ∧ l.getD (k + 1) 0 < 128) (he : j = 31 ∨ (j < 31 ∧ l.getD j 0 ≠ 0) ∨ (j < 31 ∧ l.getD j 0 = 0 ∧ 128 ≤ l.getD (j + 1) 0))
    (v : Env) {r0 r1 : List (Option Nat)} (start : Fm.to v (derint_env w x l 0 32) r0 derint_pre derint_head) (fin : Fm.to (derint_env w x l ((j : Nat) : Int) (32 - ((j : Nat) : Int))) v r1 derint_head derint_head) :
    LEv.holds Try.prog v ⟨loopOf Try.f50 0, derint_pre, derint_head, (.exit 0)⟩ := by
  refine loop_rounds (r0 := r0) (n := j) (head := derint_head) (fun k => derint_env w x l (k : Int) (32 - (k : Int))) ?_ ?_ (derint_env w x l ((j : Nat) : Int) (32 - ((j : Nat) : Int))) ?_ fin (by decide)
  · show Fm.to v (derint_env w x l ((0 : Nat) : Int) (32 - ((0 : Nat) : Int))) _ _ _
    rw [show (32 : Int) - ((0 : Nat) : Int) = 32 by omega]
    exact start
  · intro k hk
    show Round _ _ _ _ _ _ (derint_env w x l ((k : Int) + 1) (32 - ((k : Int) + 1)))
    rw [show (32 - ((k : Int) + 1)) = 32 - (k : Int) - 1 by omega]
    exact derint_more w x l (k : Int) (32 - (k : Int)) hl (by omega) (by omega) (by omega) (by rw [Int.toNat_natCast]; exact (hs k hk).1) (by rw [show ((k : Int) + 1).toNat = k + 1 by omega]; exact (hs k hk).2)
  · rcases he with he | ⟨h1, h2⟩ | ⟨h1, h2, h3⟩
    · exact derint_one w x l _ _ (by omega)
    · exact derint_here w x l _ _ hl (by omega) (by omega) (by omega) (by rw [Int.toNat_natCast]; exact h2)
    · exact derint_high w x l _ _ hl (by omega) (by omega) (by omega) (by rw [Int.toNat_natCast]; exact h2) (by rw [show ((j : Int) + 1).toNat = j + 1 by omega]; omega)

set_option maxHeartbeats 4000000 in
theorem derint_hi (x : Nat) (j : Nat) (hj : j < 32) (hs : ∀ k, k < j → (putN 32 x).reverse.getD k 0 = 0 ∧ (putN 32 x).reverse.getD (k + 1) 0 < 128) (he : j = 31 ∨ (j < 31 ∧ (putN 32 x).reverse.getD j 0 ≠ 0) ∨ (j < 31 ∧ (putN 32 x).reverse.getD j 0 = 0 ∧ 128 ≤ (putN 32 x).reverse.getD (j + 1) 0)) (hc : 128 ≤ (putN 32 x).reverse.getD j 0) {r : List Int} (hr : r = 2 :: ((33 - j : Nat) : Int) :: 0 :: (putN 32 x).reverse.drop j) : CallS Try.prog (L0) 50 [.val (.agg #[.int .u64 (lm x 0), .int .u64 (lm x 1), .int .u64 (lm x 2), .int .u64 (lm x 3)])] [.fresh 5 r 0 r.length true] := by
  refine callS_of Try.func50 (by kernel_rfl) (by kernel_rfl) (fun w us hK hG ha => ?_)
  obtain ⟨_, _, rfl, rfl, rfl⟩ := ha
  obtain ⟨r1, hr1⟩ : ∃ r : List Int, r = (putN 32 x).reverse := ⟨_, rfl⟩
  have len1 : r1.length = 32 := by rw [hr1, List.length_reverse, putN_length]
  have hb1 : IsBytes r1 := by rw [hr1]; exact (putN_bytes _ _).reverse
  rw [← hr1] at hs he hc hr
  have hc' : 128 ≤ r1.getD (((j : Nat) : Int)).toNat 0 := hc
  have hrun := calls_of_runS (P := Try.prog) (v := ⟨fun n => ([((lm x 0 : Nat) : Int), ((lm x 1 : Nat) : Int), ((lm x 2 : Nat) : Int), ((lm x 3 : Nat) : Int), 0, ((j : Nat) : Int), (32 - ((j : Nat) : Int))] : List Int).getD n 0, fun n => ([] : List Bool).getD n false, fun n => ([[], [], [], [], r1] : List (List Int)).getD n [], fun n => ([] : List (List (List Int))).getD n [], L0, w⟩) (gs := []) (fuel := 3000) (nv := 4) (args := [(.agg [.int .u64 (.var 0), .int .u64 (.var 1), .int .u64 (.var 2), .int .u64 (.var 3)])]) (ora := [some true]) (sums := [some ⟨[(3, (.one (.bsl 1 (.var 5) (.var 6) false)))], [], 7, (.exit 0)⟩]) (r := ⟨[(.fresh 5 (.app (.cons (.lit 2) (.cons (.conv .u8 (.sum (.lit 1) (.len (.part (.lvar 4) (.var 5) (.var 6))))) .nil)) (.app (.cons (.lit 0) .nil) (.part (.lvar 4) (.var 5) (.var 6)))) (.lit 0) (.sum (.lit 2) (.sum (.lit 1) (.len (.part (.lvar 4) (.var 5) (.var 6))))) true)], [.callS 16 [(.val (.agg [.int .u64 (.var 0), .int .u64 (.var 1), .int .u64 (.var 2), .int .u64 (.var 3)]))] [(.fresh 5 (.lvar 4) (.lit 0) (.len (.lvar 4)) true)], .dec (.cmp .lss (.lit 0) (.var 6)) true, .dec (.cmp .lss (.var 5) (.len (.lvar 4))) true, .dec (.cmp .geq (.get (.lvar 4) (.var 5)) (.lit 128)) true, .dec (.cmp .leq (.sum (.var 5) (.var 6)) (.len (.lvar 4))) true, .dec (.cmp .leq (.sum (.lit 1) (.len (.part (.lvar 4) (.var 5) (.var 6)))) (.lit 1099511627776)) true, .dec (.cmp .leq (.sum (.lit 2) (.sum (.lit 1) (.len (.part (.lvar 4) (.var 5) (.var 6))))) (.lit 1099511627776)) true], [⟨loopOf Try.f50 0, derint_pre, derint_head, (.exit 0)⟩]⟩) Try.func50 (by kernel_rfl)
    (evs_of ⟨?_, ?_, ?_, ?_, ?_, ?_, ?_, trivial⟩) (levs_of ⟨?_, trivial⟩) (GsOk.nil _) hK hG _ (⟨_, _, rfl, rfl, rfl⟩)
  · exact runS_eq hrun (by (have hp : (List.take (32 - ((j : Nat) : Int)).toNat (List.drop (((j : Nat) : Int)).toNat r1)) = r1.drop j := (by rw [Int.toNat_natCast, List.take_of_length_le (by rw [List.length_drop]; omega)]); have hd : (r1.drop j).length = 32 - j := (by rw [List.length_drop, len1]); have E : r = (([(2 : Int), (IntKind.u8.wrap ((1 : Int) + ((((r1.drop (((j : Nat) : Int)).toNat).take ((32 - ((j : Nat) : Int))).toNat).length : Nat) : Int)))] : List Int) ++ (([(0 : Int)] : List Int) ++ ((r1.drop (((j : Nat) : Int)).toNat).take ((32 - ((j : Nat) : Int))).toNat))) := (by rw [hr, hp, hd, show IntKind.u8.wrap (1 + ((32 - j : Nat) : Int)) = ((33 - j : Nat) : Int) by rw [IntKind.wrap_u8]; omega]; rfl); have E2 : (((2 : Int) + ((1 : Int) + ((((r1.drop (((j : Nat) : Int)).toNat).take ((32 - ((j : Nat) : Int))).toNat).length : Nat) : Int)))).toNat = r.length := (by rw [hr, hp]; simp only [List.length_cons, hd]; omega); show [SRes.fresh 5 ((([(2 : Int), (IntKind.u8.wrap ((1 : Int) + ((((r1.drop (((j : Nat) : Int)).toNat).take ((32 - ((j : Nat) : Int))).toNat).length : Nat) : Int)))] : List Int) ++ (([(0 : Int)] : List Int) ++ ((r1.drop (((j : Nat) : Int)).toNat).take ((32 - ((j : Nat) : Int))).toNat)))) 0 (((2 : Int) + ((1 : Int) + ((((r1.drop (((j : Nat) : Int)).toNat).take ((32 - ((j : Nat) : Int))).toNat).length : Nat) : Int)))).toNat true] = _; rw [E2, ← E]))
  · exact CallS.g (putb_s x hr1)
  · first | exact dec_lt_t (a := (0 : Int)) (b := (32 - ((j : Nat) : Int))) rfl rfl (by omega) | (first | (simp [Ev.holds, Bx.den, cmpD, I.den, I.ldn]; done) | (simp [Ev.holds, Bx.den, cmpD, I.den, I.ldn]; omega))
  · first | exact dec_lt_t (a := ((j : Nat) : Int)) (b := ((r1.length : Nat) : Int)) rfl rfl (by omega) | (first | (simp [Ev.holds, Bx.den, cmpD, I.den, I.ldn]; done) | (simp [Ev.holds, Bx.den, cmpD, I.den, I.ldn]; omega))
  · first | exact dec_ge_t (a := (r1.getD (((j : Nat) : Int)).toNat 0)) (b := (128 : Int)) rfl rfl (by omega) | (first | (simp [Ev.holds, Bx.den, cmpD, I.den, I.ldn]; done) | (simp [Ev.holds, Bx.den, cmpD, I.den, I.ldn]; omega))
  · first | exact dec_le_t (a := (((j : Nat) : Int) + (32 - ((j : Nat) : Int)))) (b := ((r1.length : Nat) : Int)) rfl rfl (by omega) | (first | (simp [Ev.holds, Bx.den, cmpD, I.den, I.ldn]; done) | (simp [Ev.holds, Bx.den, cmpD, I.den, I.ldn]; omega))
  · first | exact dec_le_t (a := ((1 : Int) + ((((r1.drop (((j : Nat) : Int)).toNat).take ((32 - ((j : Nat) : Int))).toNat).length : Nat) : Int))) (b := (1099511627776 : Int)) rfl rfl (by omega) | (first | (simp [Ev.holds, Bx.den, cmpD, I.den, I.ldn]; done) | (simp [Ev.holds, Bx.den, cmpD, I.den, I.ldn]; omega))
  · first | exact dec_le_t (a := ((2 : Int) + ((1 : Int) + ((((r1.drop (((j : Nat) : Int)).toNat).take ((32 - ((j : Nat) : Int))).toNat).length : Nat) : Int)))) (b := (1099511627776 : Int)) rfl rfl (by omega) | (first | (simp [Ev.holds, Bx.den, cmpD, I.den, I.ldn]; done) | (simp [Ev.holds, Bx.den, cmpD, I.den, I.ldn]; omega))
  · (refine derint_rounds w x r1 len1 j hj hs he _ (r0 := [(some 0), (some 1)]) (r1 := [some 0, some 1]) ?_ ?_ <;> clear hc hr hr1 hs he <;> (refine And.intro ?_ (And.intro ?_ (And.intro rfl (And.intro (by decide) (And.intro rfl rfl)))) <;> (repeat' (first | exact trivial | with_reducible rfl | refine And.intro ?_ ?_ | (show rn _ _ _; exact rfl) | (refine fun h => ?_; first | exact rfl | exact h) | simp only [I.den, I.ldn, Bx.den, List.getD_cons_succ, List.getD_cons_zero, List.getD_nil] | exact rfl))) <;> omega)

set_option maxHeartbeats 4000000 in
theorem derint_lo (x : Nat) (j : Nat) (hj : j < 32) (hs : ∀ k, k < j → (putN 32 x).reverse.getD k 0 = 0 ∧ (putN 32 x).reverse.getD (k + 1) 0 < 128) (he : j = 31 ∨ (j < 31 ∧ (putN 32 x).reverse.getD j 0 ≠ 0) ∨ (j < 31 ∧ (putN 32 x).reverse.getD j 0 = 0 ∧ 128 ≤ (putN 32 x).reverse.getD (j + 1) 0)) (hc : ¬ 128 ≤ (putN 32 x).reverse.getD j 0) {r : List Int} (hr : r = 2 :: ((32 - j : Nat) : Int) :: (putN 32 x).reverse.drop j) : CallS Try.prog (L0) 50 [.val (.agg #[.int .u64 (lm x 0), .int .u64 (lm x 1), .int .u64 (lm x 2), .int .u64 (lm x 3)])] [.fresh 5 r 0 r.length true] := by
  refine callS_of Try.func50 (by kernel_rfl) (by kernel_rfl) (fun w us hK hG ha => ?_)
  obtain ⟨_, _, rfl, rfl, rfl⟩ := ha
  obtain ⟨r1, hr1⟩ : ∃ r : List Int, r = (putN 32 x).reverse := ⟨_, rfl⟩
  have len1 : r1.length = 32 := by rw [hr1, List.length_reverse, putN_length]
  have hb1 : IsBytes r1 := by rw [hr1]; exact (putN_bytes _ _).reverse
  rw [← hr1] at hs he hc hr
  have hc' : ¬ 128 ≤ r1.getD (((j : Nat) : Int)).toNat 0 := hc
  have hrun := calls_of_runS (P := Try.prog) (v := ⟨fun n => ([((lm x 0 : Nat) : Int), ((lm x 1 : Nat) : Int), ((lm x 2 : Nat) : Int), ((lm x 3 : Nat) : Int), 0, ((j : Nat) : Int), (32 - ((j : Nat) : Int))] : List Int).getD n 0, fun n => ([] : List Bool).getD n false, fun n => ([[], [], [], [], r1] : List (List Int)).getD n [], fun n => ([] : List (List (List Int))).getD n [], L0, w⟩) (gs := []) (fuel := 3000) (nv := 4) (args := [(.agg [.int .u64 (.var 0), .int .u64 (.var 1), .int .u64 (.var 2), .int .u64 (.var 3)])]) (ora := [some false]) (sums := [some ⟨[(3, (.one (.bsl 1 (.var 5) (.var 6) false)))], [], 7, (.exit 0)⟩]) (r := ⟨[(.fresh 5 (.app (.cons (.lit 2) (.cons (.conv .u8 (.var 6)) .nil)) (.part (.lvar 4) (.var 5) (.var 6))) (.lit 0) (.sum (.lit 2) (.len (.part (.lvar 4) (.var 5) (.var 6)))) true)], [.callS 16 [(.val (.agg [.int .u64 (.var 0), .int .u64 (.var 1), .int .u64 (.var 2), .int .u64 (.var 3)]))] [(.fresh 5 (.lvar 4) (.lit 0) (.len (.lvar 4)) true)], .dec (.cmp .lss (.lit 0) (.var 6)) true, .dec (.cmp .lss (.var 5) (.len (.lvar 4))) true, .dec (.cmp .geq (.get (.lvar 4) (.var 5)) (.lit 128)) false, .dec (.cmp .leq (.sum (.var 5) (.var 6)) (.len (.lvar 4))) true, .dec (.cmp .leq (.sum (.lit 2) (.len (.part (.lvar 4) (.var 5) (.var 6)))) (.lit 1099511627776)) true], [⟨loopOf Try.f50 0, derint_pre, derint_head, (.exit 0)⟩]⟩) Try.func50 (by kernel_rfl)
    (evs_of ⟨?_, ?_, ?_, ?_, ?_, ?_, trivial⟩) (levs_of ⟨?_, trivial⟩) (GsOk.nil _) hK hG _ (⟨_, _, rfl, rfl, rfl⟩)
  · exact runS_eq hrun (by (have hp : (List.take (32 - ((j : Nat) : Int)).toNat (List.drop (((j : Nat) : Int)).toNat r1)) = r1.drop j := (by rw [Int.toNat_natCast, List.take_of_length_le (by rw [List.length_drop]; omega)]); have hd : (r1.drop j).length = 32 - j := (by rw [List.length_drop, len1]); have E : r = (([(2 : Int), (IntKind.u8.wrap (32 - ((j : Nat) : Int)))] : List Int) ++ ((r1.drop (((j : Nat) : Int)).toNat).take ((32 - ((j : Nat) : Int))).toNat)) := (by rw [hr, hp, show IntKind.u8.wrap (32 - ((j : Nat) : Int)) = ((32 - j : Nat) : Int) by rw [IntKind.wrap_u8]; omega]; rfl); have E2 : (((2 : Int) + ((((r1.drop (((j : Nat) : Int)).toNat).take ((32 - ((j : Nat) : Int))).toNat).length : Nat) : Int))).toNat = r.length := (by rw [hr, hp]; simp only [List.length_cons, hd]; omega); show [SRes.fresh 5 ((([(2 : Int), (IntKind.u8.wrap (32 - ((j : Nat) : Int)))] : List Int) ++ ((r1.drop (((j : Nat) : Int)).toNat).take ((32 - ((j : Nat) : Int))).toNat))) 0 (((2 : Int) + ((((r1.drop (((j : Nat) : Int)).toNat).take ((32 - ((j : Nat) : Int))).toNat).length : Nat) : Int))).toNat true] = _; rw [E2, ← E]))
  · exact CallS.g (putb_s x hr1)
  · first | exact dec_lt_t (a := (0 : Int)) (b := (32 - ((j : Nat) : Int))) rfl rfl (by omega) | (first | (simp [Ev.holds, Bx.den, cmpD, I.den, I.ldn]; done) | (simp [Ev.holds, Bx.den, cmpD, I.den, I.ldn]; omega))
  · first | exact dec_lt_t (a := ((j : Nat) : Int)) (b := ((r1.length : Nat) : Int)) rfl rfl (by omega) | (first | (simp [Ev.holds, Bx.den, cmpD, I.den, I.ldn]; done) | (simp [Ev.holds, Bx.den, cmpD, I.den, I.ldn]; omega))
  · first | exact dec_ge_f (a := (r1.getD (((j : Nat) : Int)).toNat 0)) (b := (128 : Int)) rfl rfl (by omega) | (first | (simp [Ev.holds, Bx.den, cmpD, I.den, I.ldn]; done) | (simp [Ev.holds, Bx.den, cmpD, I.den, I.ldn]; omega))
  · first | exact dec_le_t (a := (((j : Nat) : Int) + (32 - ((j : Nat) : Int)))) (b := ((r1.length : Nat) : Int)) rfl rfl (by omega) | (first | (simp [Ev.holds, Bx.den, cmpD, I.den, I.ldn]; done) | (simp [Ev.holds, Bx.den, cmpD, I.den, I.ldn]; omega))
  · first | exact dec_le_t (a := ((2 : Int) + ((((r1.drop (((j : Nat) : Int)).toNat).take ((32 - ((j : Nat) : Int))).toNat).length : Nat) : Int))) (b := (1099511627776 : Int)) rfl rfl (by omega) | (first | (simp [Ev.holds, Bx.den, cmpD, I.den, I.ldn]; done) | (simp [Ev.holds, Bx.den, cmpD, I.den, I.ldn]; omega))
  · (refine derint_rounds w x r1 len1 j hj hs he _ (r0 := [(some 0), (some 1)]) (r1 := [some 0, some 1]) ?_ ?_ <;> clear hc hr hr1 hs he <;> (refine And.intro ?_ (And.intro ?_ (And.intro rfl (And.intro (by decide) (And.intro rfl rfl)))) <;> (repeat' (first | exact trivial | with_reducible rfl | refine And.intro ?_ ?_ | (show rn _ _ _; exact rfl) | (refine fun h => ?_; first | exact rfl | exact h) | simp only [I.den, I.ldn, Bx.den, List.getD_cons_succ, List.getD_cons_zero, List.getD_nil] | exact rfl))) <;> omega)

theorem derint_s (x : Nat) {r : List Int} (hr : r = derI x) : CallS Try.prog L0 50 [.val (.agg #[.int .u64 (lm x 0), .int .u64 (lm x 1), .int .u64 (lm x 2), .int .u64 (lm x 3)])] [.fresh 5 r 0 r.length true] := by
  obtain ⟨j, hj, hs, he, hd⟩ := stop_at (l := (putN 32 x).reverse) (by rw [List.length_reverse, putN_length]) (putN_bytes _ _).reverse
  rw [derI, hd] at hr
  by_cases hc : 128 ≤ (putN 32 x).reverse.getD j 0
  · rw [if_pos hc] at hr
    exact derint_hi x j hj hs he hc hr
  · rw [if_neg hc] at hr
    exact derint_lo x j hj hs he hc hr

abbrev rint_env (w : World) (x : Nat) (l : List Int) (i : Int) : Env := ⟨fun n => ([((lm x 0 : Nat) : Int), ((lm x 1 : Nat) : Int), ((lm x 2 : Nat) : Int), ((lm x 3 : Nat) : Int), 0, i] : List Int).getD n 0, fun n => ([] : List Bool).getD n false, fun n => ([[], [], [], [], l] : List (List Int)).getD n [], fun n => ([] : List (List (List Int))).getD n [], L0, w⟩
abbrev rint_head : Fm := ⟨[(.one (.agg [.int .u64 (.var 0), .int .u64 (.var 1), .int .u64 (.var 2), .int .u64 (.var 3)])), (.one (.ptr 0 0)), (.one .nils), (.one (.bsl 1 (.lit 0) (.len (.lvar 4)) true)), (.one (.sc (.int .i64 (.var 5)))), .undef, .undef, (.one (.agg [.int .u64 (.var 0), .int .u64 (.var 1), .int .u64 (.var 2), .int .u64 (.var 3)])), (.one (.bsl 1 (.lit 0) (.len (.lvar 4)) true)), .undef, .undef, .undef, .undef, .undef, .undef, .undef, .undef, .undef, .undef, .undef, .undef, .undef, .undef, .undef, .undef, .undef, .undef, .undef, .undef, .undef, .undef, .undef, .undef, .undef, .undef, .undef, .undef, .undef, .undef, .undef, .undef, .undef, .undef], [⟨24, [(.sc (.int .u64 (.var 0))), (.sc (.int .u64 (.var 1))), (.sc (.int .u64 (.var 2))), (.sc (.int .u64 (.var 3)))], false, true, false, none⟩, ⟨5, [], true, true, false, (some (.u8, (.lvar 4)))⟩], []⟩
abbrev rint_pre : Fm := ⟨[(.one (.agg [.int .u64 (.var 0), .int .u64 (.var 1), .int .u64 (.var 2), .int .u64 (.var 3)])), (.one (.ptr 0 0)), (.one .nils), (.one (.bsl 1 (.lit 0) (.len (.lvar 4)) true)), (.one (.sc (.int .i64 (.lit 0)))), .undef, .undef, (.one (.agg [.int .u64 (.var 0), .int .u64 (.var 1), .int .u64 (.var 2), .int .u64 (.var 3)])), (.one (.bsl 1 (.lit 0) (.len (.lvar 4)) true)), .undef, .undef, .undef, .undef, .undef, .undef, .undef, .undef, .undef, .undef, .undef, .undef, .undef, .undef, .undef, .undef, .undef, .undef, .undef, .undef, .undef, .undef, .undef, .undef, .undef, .undef, .undef, .undef, .undef, .undef, .undef, .undef, .undef, .undef], [⟨24, [(.sc (.int .u64 (.var 0))), (.sc (.int .u64 (.var 1))), (.sc (.int .u64 (.var 2))), (.sc (.int .u64 (.var 3)))], false, true, false, none⟩, ⟨5, [], true, true, false, (some (.u8, (.lvar 4)))⟩], []⟩
set_option maxHeartbeats 4000000 in
theorem rint_more (w : World) (x : Nat) (l : List Int)  (i : Int) (hl : l.length = 32) (h0 : 0 ≤ i) (h1 : i < 31) (he : l.getD i.toNat 0 = 0) : Round Try.prog (loopOf Try.f51 0) rint_head (rint_env w x l i) .normal rint_head (rint_env w x l (i + 1)) := by
  refine Round.mk (⟨fun n => ([((lm x 0 : Nat) : Int), ((lm x 1 : Nat) : Int), ((lm x 2 : Nat) : Int), ((lm x 3 : Nat) : Int), 0, i] : List Int).getD n 0, fun n => ([] : List Bool).getD n false, fun n => ([[], [], [], [], l] : List (List Int)).getD n [], fun n => ([] : List (List (List Int))).getD n [], L0, w⟩) [some 0, some 1] [(some 0), (some 1)] 3000 6 [some true, some true] [] ⟨⟨[(.one (.agg [.int .u64 (.var 0), .int .u64 (.var 1), .int .u64 (.var 2), .int .u64 (.var 3)])), (.one (.ptr 0 0)), (.one .nils), (.one (.bsl 1 (.lit 0) (.len (.lvar 4)) true)), (.one (.sc (.int .i64 (.add .i64 (.var 5) (.lit 1))))), .undef, .undef, (.one (.agg [.int .u64 (.var 0), .int .u64 (.var 1), .int .u64 (.var 2), .int .u64 (.var 3)])), (.one (.bsl 1 (.lit 0) (.len (.lvar 4)) true)), (.one (.sc (.int .i64 (.var 5)))), (.one (.sc (.bool (.lit true)))), (.one (.sc (.bool (.lit true)))), (.one (.bsl 1 (.lit 0) (.len (.lvar 4)) true)), (.one (.sc (.int .i64 (.var 5)))), (.one (.bptr 1 (.var 5))), (.one (.sc (.int .u8 (.get (.lvar 4) (.var 5))))), (.one (.sc (.bool (.lit true)))), (.one (.sc (.bool (.lit true)))), (.one (.sc (.int .i64 (.var 5)))), (.one (.sc (.int .i64 (.add .i64 (.var 5) (.lit 1))))), .undef, .undef, .undef, .undef, .undef, .undef, .undef, .undef, .undef, .undef, .undef, .undef, .undef, .undef, .undef, .undef, .undef, .undef, .undef, .undef, .undef, .undef, .undef], [⟨24, [(.sc (.int .u64 (.var 0))), (.sc (.int .u64 (.var 1))), (.sc (.int .u64 (.var 2))), (.sc (.int .u64 (.var 3)))], false, true, false, none⟩, ⟨5, [], true, true, false, (some (.u8, (.lvar 4)))⟩], []⟩, 6, [], [], [.dec (.cmp .lss (.var 5) (.lit 31)) true, .dec (.cmp .leq (.lit 0) (.var 5)) true, .dec (.cmp .lss (.var 5) (.len (.lvar 4))) true, .dec (.cmp .lss (.var 5) (.len (.lvar 4))) true, .dec (.cmp .eql (.get (.lvar 4) (.var 5)) (.lit 0)) true], []⟩ (by (refine And.intro ?_ (And.intro ?_ (And.intro rfl (And.intro (by decide) (And.intro rfl rfl)))) <;> (repeat' (first | exact trivial | with_reducible rfl | refine And.intro ?_ ?_ | (show rn _ _ _; exact rfl) | (refine fun h => ?_; first | exact rfl | exact h) | simp only [I.den, I.ldn, Bx.den, List.getD_cons_succ, List.getD_cons_zero, List.getD_nil] | exact rfl)))) (by kernel_rfl) ⟨evs_of ⟨?_, ?_, ?_, ?_, ?_, trivial⟩, by simp⟩ ?_
  · first | exact dec_lt_t (a := i) (b := (31 : Int)) rfl rfl (by omega) | (first | (simp [Ev.holds, Bx.den, cmpD, I.den, I.ldn]; done) | (simp [Ev.holds, Bx.den, cmpD, I.den, I.ldn]; omega))
  · first | exact dec_le_t (a := (0 : Int)) (b := i) rfl rfl (by omega) | (first | (simp [Ev.holds, Bx.den, cmpD, I.den, I.ldn]; done) | (simp [Ev.holds, Bx.den, cmpD, I.den, I.ldn]; omega))
  · first | exact dec_lt_t (a := i) (b := ((l.length : Nat) : Int)) rfl rfl (by omega) | (first | (simp [Ev.holds, Bx.den, cmpD, I.den, I.ldn]; done) | (simp [Ev.holds, Bx.den, cmpD, I.den, I.ldn]; omega))
  · first | exact dec_lt_t (a := i) (b := ((l.length : Nat) : Int)) rfl rfl (by omega) | (first | (simp [Ev.holds, Bx.den, cmpD, I.den, I.ldn]; done) | (simp [Ev.holds, Bx.den, cmpD, I.den, I.ldn]; omega))
  · first | exact dec_eq_t (a := (l.getD (i).toNat 0)) (b := (0 : Int)) rfl rfl (by omega) | (first | (simp [Ev.holds, Bx.den, cmpD, I.den, I.ldn]; done) | (simp [Ev.holds, Bx.den, cmpD, I.den, I.ldn]; omega))
  · (refine And.intro ?_ (And.intro ?_ (And.intro rfl (And.intro (by decide) (And.intro rfl rfl)))) <;> (repeat' (first | exact trivial | with_reducible rfl | refine And.intro ?_ ?_ | (show rn _ _ _; exact rfl) | (refine fun h => ?_; first | exact rfl | exact h) | simp only [I.den, I.ldn, Bx.den, List.getD_cons_succ, List.getD_cons_zero, List.getD_nil] | exact rfl)))
    all_goals (rw [IntKind.wrap_i64]; omega)
set_option maxHeartbeats 4000000 in
theorem rint_all (w : World) (x : Nat) (l : List Int)  (i : Int) (h0 : 31 ≤ i) : Round Try.prog (loopOf Try.f51 0) rint_head (rint_env w x l i) (.exit 0) rint_head (rint_env w x l i) := by
  refine Round.mk (⟨fun n => ([((lm x 0 : Nat) : Int), ((lm x 1 : Nat) : Int), ((lm x 2 : Nat) : Int), ((lm x 3 : Nat) : Int), 0, i] : List Int).getD n 0, fun n => ([] : List Bool).getD n false, fun n => ([[], [], [], [], l] : List (List Int)).getD n [], fun n => ([] : List (List (List Int))).getD n [], L0, w⟩) [some 0, some 1] [(some 0), (some 1)] 3000 6 [some false] [] ⟨⟨[(.one (.agg [.int .u64 (.var 0), .int .u64 (.var 1), .int .u64 (.var 2), .int .u64 (.var 3)])), (.one (.ptr 0 0)), (.one .nils), (.one (.bsl 1 (.lit 0) (.len (.lvar 4)) true)), (.one (.sc (.int .i64 (.var 5)))), .undef, .undef, (.one (.agg [.int .u64 (.var 0), .int .u64 (.var 1), .int .u64 (.var 2), .int .u64 (.var 3)])), (.one (.bsl 1 (.lit 0) (.len (.lvar 4)) true)), (.one (.sc (.int .i64 (.var 5)))), (.one (.sc (.bool (.lit false)))), (.one (.sc (.bool (.lit false)))), (.tup []), (.tup []), (.tup []), (.tup []), (.tup []), (.one (.sc (.bool (.lit false)))), .undef, .undef, .undef, .undef, .undef, .undef, .undef, .undef, .undef, .undef, .undef, .undef, .undef, .undef, .undef, .undef, .undef, .undef, .undef, .undef, .undef, .undef, .undef, .undef, .undef], [⟨24, [(.sc (.int .u64 (.var 0))), (.sc (.int .u64 (.var 1))), (.sc (.int .u64 (.var 2))), (.sc (.int .u64 (.var 3)))], false, true, false, none⟩, ⟨5, [], true, true, false, (some (.u8, (.lvar 4)))⟩], []⟩, 6, [], [], [.dec (.cmp .lss (.var 5) (.lit 31)) false], []⟩ (by (refine And.intro ?_ (And.intro ?_ (And.intro rfl (And.intro (by decide) (And.intro rfl rfl)))) <;> (repeat' (first | exact trivial | with_reducible rfl | refine And.intro ?_ ?_ | (show rn _ _ _; exact rfl) | (refine fun h => ?_; first | exact rfl | exact h) | simp only [I.den, I.ldn, Bx.den, List.getD_cons_succ, List.getD_cons_zero, List.getD_nil] | exact rfl)))) (by kernel_rfl) ⟨evs_of ⟨?_, trivial⟩, by simp⟩ ?_
  · first | exact dec_lt_f (a := i) (b := (31 : Int)) rfl rfl (by omega) | (first | (simp [Ev.holds, Bx.den, cmpD, I.den, I.ldn]; done) | (simp [Ev.holds, Bx.den, cmpD, I.den, I.ldn]; omega))
  · (refine And.intro ?_ (And.intro ?_ (And.intro rfl (And.intro (by decide) (And.intro rfl rfl)))) <;> (repeat' (first | exact trivial | with_reducible rfl | refine And.intro ?_ ?_ | (show rn _ _ _; exact rfl) | (refine fun h => ?_; first | exact rfl | exact h) | simp only [I.den, I.ldn, Bx.den, List.getD_cons_succ, List.getD_cons_zero, List.getD_nil] | exact rfl)))
set_option maxHeartbeats 4000000 in
theorem rint_here (w : World) (x : Nat) (l : List Int)  (i : Int) (hl : l.length = 32) (h0 : 0 ≤ i) (h1 : i < 31) (he : ¬ l.getD i.toNat 0 = 0) : Round Try.prog (loopOf Try.f51 0) rint_head (rint_env w x l i) (.exit 0) rint_head (rint_env w x l i) := by
  refine Round.mk (⟨fun n => ([((lm x 0 : Nat) : Int), ((lm x 1 : Nat) : Int), ((lm x 2 : Nat) : Int), ((lm x 3 : Nat) : Int), 0, i] : List Int).getD n 0, fun n => ([] : List Bool).getD n false, fun n => ([[], [], [], [], l] : List (List Int)).getD n [], fun n => ([] : List (List (List Int))).getD n [], L0, w⟩) [some 0, some 1] [(some 0), (some 1)] 3000 6 [some true, some false] [] ⟨⟨[(.one (.agg [.int .u64 (.var 0), .int .u64 (.var 1), .int .u64 (.var 2), .int .u64 (.var 3)])), (.one (.ptr 0 0)), (.one .nils), (.one (.bsl 1 (.lit 0) (.len (.lvar 4)) true)), (.one (.sc (.int .i64 (.var 5)))), .undef, .undef, (.one (.agg [.int .u64 (.var 0), .int .u64 (.var 1), .int .u64 (.var 2), .int .u64 (.var 3)])), (.one (.bsl 1 (.lit 0) (.len (.lvar 4)) true)), (.one (.sc (.int .i64 (.var 5)))), (.one (.sc (.bool (.lit true)))), (.one (.sc (.bool (.lit true)))), (.one (.bsl 1 (.lit 0) (.len (.lvar 4)) true)), (.one (.sc (.int .i64 (.var 5)))), (.one (.bptr 1 (.var 5))), (.one (.sc (.int .u8 (.get (.lvar 4) (.var 5))))), (.one (.sc (.bool (.lit false)))), (.one (.sc (.bool (.lit false)))), .undef, .undef, .undef, .undef, .undef, .undef, .undef, .undef, .undef, .undef, .undef, .undef, .undef, .undef, .undef, .undef, .undef, .undef, .undef, .undef, .undef, .undef, .undef, .undef, .undef], [⟨24, [(.sc (.int .u64 (.var 0))), (.sc (.int .u64 (.var 1))), (.sc (.int .u64 (.var 2))), (.sc (.int .u64 (.var 3)))], false, true, false, none⟩, ⟨5, [], true, true, false, (some (.u8, (.lvar 4)))⟩], []⟩, 6, [], [], [.dec (.cmp .lss (.var 5) (.lit 31)) true, .dec (.cmp .leq (.lit 0) (.var 5)) true, .dec (.cmp .lss (.var 5) (.len (.lvar 4))) true, .dec (.cmp .lss (.var 5) (.len (.lvar 4))) true, .dec (.cmp .eql (.get (.lvar 4) (.var 5)) (.lit 0)) false], []⟩ (by (refine And.intro ?_ (And.intro ?_ (And.intro rfl (And.intro (by decide) (And.intro rfl rfl)))) <;> (repeat' (first | exact trivial | with_reducible rfl | refine And.intro ?_ ?_ | (show rn _ _ _; exact rfl) | (refine fun h => ?_; first | exact rfl | exact h) | simp only [I.den, I.ldn, Bx.den, List.getD_cons_succ, List.getD_cons_zero, List.getD_nil] | exact rfl)))) (by kernel_rfl) ⟨evs_of ⟨?_, ?_, ?_, ?_, ?_, trivial⟩, by simp⟩ ?_
  · first | exact dec_lt_t (a := i) (b := (31 : Int)) rfl rfl (by omega) | (first | (simp [Ev.holds, Bx.den, cmpD, I.den, I.ldn]; done) | (simp [Ev.holds, Bx.den, cmpD, I.den, I.ldn]; omega))
  · first | exact dec_le_t (a := (0 : Int)) (b := i) rfl rfl (by omega) | (first | (simp [Ev.holds, Bx.den, cmpD, I.den, I.ldn]; done) | (simp [Ev.holds, Bx.den, cmpD, I.den, I.ldn]; omega))
  · first | exact dec_lt_t (a := i) (b := ((l.length : Nat) : Int)) rfl rfl (by omega) | (first | (simp [Ev.holds, Bx.den, cmpD, I.den, I.ldn]; done) | (simp [Ev.holds, Bx.den, cmpD, I.den, I.ldn]; omega))
  · first | exact dec_lt_t (a := i) (b := ((l.length : Nat) : Int)) rfl rfl (by omega) | (first | (simp [Ev.holds, Bx.den, cmpD, I.den, I.ldn]; done) | (simp [Ev.holds, Bx.den, cmpD, I.den, I.ldn]; omega))
  · first | exact dec_eq_f (a := (l.getD (i).toNat 0)) (b := (0 : Int)) rfl rfl (by omega) | (first | (simp [Ev.holds, Bx.den, cmpD, I.den, I.ldn]; done) | (simp [Ev.holds, Bx.den, cmpD, I.den, I.ldn]; omega))
  · (refine And.intro ?_ (And.intro ?_ (And.intro rfl (And.intro (by decide) (And.intro rfl rfl)))) <;> (repeat' (first | exact trivial | with_reducible rfl | refine And.intro ?_ ?_ | (show rn _ _ _; exact rfl) | (refine fun h => ?_; first | exact rfl | exact h) | simp only [I.den, I.ldn, Bx.den, List.getD_cons_succ, List.getD_cons_zero, List.getD_nil] | exact rfl)))

theorem rint_rounds (w : World) (x : Nat) (l : List Int) (hl : l.length = 32) (j : Nat) (hj : j < 32) (hs : ∀ k, k < j → l.getD k 0 = 0) (he : j = 31 ∨ (j < 31 ∧ l.getD j 0 ≠ 0))
    (v : Env) {r0 r1 : List (Option Nat)} (start : Fm.to v (rint_env w x l 0) r0 rint_pre rint_head) (fin : Fm.to (rint_env w x l ((j : Nat) : Int)) v r1 rint_head rint_head) :
    LEv.holds Try.prog v ⟨loopOf Try.f51 0, rint_pre, rint_head, (.exit 0)⟩ := by
  refine loop_rounds (r0 := r0) (n := j) (head := rint_head) (fun k => rint_env w x l (k : Int)) start ?_ (rint_env w x l ((j : Nat) : Int)) ?_ fin (by decide)
  · intro k hk
    exact rint_more w x l (k : Int) hl (by omega) (by omega) (by rw [Int.toNat_natCast]; exact hs k hk)
  · rcases he with he | ⟨h1, h2⟩
    · exact rint_all w x l _ (by omega)
    · exact rint_here w x l _ hl (by omega) (by omega) (by rw [Int.toNat_natCast]; exact h2)

set_option maxHeartbeats 4000000 in
theorem rint_hi (x : Nat) (j : Nat) (hj : j < 32) (hs : ∀ k, k < j → (putN 32 x).reverse.getD k 0 = 0) (he : j = 31 ∨ (j < 31 ∧ (putN 32 x).reverse.getD j 0 ≠ 0)) (hc : 128 ≤ (putN 32 x).reverse.getD j 0) {r : List Int} (hr : r = 2 :: ((33 - j : Nat) : Int) :: 0 :: (putN 32 x).reverse.drop j) : CallS Try.prog (L0) 51 [.val (.agg #[.int .u64 (lm x 0), .int .u64 (lm x 1), .int .u64 (lm x 2), .int .u64 (lm x 3)])] [.fresh 5 r 0 r.length true] := by
  refine callS_of Try.func51 (by kernel_rfl) (by kernel_rfl) (fun w us hK hG ha => ?_)
  obtain ⟨_, _, rfl, rfl, rfl⟩ := ha
  obtain ⟨r1, hr1⟩ : ∃ r : List Int, r = (putN 32 x).reverse := ⟨_, rfl⟩
  have len1 : r1.length = 32 := by rw [hr1, List.length_reverse, putN_length]
  have hb1 : IsBytes r1 := by rw [hr1]; exact (putN_bytes _ _).reverse
  rw [← hr1] at hs he hc hr
  have hc' : 128 ≤ r1.getD (((j : Nat) : Int)).toNat 0 := hc
  have hrun := calls_of_runS (P := Try.prog) (v := ⟨fun n => ([((lm x 0 : Nat) : Int), ((lm x 1 : Nat) : Int), ((lm x 2 : Nat) : Int), ((lm x 3 : Nat) : Int), 0, ((j : Nat) : Int)] : List Int).getD n 0, fun n => ([] : List Bool).getD n false, fun n => ([[], [], [], [], r1] : List (List Int)).getD n [], fun n => ([] : List (List (List Int))).getD n [], L0, w⟩) (gs := []) (fuel := 3000) (nv := 4) (args := [(.agg [.int .u64 (.var 0), .int .u64 (.var 1), .int .u64 (.var 2), .int .u64 (.var 3)])]) (ora := [some true]) (sums := [some ⟨[(4, (.one (.sc (.int .i64 (.var 5)))))], [], 6, (.exit 0)⟩]) (r := ⟨[(.fresh 5 (.app (.cons (.lit 2) (.cons (.conv .u8 (.add .i64 (.sub .i64 (.lit 32) (.var 5)) (.lit 1))) (.cons (.lit 0) .nil))) (.part (.lvar 4) (.var 5) (.dif (.len (.lvar 4)) (.var 5)))) (.lit 0) (.sum (.lit 3) (.len (.part (.lvar 4) (.var 5) (.dif (.len (.lvar 4)) (.var 5))))) true)], [.callS 58 [(.val (.agg [.int .u64 (.var 0), .int .u64 (.var 1), .int .u64 (.var 2), .int .u64 (.var 3)]))] [(.fresh 5 (.lvar 4) (.lit 0) (.len (.lvar 4)) true)], .dec (.cmp .leq (.lit 0) (.var 5)) true, .dec (.cmp .lss (.var 5) (.len (.lvar 4))) true, .dec (.cmp .lss (.var 5) (.len (.lvar 4))) true, .dec (.cmp .geq (.get (.lvar 4) (.var 5)) (.lit 128)) true, .dec (.cmp .leq (.lit 0) (.var 5)) true, .dec (.cmp .leq (.var 5) (.len (.lvar 4))) true, .dec (.cmp .leq (.sum (.var 5) (.dif (.len (.lvar 4)) (.var 5))) (.len (.lvar 4))) true, .dec (.cmp .leq (.sum (.lit 3) (.len (.part (.lvar 4) (.var 5) (.dif (.len (.lvar 4)) (.var 5))))) (.lit 1099511627776)) true], [⟨loopOf Try.f51 0, rint_pre, rint_head, (.exit 0)⟩]⟩) Try.func51 (by kernel_rfl)
    (evs_of ⟨?_, ?_, ?_, ?_, ?_, ?_, ?_, ?_, ?_, trivial⟩) (levs_of ⟨?_, trivial⟩) (GsOk.nil _) hK hG _ (⟨_, _, rfl, rfl, rfl⟩)
  · exact runS_eq hrun (by (have hp : (List.take (((r1.length : Nat) : Int) - ((j : Nat) : Int)).toNat (List.drop (((j : Nat) : Int)).toNat r1)) = r1.drop j := (by rw [Int.toNat_natCast, List.take_of_length_le (by rw [List.length_drop]; omega)]); have hd : (r1.drop j).length = 32 - j := (by rw [List.length_drop, len1]); have E : r = (([(2 : Int), (IntKind.u8.wrap (IntKind.i64.wrap ((IntKind.i64.wrap ((32 : Int) - ((j : Nat) : Int))) + (1 : Int)))), (0 : Int)] : List Int) ++ ((r1.drop (((j : Nat) : Int)).toNat).take ((((r1.length : Nat) : Int) - ((j : Nat) : Int))).toNat)) := (by rw [hr, hp, show IntKind.u8.wrap (IntKind.i64.wrap (IntKind.i64.wrap (32 - ((j : Nat) : Int)) + 1)) = ((33 - j : Nat) : Int) by rw [IntKind.wrap_i64, IntKind.wrap_i64, IntKind.wrap_u8]; omega]; rfl); have E2 : (((3 : Int) + ((((r1.drop (((j : Nat) : Int)).toNat).take ((((r1.length : Nat) : Int) - ((j : Nat) : Int))).toNat).length : Nat) : Int))).toNat = r.length := (by rw [hr, hp]; simp only [List.length_cons, hd]; omega); show [SRes.fresh 5 ((([(2 : Int), (IntKind.u8.wrap (IntKind.i64.wrap ((IntKind.i64.wrap ((32 : Int) - ((j : Nat) : Int))) + (1 : Int)))), (0 : Int)] : List Int) ++ ((r1.drop (((j : Nat) : Int)).toNat).take ((((r1.length : Nat) : Int) - ((j : Nat) : Int))).toNat))) 0 (((3 : Int) + ((((r1.drop (((j : Nat) : Int)).toNat).take ((((r1.length : Nat) : Int) - ((j : Nat) : Int))).toNat).length : Nat) : Int))).toNat true] = _; rw [E2, ← E]))
  · exact CallS.g (rputb_s x hr1)
  · first | exact dec_le_t (a := (0 : Int)) (b := ((j : Nat) : Int)) rfl rfl (by omega) | (first | (simp [Ev.holds, Bx.den, cmpD, I.den, I.ldn]; done) | (simp [Ev.holds, Bx.den, cmpD, I.den, I.ldn]; omega))
  · first | exact dec_lt_t (a := ((j : Nat) : Int)) (b := ((r1.length : Nat) : Int)) rfl rfl (by omega) | (first | (simp [Ev.holds, Bx.den, cmpD, I.den, I.ldn]; done) | (simp [Ev.holds, Bx.den, cmpD, I.den, I.ldn]; omega))
  · first | exact dec_lt_t (a := ((j : Nat) : Int)) (b := ((r1.length : Nat) : Int)) rfl rfl (by omega) | (first | (simp [Ev.holds, Bx.den, cmpD, I.den, I.ldn]; done) | (simp [Ev.holds, Bx.den, cmpD, I.den, I.ldn]; omega))
  · first | exact dec_ge_t (a := (r1.getD (((j : Nat) : Int)).toNat 0)) (b := (128 : Int)) rfl rfl (by omega) | (first | (simp [Ev.holds, Bx.den, cmpD, I.den, I.ldn]; done) | (simp [Ev.holds, Bx.den, cmpD, I.den, I.ldn]; omega))
  · first | exact dec_le_t (a := (0 : Int)) (b := ((j : Nat) : Int)) rfl rfl (by omega) | (first | (simp [Ev.holds, Bx.den, cmpD, I.den, I.ldn]; done) | (simp [Ev.holds, Bx.den, cmpD, I.den, I.ldn]; omega))
  · first | exact dec_le_t (a := ((j : Nat) : Int)) (b := ((r1.length : Nat) : Int)) rfl rfl (by omega) | (first | (simp [Ev.holds, Bx.den, cmpD, I.den, I.ldn]; done) | (simp [Ev.holds, Bx.den, cmpD, I.den, I.ldn]; omega))
  · first | exact dec_le_t (a := (((j : Nat) : Int) + (((r1.length : Nat) : Int) - ((j : Nat) : Int)))) (b := ((r1.length : Nat) : Int)) rfl rfl (by omega) | (first | (simp [Ev.holds, Bx.den, cmpD, I.den, I.ldn]; done) | (simp [Ev.holds, Bx.den, cmpD, I.den, I.ldn]; omega))
  · first | exact dec_le_t (a := ((3 : Int) + ((((r1.drop (((j : Nat) : Int)).toNat).take ((((r1.length : Nat) : Int) - ((j : Nat) : Int))).toNat).length : Nat) : Int))) (b := (1099511627776 : Int)) rfl rfl (by omega) | (first | (simp [Ev.holds, Bx.den, cmpD, I.den, I.ldn]; done) | (simp [Ev.holds, Bx.den, cmpD, I.den, I.ldn]; omega))
  · (refine rint_rounds w x r1 len1 j hj hs he _ (r0 := [(some 0), (some 1)]) (r1 := [some 0, some 1]) ?_ ?_ <;> clear hc hr hr1 hs he <;> (refine And.intro ?_ (And.intro ?_ (And.intro rfl (And.intro (by decide) (And.intro rfl rfl)))) <;> (repeat' (first | exact trivial | with_reducible rfl | refine And.intro ?_ ?_ | (show rn _ _ _; exact rfl) | (refine fun h => ?_; first | exact rfl | exact h) | simp only [I.den, I.ldn, Bx.den, List.getD_cons_succ, List.getD_cons_zero, List.getD_nil] | exact rfl))) <;> omega)

set_option maxHeartbeats 4000000 in
theorem rint_lo (x : Nat) (j : Nat) (hj : j < 32) (hs : ∀ k, k < j → (putN 32 x).reverse.getD k 0 = 0) (he : j = 31 ∨ (j < 31 ∧ (putN 32 x).reverse.getD j 0 ≠ 0)) (hc : ¬ 128 ≤ (putN 32 x).reverse.getD j 0) {r : List Int} (hr : r = 2 :: ((32 - j : Nat) : Int) :: (putN 32 x).reverse.drop j) : CallS Try.prog (L0) 51 [.val (.agg #[.int .u64 (lm x 0), .int .u64 (lm x 1), .int .u64 (lm x 2), .int .u64 (lm x 3)])] [.fresh 5 r 0 r.length true] := by
  refine callS_of Try.func51 (by kernel_rfl) (by kernel_rfl) (fun w us hK hG ha => ?_)
  obtain ⟨_, _, rfl, rfl, rfl⟩ := ha
  obtain ⟨r1, hr1⟩ : ∃ r : List Int, r = (putN 32 x).reverse := ⟨_, rfl⟩
  have len1 : r1.length = 32 := by rw [hr1, List.length_reverse, putN_length]
  have hb1 : IsBytes r1 := by rw [hr1]; exact (putN_bytes _ _).reverse
  rw [← hr1] at hs he hc hr
  have hc' : ¬ 128 ≤ r1.getD (((j : Nat) : Int)).toNat 0 := hc
  have hrun := calls_of_runS (P := Try.prog) (v := ⟨fun n => ([((lm x 0 : Nat) : Int), ((lm x 1 : Nat) : Int), ((lm x 2 : Nat) : Int), ((lm x 3 : Nat) : Int), 0, ((j : Nat) : Int)] : List Int).getD n 0, fun n => ([] : List Bool).getD n false, fun n => ([[], [], [], [], r1] : List (List Int)).getD n [], fun n => ([] : List (List (List Int))).getD n [], L0, w⟩) (gs := []) (fuel := 3000) (nv := 4) (args := [(.agg [.int .u64 (.var 0), .int .u64 (.var 1), .int .u64 (.var 2), .int .u64 (.var 3)])]) (ora := [some false]) (sums := [some ⟨[(4, (.one (.sc (.int .i64 (.var 5)))))], [], 6, (.exit 0)⟩]) (r := ⟨[(.fresh 5 (.app (.cons (.lit 2) (.cons (.conv .u8 (.sub .i64 (.lit 32) (.var 5))) .nil)) (.part (.lvar 4) (.var 5) (.dif (.len (.lvar 4)) (.var 5)))) (.lit 0) (.sum (.lit 2) (.len (.part (.lvar 4) (.var 5) (.dif (.len (.lvar 4)) (.var 5))))) true)], [.callS 58 [(.val (.agg [.int .u64 (.var 0), .int .u64 (.var 1), .int .u64 (.var 2), .int .u64 (.var 3)]))] [(.fresh 5 (.lvar 4) (.lit 0) (.len (.lvar 4)) true)], .dec (.cmp .leq (.lit 0) (.var 5)) true, .dec (.cmp .lss (.var 5) (.len (.lvar 4))) true, .dec (.cmp .lss (.var 5) (.len (.lvar 4))) true, .dec (.cmp .geq (.get (.lvar 4) (.var 5)) (.lit 128)) false, .dec (.cmp .leq (.lit 0) (.var 5)) true, .dec (.cmp .leq (.var 5) (.len (.lvar 4))) true, .dec (.cmp .leq (.sum (.var 5) (.dif (.len (.lvar 4)) (.var 5))) (.len (.lvar 4))) true, .dec (.cmp .leq (.sum (.lit 2) (.len (.part (.lvar 4) (.var 5) (.dif (.len (.lvar 4)) (.var 5))))) (.lit 1099511627776)) true], [⟨loopOf Try.f51 0, rint_pre, rint_head, (.exit 0)⟩]⟩) Try.func51 (by kernel_rfl)
    (evs_of ⟨?_, ?_, ?_, ?_, ?_, ?_, ?_, ?_, ?_, trivial⟩) (levs_of ⟨?_, trivial⟩) (GsOk.nil _) hK hG _ (⟨_, _, rfl, rfl, rfl⟩)
  · exact runS_eq hrun (by (have hp : (List.take (((r1.length : Nat) : Int) - ((j : Nat) : Int)).toNat (List.drop (((j : Nat) : Int)).toNat r1)) = r1.drop j := (by rw [Int.toNat_natCast, List.take_of_length_le (by rw [List.length_drop]; omega)]); have hd : (r1.drop j).length = 32 - j := (by rw [List.length_drop, len1]); have E : r = (([(2 : Int), (IntKind.u8.wrap (IntKind.i64.wrap ((32 : Int) - ((j : Nat) : Int))))] : List Int) ++ ((r1.drop (((j : Nat) : Int)).toNat).take ((((r1.length : Nat) : Int) - ((j : Nat) : Int))).toNat)) := (by rw [hr, hp, show IntKind.u8.wrap (IntKind.i64.wrap (32 - ((j : Nat) : Int))) = ((32 - j : Nat) : Int) by rw [IntKind.wrap_i64, IntKind.wrap_u8]; omega]; rfl); have E2 : (((2 : Int) + ((((r1.drop (((j : Nat) : Int)).toNat).take ((((r1.length : Nat) : Int) - ((j : Nat) : Int))).toNat).length : Nat) : Int))).toNat = r.length := (by rw [hr, hp]; simp only [List.length_cons, hd]; omega); show [SRes.fresh 5 ((([(2 : Int), (IntKind.u8.wrap (IntKind.i64.wrap ((32 : Int) - ((j : Nat) : Int))))] : List Int) ++ ((r1.drop (((j : Nat) : Int)).toNat).take ((((r1.length : Nat) : Int) - ((j : Nat) : Int))).toNat))) 0 (((2 : Int) + ((((r1.drop (((j : Nat) : Int)).toNat).take ((((r1.length : Nat) : Int) - ((j : Nat) : Int))).toNat).length : Nat) : Int))).toNat true] = _; rw [E2, ← E]))
  · exact CallS.g (rputb_s x hr1)
  · first | exact dec_le_t (a := (0 : Int)) (b := ((j : Nat) : Int)) rfl rfl (by omega) | (first | (simp [Ev.holds, Bx.den, cmpD, I.den, I.ldn]; done) | (simp [Ev.holds, Bx.den, cmpD, I.den, I.ldn]; omega))
  · first | exact dec_lt_t (a := ((j : Nat) : Int)) (b := ((r1.length : Nat) : Int)) rfl rfl (by omega) | (first | (simp [Ev.holds, Bx.den, cmpD, I.den, I.ldn]; done) | (simp [Ev.holds, Bx.den, cmpD, I.den, I.ldn]; omega))
  · first | exact dec_lt_t (a := ((j : Nat) : Int)) (b := ((r1.length : Nat) : Int)) rfl rfl (by omega) | (first | (simp [Ev.holds, Bx.den, cmpD, I.den, I.ldn]; done) | (simp [Ev.holds, Bx.den, cmpD, I.den, I.ldn]; omega))
  · first | exact dec_ge_f (a := (r1.getD (((j : Nat) : Int)).toNat 0)) (b := (128 : Int)) rfl rfl (by omega) | (first | (simp [Ev.holds, Bx.den, cmpD, I.den, I.ldn]; done) | (simp [Ev.holds, Bx.den, cmpD, I.den, I.ldn]; omega))
  · first | exact dec_le_t (a := (0 : Int)) (b := ((j : Nat) : Int)) rfl rfl (by omega) | (first | (simp [Ev.holds, Bx.den, cmpD, I.den, I.ldn]; done) | (simp [Ev.holds, Bx.den, cmpD, I.den, I.ldn]; omega))
  · first | exact dec_le_t (a := ((j : Nat) : Int)) (b := ((r1.length : Nat) : Int)) rfl rfl (by omega) | (first | (simp [Ev.holds, Bx.den, cmpD, I.den, I.ldn]; done) | (simp [Ev.holds, Bx.den, cmpD, I.den, I.ldn]; omega))
  · first | exact dec_le_t (a := (((j : Nat) : Int) + (((r1.length : Nat) : Int) - ((j : Nat) : Int)))) (b := ((r1.length : Nat) : Int)) rfl rfl (by omega) | (first | (simp [Ev.holds, Bx.den, cmpD, I.den, I.ldn]; done) | (simp [Ev.holds, Bx.den, cmpD, I.den, I.ldn]; omega))
  · first | exact dec_le_t (a := ((2 : Int) + ((((r1.drop (((j : Nat) : Int)).toNat).take ((((r1.length : Nat) : Int) - ((j : Nat) : Int))).toNat).length : Nat) : Int))) (b := (1099511627776 : Int)) rfl rfl (by omega) | (first | (simp [Ev.holds, Bx.den, cmpD, I.den, I.ldn]; done) | (simp [Ev.holds, Bx.den, cmpD, I.den, I.ldn]; omega))
  · (refine rint_rounds w x r1 len1 j hj hs he _ (r0 := [(some 0), (some 1)]) (r1 := [some 0, some 1]) ?_ ?_ <;> clear hc hr hr1 hs he <;> (refine And.intro ?_ (And.intro ?_ (And.intro rfl (And.intro (by decide) (And.intro rfl rfl)))) <;> (repeat' (first | exact trivial | with_reducible rfl | refine And.intro ?_ ?_ | (show rn _ _ _; exact rfl) | (refine fun h => ?_; first | exact rfl | exact h) | simp only [I.den, I.ldn, Bx.den, List.getD_cons_succ, List.getD_cons_zero, List.getD_nil] | exact rfl))) <;> omega)

theorem rint_s (x : Nat) {r : List Int} (hr : r = derI x) : CallS Try.prog L0 51 [.val (.agg #[.int .u64 (lm x 0), .int .u64 (lm x 1), .int .u64 (lm x 2), .int .u64 (lm x 3)])] [.fresh 5 r 0 r.length true] := by
  obtain ⟨h1, h2, h3⟩ := lead_spec (putN 32 x).reverse (by intro h; have := congrArg List.length h; rw [List.length_reverse, putN_length] at this; cases this)
  rw [List.length_reverse, putN_length] at h1 h3
  have he : lead (putN 32 x).reverse = 31 ∨ (lead (putN 32 x).reverse < 31 ∧ (putN 32 x).reverse.getD (lead (putN 32 x).reverse) 0 ≠ 0) := by
    by_cases h : lead (putN 32 x).reverse = 31
    · exact .inl h
    · rcases h3 with h3 | h3
      · omega
      · exact .inr ⟨by omega, h3⟩
  rw [derI, derL] at hr
  by_cases hc : 128 ≤ (putN 32 x).reverse.getD (lead (putN 32 x).reverse) 0
  · rw [if_pos hc] at hr
    exact rint_hi x _ h1 h2 he hc hr
  · rw [if_neg hc] at hr
    exact rint_lo x _ h1 h2 he hc hr


theorem leN_zero : ∀ (l : List Int), (∀ k, k < l.length → l.getD k 0 = 0) → leN l = 0
  | [], _ => rfl
  | a :: l, h => by
    have h0 : a = 0 := by simpa using h 0 (by simp)
    have := leN_zero l fun k hk => by simpa using h (k + 1) (by simpa using hk)
    rw [leN, this, h0]
    rfl
theorem putN_get : ∀ (n x k : Nat), k < n → (putN n x).getD k 0 = ((x / 256 ^ k % 256 : Nat) : Int)
  | 0, x, k, h => by omega
  | n + 1, x, 0, h => by simp [putN]
  | n + 1, x, k + 1, h => by
    have := putN_get n (x / 256) k (by omega)
    rw [putN, List.getD_cons_succ, this, Nat.div_div_eq_div_mul, Nat.pow_succ, Nat.mul_comm 256]
theorem rev_get (l : List Int) (k : Nat) (h : k < l.length) : l.reverse.getD k 0 = l.getD (l.length - 1 - k) 0 := by
  rw [List.getD_eq_getElem?_getD, List.getD_eq_getElem?_getD, List.getElem?_reverse h]
/-- the shape of a number's bytes -/
theorem derI_shape {x : Nat} (hx : x < N) : ∃ (n : Nat) (body : List Int), derI x = 2 :: (n : Int) :: body ∧ body.length = n ∧ 1 ≤ n ∧ n ≤ 33 ∧ IsBytes body ∧ body.getD 0 0 < 128 ∧ (n = 1 ∨ body.getD 0 0 ≠ 0 ∨ 128 ≤ body.getD 1 0) ∧ (n = 1 ↔ x < 128) := by
  obtain ⟨l, hl⟩ : ∃ l, l = (putN 32 x).reverse := ⟨_, rfl⟩
  have len : l.length = 32 := by rw [hl, List.length_reverse, putN_length]
  have hb : IsBytes l := by rw [hl]; exact (putN_bytes _ _).reverse
  obtain ⟨h1, h2, h3⟩ := lead_spec l (by intro h; rw [h] at len; cases len)
  rw [len] at h1 h3
  have get : ∀ k, k < 32 → l.getD k 0 = ((x / 256 ^ (31 - k) % 256 : Nat) : Int) := fun k hk => by
    rw [hl, rev_get _ _ (by rw [putN_length]; exact hk), putN_length, show 32 - 1 - k = 31 - k by omega, putN_get _ _ _ (by omega)]
  have small : (lead l = 31 ∧ l.getD 31 0 < 128) ↔ x < 128 := by
    constructor
    · rintro ⟨e, hlt⟩
      have h31 := get 31 (by omega)
      simp only [Nat.sub_self, Nat.pow_zero, Nat.div_one] at h31
      have hz : leN (putN 31 (x / 256)) = 0 := leN_zero _ fun k hk => by
        rw [putN_length] at hk
        rw [putN_get _ _ _ hk, Nat.div_div_eq_div_mul, show 256 * 256 ^ k = 256 ^ (k + 1) by rw [Nat.pow_succ, Nat.mul_comm]]
        have := h2 (30 - k) (by omega)
        rw [get _ (by omega), show 31 - (30 - k) = k + 1 by omega] at this
        exact this
      rw [leN_putN] at hz
      have hq : x / 256 < 256 ^ 31 := Nat.div_lt_of_lt_mul (by have : (256 : Nat) * 256 ^ 31 = N := by decide +kernel
                                                               omega)
      rw [Nat.mod_eq_of_lt hq] at hz
      omega
    · intro hlt
      have hz : ∀ k, k < 31 → l.getD k 0 = 0 := fun k hk => by
        rw [get k (by omega)]
        have : 256 ≤ 256 ^ (31 - k) := by
          have := Nat.pow_le_pow_right (show 0 < 256 by decide) (show 1 ≤ 31 - k by omega)
          simpa using this
        rw [Nat.div_eq_of_lt (by omega)]
        rfl
      refine ⟨?_, ?_⟩
      · rcases h3 with h3 | h3
        · omega
        · by_cases e : lead l = 31
          · exact e
          · exact absurd (hz _ (by omega)) h3
      · have h31 := get 31 (by omega)
        simp only [Nat.sub_self, Nat.pow_zero, Nat.div_one] at h31
        omega
  have hd : (l.drop (lead l)).length = 32 - lead l := by rw [List.length_drop, len]
  have hcons := drop_cons (l := l) (j := lead l) (by omega)
  rw [derI, ← hl, derL]
  by_cases hc : 128 ≤ l.getD (lead l) 0
  · rw [if_pos hc]
    refine ⟨33 - lead l, 0 :: l.drop (lead l), rfl, by rw [List.length_cons, hd]; omega, by omega, by omega, IsBytes.cons (by decide) (hb.drop _), by simp, .inr (.inr ?_), ?_⟩
    · rw [List.getD_cons_succ, hcons]; exact hc
    · constructor
      · intro h; omega
      · intro h
        have := small.2 h
        rw [this.1] at hc
        omega
  · rw [if_neg hc]
    refine ⟨32 - lead l, l.drop (lead l), rfl, hd, by omega, by omega, hb.drop _, ?_, ?_, ?_⟩
    · rw [hcons]; show l.getD (lead l) 0 < 128; omega
    · rcases h3 with h3 | h3
      · exact .inl (by omega)
      · refine .inr (.inl ?_)
        rw [hcons]; exact h3
    · constructor
      · intro h
        have e : lead l = 31 := by omega
        exact small.1 ⟨e, by rw [← e]; omega⟩
      · intro h
        have := small.2 h
        omega
theorem derI_len {x : Nat} (hx : x < N) : (derI x).length ≤ 35 := by
  obtain ⟨n, body, e, h1, h2, h3, _⟩ := derI_shape hx
  rw [e]; simp only [List.length_cons]; omega
/-- two numbers' bytes -/
def encI (x y : Nat) : List Int := 48 :: (((derI x).length + (derI y).length : Nat) : Int) :: (derI x ++ derI y)

end Go.Proofs.Ytgmbgidcgdammaa
