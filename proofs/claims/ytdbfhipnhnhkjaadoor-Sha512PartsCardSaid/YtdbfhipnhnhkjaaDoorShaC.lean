/- Grow and Concat, run. -/
import Derived.Test.YtdbfhipnhnhkjaaDoorVars
import Derived.Test.YtdbfhipnhnhkjaaDoorBytes
import Derived.Test.YtdbfhipnhnhkjaaDoorCalls
import Derived.Test.YtdbfhipnhnhkjaaDoorProg
set_option linter.unusedVariables false
set_option linter.unusedSimpArgs false
namespace Go.Proofs.YtdbfhipnhnhkjaaDoor
open Go.RowKit Go.Num Go.Sx

set_option maxHeartbeats 4000000 in
theorem grow_some (n : Int) (h0 : 0 < n) (h1 : n ≤ 1099511627776) : CallS Tryd.prog (L0) 15 [.val (.slice none 0 0), .val (.int .i64 n)] [.fresh 5 [] 0 0 true] := by
  refine callS_of Tryd.func15 (by kernel_rfl) (by kernel_rfl) (fun w us hK hG ha => ?_)
  obtain ⟨_, _, rfl, rfl, _, _, rfl, rfl, rfl⟩ := ha
  have q0 : IntKind.i64.wrap (n - 0) = n := by rw [IntKind.wrap_i64]; omega
  have hrun := calls_of_runS (P := Tryd.prog) (v := ⟨envI [n], envB [], envL [], envP [], L0, w⟩) (gs := []) (fuel := 3000) (nv := 1) (args := [.nils, (.sc (.int .i64 (.var 0)))]) (ora := [some false, some true]) (sums := []) (r := ⟨[(.fresh 5 (.part (.rep (.sub .i64 (.var 0) (.lit 0))) (.lit 0) (.lit 0)) (.lit 0) (.lit 0) true)], [.dec (.cmp .lss (.var 0) (.lit 0)) false, .dec (.cmp .gtr (.sub .i64 (.var 0) (.lit 0)) (.lit 0)) true, .dec (.cmp .leq (.lit 0) (.sub .i64 (.var 0) (.lit 0))) true, .dec (.cmp .leq (.len (.rep (.sub .i64 (.var 0) (.lit 0)))) (.lit 1099511627776)) true], []⟩) Tryd.func15 (by kernel_rfl)
    (evs_of ⟨?_, ?_, ?_, ?_, trivial⟩) (by simp) (GsOk.nil _) hK hG _ (⟨_, _, rfl, rfl, _, _, rfl, rfl, rfl⟩)
  · exact runS_eq hrun (by (show [SRes.fresh 5 (((List.replicate (IntKind.i64.wrap (n - 0)).toNat (0 : Int)).drop 0).take 0) 0 0 true] = _; rw [List.take_zero]))
  · first | exact dec_lt_f (a := n) (b := (0 : Int)) rfl rfl (by omega) | (first | (simp [Ev.holds, Bx.den, cmpD, I.den, I.ldn, envI, envB, envL, envP]; done) | (simp [Ev.holds, Bx.den, cmpD, I.den, I.ldn, envI, envB, envL, envP]; omega))
  · exact dec_gt_t (a := (IntKind.i64.wrap (n - (0 : Int)))) (b := (0 : Int)) rfl rfl (by (try simp only [q0]); omega)
  · exact dec_le_t (a := (0 : Int)) (b := (IntKind.i64.wrap (n - (0 : Int)))) rfl rfl (by (try simp only [q0]); omega)
  · exact dec_le_t (a := (((List.replicate ((IntKind.i64.wrap (n - (0 : Int)))).toNat (0 : Int)).length : Nat) : Int)) (b := (1099511627776 : Int)) rfl rfl (by (try simp only [q0, List.length_replicate]); omega)

set_option maxHeartbeats 4000000 in
theorem grow_none (n : Int) (h0 : n = 0) : CallS Tryd.prog (L0) 15 [.val (.slice none 0 0), .val (.int .i64 n)] [.fresh 5 [] 0 0 true] := by
  refine callS_of Tryd.func15 (by kernel_rfl) (by kernel_rfl) (fun w us hK hG ha => ?_)
  obtain ⟨_, _, rfl, rfl, _, _, rfl, rfl, rfl⟩ := ha
  have q0 : IntKind.i64.wrap (n - 0) = n := by rw [IntKind.wrap_i64]; omega
  have hrun := calls_of_runS (P := Tryd.prog) (v := ⟨envI [n], envB [], envL [], envP [], L0, w⟩) (gs := []) (fuel := 3000) (nv := 1) (args := [.nils, (.sc (.int .i64 (.var 0)))]) (ora := [some false, some false]) (sums := []) (r := ⟨[(.fresh 5 .nil (.lit 0) (.lit 0) true)], [.dec (.cmp .lss (.var 0) (.lit 0)) false, .dec (.cmp .gtr (.sub .i64 (.var 0) (.lit 0)) (.lit 0)) false], []⟩) Tryd.func15 (by kernel_rfl)
    (evs_of ⟨?_, ?_, trivial⟩) (by simp) (GsOk.nil _) hK hG _ (⟨_, _, rfl, rfl, _, _, rfl, rfl, rfl⟩)
  · exact runS_eq hrun (by rfl)
  · first | exact dec_lt_f (a := n) (b := (0 : Int)) rfl rfl (by omega) | (first | (simp [Ev.holds, Bx.den, cmpD, I.den, I.ldn, envI, envB, envL, envP]; done) | (simp [Ev.holds, Bx.den, cmpD, I.den, I.ldn, envI, envB, envL, envP]; omega))
  · exact dec_gt_f (a := (IntKind.i64.wrap (n - (0 : Int)))) (b := (0 : Int)) rfl rfl (by (try simp only [q0]); omega)

theorem grow_s (n : Int) (h0 : 0 ≤ n) (h1 : n ≤ 1099511627776) : CallS Tryd.prog L0 15 [.val (.slice none 0 0), .val (.int .i64 n)] [.fresh 5 [] 0 0 true] := by
  by_cases h : 0 < n
  · exact grow_some n h h1
  · exact grow_none n (by omega)

abbrev cc1_env (w : World) (ps : List (List Int)) (z : Int) (i : Int) : Env := ⟨envI [0, z, i], envB [], envL [], envP [ps], L0, w⟩
abbrev cc1_head : Fm := ⟨[(.one (.immP 0)), .undef, (.one .nils), (.one (.sc (.int .i64 (.var 1)))), .undef, .undef, .undef, .undef, .undef, (.one (.immP 0)), (.one (.sc (.int .i64 (.plen 0)))), (.one (.sc (.int .i64 (.var 2)))), .undef, .undef, .undef, .undef, .undef, .undef, .undef, .undef, .undef, .undef, .undef, .undef, .undef, .undef, .undef, .undef, .undef, .undef, .undef, .undef, .undef, .undef, .undef, .undef], [], []⟩
abbrev cc1_pre : Fm := ⟨[(.one (.immP 0)), .undef, (.one .nils), (.one (.sc (.int .i64 (.lit 0)))), .undef, .undef, .undef, .undef, .undef, (.one (.immP 0)), (.one (.sc (.int .i64 (.plen 0)))), (.one (.sc (.int .i64 (.lit 0)))), .undef, .undef, .undef, .undef, .undef, .undef, .undef, .undef, .undef, .undef, .undef, .undef, .undef, .undef, .undef, .undef, .undef, .undef, .undef, .undef, .undef, .undef, .undef, .undef], [], []⟩
set_option maxHeartbeats 4000000 in
theorem cc1_more (w : World) (ps : List (List Int))  (z : Int) (i : Int) (hp : ps.length ≤ 1099511627776) (h0 : 0 ≤ i) (h1 : i < ps.length) (h2 : 0 ≤ z) (h3 : z + ((ps.getD i.toNat []).length : Nat) ≤ 1099511627776) : Round Tryd.prog (loopOf Tryd.f11 0) cc1_head (cc1_env w ps z i) .normal cc1_head (cc1_env w ps (z + (((ps.getD i.toNat []).length : Nat) : Int)) (i + 1)) := by
  have q0 : IntKind.i64.wrap (z + (((ps.getD i.toNat []).length : Nat) : Int)) = z + (((ps.getD i.toNat []).length : Nat) : Int) := by rw [IntKind.wrap_i64]; omega
  refine Round.mk (⟨envI [0, z, i], envB [], envL [], envP [ps], L0, w⟩) [] [] 3000 3 [some true, some false] [] ⟨⟨[(.one (.immP 0)), .undef, (.one .nils), (.one (.sc (.int .i64 (.add .i64 (.var 1) (.len (.item 0 (.var 2))))))), .undef, (.one (.imm (.item 0 (.var 2)) none)), .undef, .undef, .undef, (.one (.immP 0)), (.one (.sc (.int .i64 (.plen 0)))), (.one (.sc (.int .i64 (.add .i64 (.var 2) (.lit 1))))), (.one (.sc (.bool (.lit true)))), (.one (.immPp 0 (.var 2))), (.one (.imm (.item 0 (.var 2)) none)), (.one (.sc (.int .i64 (.var 1)))), (.one (.imm (.item 0 (.var 2)) none)), (.one (.sc (.int .i64 (.len (.item 0 (.var 2)))))), (.one (.sc (.int .i64 (.add .i64 (.var 1) (.len (.item 0 (.var 2))))))), (.one (.sc (.int .i64 (.add .i64 (.var 1) (.len (.item 0 (.var 2))))))), (.one (.sc (.bool (.lit false)))), .undef, (.one (.sc (.int .i64 (.add .i64 (.var 2) (.lit 1))))), .undef, .undef, .undef, .undef, .undef, .undef, .undef, .undef, .undef, .undef, .undef, .undef, .undef], [], []⟩, 3, [], [], [.dec (.cmp .lss (.var 2) (.plen 0)) true, .dec (.cmp .leq (.lit 0) (.var 2)) true, .dec (.cmp .lss (.var 2) (.plen 0)) true, .dec (.cmp .lss (.add .i64 (.var 1) (.len (.item 0 (.var 2)))) (.lit 0)) false], []⟩ (by (refine And.intro ?_ (And.intro ?_ (And.intro rfl (And.intro (by first | decide | rfl) (And.intro rfl rfl)))) <;> (repeat' (first | exact trivial | with_reducible rfl | refine And.intro ?_ ?_ | (show rn _ _ _; exact rfl) | (refine fun h => ?_; first | exact rfl | exact h) | simp only [I.den, I.ldn, Bx.den, envI, envB, envL, envP, List.getD_cons_succ, List.getD_cons_zero, List.getD_nil] | exact rfl)))) (by kernel_rfl) ⟨evs_of ⟨?_, ?_, ?_, ?_, trivial⟩, by simp⟩ ?_
  · exact dec_lt_t (a := i) (b := ((ps.length : Nat) : Int)) rfl rfl (by (try simp only [q0]); omega)
  · exact dec_le_t (a := (0 : Int)) (b := i) rfl rfl (by (try simp only [q0]); omega)
  · exact dec_lt_t (a := i) (b := ((ps.length : Nat) : Int)) rfl rfl (by (try simp only [q0]); omega)
  · exact dec_lt_f (a := (IntKind.i64.wrap (z + (((ps.getD (i).toNat []).length : Nat) : Int)))) (b := (0 : Int)) rfl rfl (by (try simp only [q0]); omega)
  · (refine And.intro ?_ (And.intro ?_ (And.intro rfl (And.intro (by first | decide | rfl) (And.intro rfl rfl)))) <;> (repeat' (first | exact trivial | with_reducible rfl | refine And.intro ?_ ?_ | (show rn _ _ _; exact rfl) | (refine fun h => ?_; first | exact rfl | exact h) | simp only [I.den, I.ldn, Bx.den, envI, envB, envL, envP, List.getD_cons_succ, List.getD_cons_zero, List.getD_nil] | exact rfl)))
    all_goals first | (show IntKind.i64.wrap (i + 1) = i + 1; rw [IntKind.wrap_i64]; omega) | exact q0
set_option maxHeartbeats 4000000 in
theorem cc1_last (w : World) (ps : List (List Int))  (z : Int) (i : Int) (h0 : (ps.length : Int) ≤ i) : Round Tryd.prog (loopOf Tryd.f11 0) cc1_head (cc1_env w ps z i) (.exit 0) cc1_head (cc1_env w ps z i) := by
  refine Round.mk (⟨envI [0, z, i], envB [], envL [], envP [ps], L0, w⟩) [] [] 3000 3 [some false] [] ⟨⟨[(.one (.immP 0)), .undef, (.one .nils), (.one (.sc (.int .i64 (.var 1)))), .undef, .undef, .undef, .undef, .undef, (.one (.immP 0)), (.one (.sc (.int .i64 (.plen 0)))), (.one (.sc (.int .i64 (.var 2)))), (.one (.sc (.bool (.lit false)))), .undef, .undef, .undef, .undef, .undef, .undef, .undef, .undef, .undef, .undef, .undef, .undef, .undef, .undef, .undef, .undef, .undef, .undef, .undef, .undef, .undef, .undef, .undef], [], []⟩, 3, [], [], [.dec (.cmp .lss (.var 2) (.plen 0)) false], []⟩ (by (refine And.intro ?_ (And.intro ?_ (And.intro rfl (And.intro (by first | decide | rfl) (And.intro rfl rfl)))) <;> (repeat' (first | exact trivial | with_reducible rfl | refine And.intro ?_ ?_ | (show rn _ _ _; exact rfl) | (refine fun h => ?_; first | exact rfl | exact h) | simp only [I.den, I.ldn, Bx.den, envI, envB, envL, envP, List.getD_cons_succ, List.getD_cons_zero, List.getD_nil] | exact rfl)))) (by kernel_rfl) ⟨evs_of ⟨?_, trivial⟩, by simp⟩ ?_
  · first | exact dec_lt_f (a := i) (b := ((ps.length : Nat) : Int)) rfl rfl (by omega) | (first | (simp [Ev.holds, Bx.den, cmpD, I.den, I.ldn, envI, envB, envL, envP]; done) | (simp [Ev.holds, Bx.den, cmpD, I.den, I.ldn, envI, envB, envL, envP]; omega))
  · (refine And.intro ?_ (And.intro ?_ (And.intro rfl (And.intro (by first | decide | rfl) (And.intro rfl rfl)))) <;> (repeat' (first | exact trivial | with_reducible rfl | refine And.intro ?_ ?_ | (show rn _ _ _; exact rfl) | (refine fun h => ?_; first | exact rfl | exact h) | simp only [I.den, I.ldn, Bx.den, envI, envB, envL, envP, List.getD_cons_succ, List.getD_cons_zero, List.getD_nil] | exact rfl)))

theorem flat_take (ps : List (List Int)) (k : Nat) (hk : k < ps.length) : (ps.take (k + 1)).flatten = (ps.take k).flatten ++ ps.getD k [] := by
  rw [List.take_succ_eq_append_getElem hk, List.flatten_append, List.getD_eq_getElem?_getD, List.getElem?_eq_getElem hk, Option.getD_some]
  simp
theorem flat_le (ps : List (List Int)) (k : Nat) : (ps.take k).flatten.length ≤ ps.flatten.length := by
  conv => rhs; rw [← List.take_append_drop k ps, List.flatten_append, List.length_append]
  omega
theorem cc1_rounds (w : World) (ps : List (List Int)) (hl : ps.flatten.length ≤ 1099511627776) (hp : ps.length ≤ 1099511627776) (z : Int) (hz : z = ((ps.flatten.length : Nat) : Int)) (v : Env) {r0 r1 : List (Option Nat)} (start : Fm.to v (cc1_env w ps 0 0) r0 cc1_pre cc1_head) (fin : Fm.to (cc1_env w ps z ((ps.length : Nat) : Int)) v r1 cc1_head cc1_head) :
    LEv.holds Tryd.prog v ⟨loopOf Tryd.f11 0, cc1_pre, cc1_head, (.exit 0)⟩ := by
  rw [hz] at fin
  refine loop_rounds (r0 := r0) (n := ps.length) (head := cc1_head) (fun k => cc1_env w ps (((ps.take k).flatten.length : Nat) : Int) (k : Int)) ?_ ?_ (cc1_env w ps ((ps.flatten.length : Nat) : Int) ((ps.length : Nat) : Int)) ?_ fin (by decide)
  · exact start
  · intro k hk
    have h1 := flat_take ps k hk
    have h2 := flat_le ps (k + 1)
    rw [h1, List.length_append] at h2
    have h := cc1_more w ps (((ps.take k).flatten.length : Nat) : Int) (k : Int) hp (by omega) (by omega) (by omega) (by rw [Int.toNat_natCast]; omega)
    rw [Int.toNat_natCast] at h
    show Round _ _ _ _ _ _ (cc1_env w ps (((ps.take (k + 1)).flatten.length : Nat) : Int) ((k + 1 : Nat) : Int))
    rw [h1, List.length_append, show (((ps.take k).flatten.length + (ps.getD k []).length : Nat) : Int) = (((ps.take k).flatten.length : Nat) : Int) + (((ps.getD k []).length : Nat) : Int) by omega, show ((k + 1 : Nat) : Int) = (k : Int) + 1 by omega]
    exact h
  · show Round _ _ _ (cc1_env w ps (((ps.take ps.length).flatten.length : Nat) : Int) ((ps.length : Nat) : Int)) _ _ _
    rw [List.take_length]
    exact cc1_last w ps _ _ (by omega)

abbrev cc2_env (w : World) (ps : List (List Int)) (z : Int) (acc : List Int) (i : Int) : Env := ⟨envI [0, z, ((ps.length : Nat) : Int), 0, 0, i], envB [], envL [[], [], [], ([] : List Int), acc], envP [ps], L0, w⟩
abbrev cc2_head : Fm := ⟨[(.one (.immP 0)), .undef, (.one .nils), (.one (.sc (.int .i64 (.var 1)))), .undef, .undef, (.one (.bsl 0 (.lit 0) (.len (.lvar 4)) true)), .undef, .undef, (.one (.immP 0)), (.one (.sc (.int .i64 (.plen 0)))), (.one (.sc (.int .i64 (.var 2)))), .undef, .undef, .undef, .undef, .undef, .undef, .undef, .undef, .undef, .undef, .undef, (.one (.sc (.int .i64 (.var 1)))), .undef, (.one (.immP 0)), (.one (.sc (.int .i64 (.plen 0)))), (.one (.sc (.int .i64 (.var 5)))), .undef, .undef, .undef, .undef, .undef, .undef, .undef, .undef], [⟨5, [], true, true, false, (some (.u8, (.lvar 4)))⟩], []⟩
abbrev cc2_pre : Fm := ⟨[(.one (.immP 0)), .undef, (.one .nils), (.one (.sc (.int .i64 (.var 1)))), .undef, .undef, (.one (.bsl 0 (.lit 0) (.len (.lvar 3)) true)), .undef, .undef, (.one (.immP 0)), (.one (.sc (.int .i64 (.plen 0)))), (.one (.sc (.int .i64 (.var 2)))), .undef, .undef, .undef, .undef, .undef, .undef, .undef, .undef, .undef, .undef, .undef, (.one (.sc (.int .i64 (.var 1)))), (.one (.bsl 0 (.lit 0) (.len (.lvar 3)) true)), (.one (.immP 0)), (.one (.sc (.int .i64 (.plen 0)))), (.one (.sc (.int .i64 (.lit 0)))), .undef, .undef, .undef, .undef, .undef, .undef, .undef, .undef], [⟨5, [], true, true, false, (some (.u8, (.lvar 3)))⟩], []⟩
set_option maxHeartbeats 4000000 in
theorem cc2_more (w : World) (ps : List (List Int)) (z : Int)  (acc : List Int) (i : Int) (hp : ps.length ≤ 1099511627776) (h0 : 0 ≤ i) (h1 : i < ps.length) (h3 : ((acc.length : Nat) : Int) + ((ps.getD i.toNat []).length : Nat) ≤ 1099511627776) : Round Tryd.prog (loopOf Tryd.f11 1) cc2_head (cc2_env w ps z acc i) .normal cc2_head (cc2_env w ps z (acc ++ (ps.getD i.toNat [])) (i + 1)) := by
  refine Round.mk (⟨envI [0, z, ((ps.length : Nat) : Int), 0, 0, i], envB [], envL [[], [], [], ([] : List Int), acc], envP [ps], L0, w⟩) [some 0] [(some 1)] 3000 6 [some true] [] ⟨⟨[(.one (.immP 0)), .undef, (.one .nils), (.one (.sc (.int .i64 (.var 1)))), .undef, .undef, (.one (.bsl 1 (.lit 0) (.sum (.len (.lvar 4)) (.len (.item 0 (.var 5)))) true)), .undef, (.one (.imm (.item 0 (.var 5)) none)), (.one (.immP 0)), (.one (.sc (.int .i64 (.plen 0)))), (.one (.sc (.int .i64 (.var 2)))), .undef, .undef, .undef, .undef, .undef, .undef, .undef, .undef, .undef, .undef, .undef, (.one (.sc (.int .i64 (.var 1)))), .undef, (.one (.immP 0)), (.one (.sc (.int .i64 (.plen 0)))), (.one (.sc (.int .i64 (.add .i64 (.var 5) (.lit 1))))), (.one (.sc (.bool (.lit true)))), (.one (.immPp 0 (.var 5))), (.one (.imm (.item 0 (.var 5)) none)), (.one (.bsl 0 (.lit 0) (.len (.lvar 4)) true)), (.one (.imm (.item 0 (.var 5)) none)), (.one (.bsl 1 (.lit 0) (.sum (.len (.lvar 4)) (.len (.item 0 (.var 5)))) true)), (.one (.sc (.int .i64 (.add .i64 (.var 5) (.lit 1))))), .undef], [⟨5, [], true, true, true, (some (.u8, (.lvar 4)))⟩, ⟨5, [], true, true, false, (some (.u8, (.app (.lvar 4) (.item 0 (.var 5)))))⟩], []⟩, 6, [], [], [.dec (.cmp .lss (.var 5) (.plen 0)) true, .dec (.cmp .leq (.lit 0) (.var 5)) true, .dec (.cmp .lss (.var 5) (.plen 0)) true, .dec (.cmp .leq (.sum (.len (.lvar 4)) (.len (.item 0 (.var 5)))) (.lit 1099511627776)) true], []⟩ (by (refine And.intro ?_ (And.intro ?_ (And.intro rfl (And.intro (by first | decide | rfl) (And.intro rfl rfl)))) <;> (repeat' (first | exact trivial | with_reducible rfl | refine And.intro ?_ ?_ | (show rn _ _ _; exact rfl) | (refine fun h => ?_; first | exact rfl | exact h) | simp only [I.den, I.ldn, Bx.den, envI, envB, envL, envP, List.getD_cons_succ, List.getD_cons_zero, List.getD_nil] | exact rfl)))) (by kernel_rfl) ⟨evs_of ⟨?_, ?_, ?_, ?_, trivial⟩, by simp⟩ ?_
  · exact dec_lt_t (a := i) (b := ((ps.length : Nat) : Int)) rfl rfl (by (try simp only [List.length_append]); omega)
  · exact dec_le_t (a := (0 : Int)) (b := i) rfl rfl (by (try simp only [List.length_append]); omega)
  · exact dec_lt_t (a := i) (b := ((ps.length : Nat) : Int)) rfl rfl (by (try simp only [List.length_append]); omega)
  · exact dec_le_t (a := (((acc.length : Nat) : Int) + (((ps.getD (i).toNat []).length : Nat) : Int))) (b := (1099511627776 : Int)) rfl rfl (by (try simp only [List.length_append]); omega)
  · (refine And.intro ?_ (And.intro ?_ (And.intro rfl (And.intro (by first | decide | rfl) (And.intro rfl rfl)))) <;> (repeat' (first | exact trivial | with_reducible rfl | refine And.intro ?_ ?_ | (show rn _ _ _; exact rfl) | (refine fun h => ?_; first | exact rfl | exact h) | simp only [I.den, I.ldn, Bx.den, envI, envB, envL, envP, List.getD_cons_succ, List.getD_cons_zero, List.getD_nil] | exact rfl)))
    all_goals first | (show IntKind.i64.wrap (i + 1) = i + 1; rw [IntKind.wrap_i64]; omega) | rfl | (simp; done) | (simp; omega)
set_option maxHeartbeats 4000000 in
theorem cc2_last (w : World) (ps : List (List Int)) (z : Int)  (acc : List Int) (i : Int) (h0 : (ps.length : Int) ≤ i) : Round Tryd.prog (loopOf Tryd.f11 1) cc2_head (cc2_env w ps z acc i) (.exit 2) cc2_head (cc2_env w ps z acc i) := by
  refine Round.mk (⟨envI [0, z, ((ps.length : Nat) : Int), 0, 0, i], envB [], envL [[], [], [], ([] : List Int), acc], envP [ps], L0, w⟩) [some 0] [(some 0)] 3000 6 [some false] [] ⟨⟨[(.one (.immP 0)), .undef, (.one .nils), (.one (.sc (.int .i64 (.var 1)))), .undef, .undef, (.one (.bsl 0 (.lit 0) (.len (.lvar 4)) true)), .undef, .undef, (.one (.immP 0)), (.one (.sc (.int .i64 (.plen 0)))), (.one (.sc (.int .i64 (.var 2)))), .undef, .undef, .undef, .undef, .undef, .undef, .undef, .undef, .undef, .undef, .undef, (.one (.sc (.int .i64 (.var 1)))), .undef, (.one (.immP 0)), (.one (.sc (.int .i64 (.plen 0)))), (.one (.sc (.int .i64 (.var 5)))), (.one (.sc (.bool (.lit false)))), .undef, .undef, .undef, .undef, .undef, .undef, .undef], [⟨5, [], true, true, false, (some (.u8, (.lvar 4)))⟩], []⟩, 6, [], [], [.dec (.cmp .lss (.var 5) (.plen 0)) false], []⟩ (by (refine And.intro ?_ (And.intro ?_ (And.intro rfl (And.intro (by first | decide | rfl) (And.intro rfl rfl)))) <;> (repeat' (first | exact trivial | with_reducible rfl | refine And.intro ?_ ?_ | (show rn _ _ _; exact rfl) | (refine fun h => ?_; first | exact rfl | exact h) | simp only [I.den, I.ldn, Bx.den, envI, envB, envL, envP, List.getD_cons_succ, List.getD_cons_zero, List.getD_nil] | exact rfl)))) (by kernel_rfl) ⟨evs_of ⟨?_, trivial⟩, by simp⟩ ?_
  · first | exact dec_lt_f (a := i) (b := ((ps.length : Nat) : Int)) rfl rfl (by omega) | (first | (simp [Ev.holds, Bx.den, cmpD, I.den, I.ldn, envI, envB, envL, envP]; done) | (simp [Ev.holds, Bx.den, cmpD, I.den, I.ldn, envI, envB, envL, envP]; omega))
  · (refine And.intro ?_ (And.intro ?_ (And.intro rfl (And.intro (by first | decide | rfl) (And.intro rfl rfl)))) <;> (repeat' (first | exact trivial | with_reducible rfl | refine And.intro ?_ ?_ | (show rn _ _ _; exact rfl) | (refine fun h => ?_; first | exact rfl | exact h) | simp only [I.den, I.ldn, Bx.den, envI, envB, envL, envP, List.getD_cons_succ, List.getD_cons_zero, List.getD_nil] | exact rfl)))

theorem cc2_rounds (w : World) (ps : List (List Int)) (z : Int) (hl : ps.flatten.length ≤ 1099511627776) (hp : ps.length ≤ 1099511627776) (r : List Int) (hr : r = ps.flatten) (v : Env) {r0 r1 : List (Option Nat)} (start : Fm.to v (cc2_env w ps z [] 0) r0 cc2_pre cc2_head) (fin : Fm.to (cc2_env w ps z r ((ps.length : Nat) : Int)) v r1 cc2_head cc2_head) :
    LEv.holds Tryd.prog v ⟨loopOf Tryd.f11 1, cc2_pre, cc2_head, (.exit 2)⟩ := by
  rw [hr] at fin
  refine loop_rounds (r0 := r0) (n := ps.length) (head := cc2_head) (fun k => cc2_env w ps z (ps.take k).flatten (k : Int)) ?_ ?_ (cc2_env w ps z ps.flatten ((ps.length : Nat) : Int)) ?_ fin (by decide)
  · exact start
  · intro k hk
    have h1 := flat_take ps k hk
    have h2 := flat_le ps (k + 1)
    rw [h1, List.length_append] at h2
    have h := cc2_more w ps z (ps.take k).flatten (k : Int) hp (by omega) (by omega) (by rw [Int.toNat_natCast]; omega)
    rw [Int.toNat_natCast] at h
    show Round _ _ _ _ _ _ (cc2_env w ps z (ps.take (k + 1)).flatten ((k + 1 : Nat) : Int))
    rw [h1, show ((k + 1 : Nat) : Int) = (k : Int) + 1 by omega]
    exact h
  · show Round _ _ _ (cc2_env w ps z (ps.take ps.length).flatten ((ps.length : Nat) : Int)) _ _ _
    rw [List.take_length]
    exact cc2_last w ps z _ _ (by omega)

set_option maxHeartbeats 4000000 in
theorem concat_s (ps : List (List Int)) (hl : ps.flatten.length ≤ 1099511627776) (hp : ps.length ≤ 1099511627776) (z : Int) (hz : z = ((ps.flatten.length : Nat) : Int)) {r : List Int} (hr : r = ps.flatten) : CallS Tryd.prog (L0) 11 [.parts ps] [.fresh 5 r 0 r.length true] := by
  refine callS_of Tryd.func11 (by kernel_rfl) (by kernel_rfl) (fun w us hK hG ha => ?_)
  obtain ⟨u0, _, rfl, hu0, rfl⟩ := ha
  have hrun := calls_of_runS (P := Tryd.prog) (v := ⟨envI [0, z, ((ps.length : Nat) : Int), 0, 0, ((ps.length : Nat) : Int)], envB [], envL [[], [], [], ([] : List Int), r], envP [ps], L0, w⟩) (gs := []) (fuel := 3000) (nv := 1) (args := [(.immP 0)]) (ora := []) (sums := [some ⟨[(3, (.one (.sc (.int .i64 (.var 1))))), (11, (.one (.sc (.int .i64 (.var 2)))))], [], 3, (.exit 0)⟩, some ⟨[(6, (.one (.bsl 0 (.lit 0) (.len (.lvar 4)) true))), (24, .undef), (27, (.one (.sc (.int .i64 (.var 5)))))], [(0, ⟨5, [], true, true, false, (some (.u8, (.lvar 4)))⟩)], 6, (.exit 2)⟩]) (r := ⟨[(.fresh 5 (.lvar 4) (.lit 0) (.len (.lvar 4)) true)], [.callS 15 [(.val .nils), (.val (.sc (.int .i64 (.var 1))))] [(.fresh 5 (.lvar 3) (.lit 0) (.len (.lvar 3)) true)]], [⟨loopOf Tryd.f11 0, cc1_pre, cc1_head, (.exit 0)⟩, ⟨loopOf Tryd.f11 1, cc2_pre, cc2_head, (.exit 2)⟩]⟩) Tryd.func11 (by kernel_rfl)
    (evs_of ⟨?_, trivial⟩) (levs_of ⟨?_, ?_, trivial⟩) (GsOk.nil _) hK hG _ (⟨u0, _, rfl, hu0, rfl⟩)
  · exact runS_eq hrun (by rfl)
  · exact CallS.g (grow_s z (by omega) (by omega))
  · (refine cc1_rounds w ps hl hp z hz _ (r0 := []) (r1 := []) ?_ ?_ <;> clear hr hz <;> (refine And.intro ?_ (And.intro ?_ (And.intro rfl (And.intro (by first | decide | rfl) (And.intro rfl rfl)))) <;> (repeat' (first | exact trivial | with_reducible rfl | refine And.intro ?_ ?_ | (show rn _ _ _; exact rfl) | (refine fun h => ?_; first | exact rfl | exact h) | simp only [I.den, I.ldn, Bx.den, envI, envB, envL, envP, List.getD_cons_succ, List.getD_cons_zero, List.getD_nil] | exact rfl))))
  · (refine cc2_rounds w ps z hl hp r hr _ (r0 := [(some 0)]) (r1 := [some 0]) ?_ ?_ <;> clear hr hz <;> (refine And.intro ?_ (And.intro ?_ (And.intro rfl (And.intro (by first | decide | rfl) (And.intro rfl rfl)))) <;> (repeat' (first | exact trivial | with_reducible rfl | refine And.intro ?_ ?_ | (show rn _ _ _; exact rfl) | (refine fun h => ?_; first | exact rfl | exact h) | simp only [I.den, I.ldn, Bx.den, envI, envB, envL, envP, List.getD_cons_succ, List.getD_cons_zero, List.getD_nil] | exact rfl))))

end Go.Proofs.YtdbfhipnhnhkjaaDoor
