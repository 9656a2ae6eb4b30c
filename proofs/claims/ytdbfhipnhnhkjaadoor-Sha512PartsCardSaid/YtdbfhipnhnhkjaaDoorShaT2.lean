/- The program takes a block in: the whole. -/
import Derived.Test.YtdbfhipnhnhkjaaDoorShaT
set_option linter.unusedVariables false
set_option linter.unusedSimpArgs false
namespace Go.Proofs.YtdbfhipnhnhkjaaDoor
open Go.RowKit Go.Num Go.Sx

set_option maxRecDepth 100000 in
set_option maxHeartbeats 4000000 in
theorem takes_run (s : Sha.St) (l : List Int) (Ts : TS) (hb : IsBytes l) (hl : l.length = 128) (W : List Int) (hW : W = Sha.schedN (Sha.wordsF Sha.orB l) 64) (q : Sha.St) (hq : q = Sha.rounds W s 80) (r : Sha.St) (hr : r = Sha.stAdd s q) : CallS Tryd.prog (LS Ts) 12 [.val (.agg #[.int .u64 s.a, .int .u64 s.b, .int .u64 s.c, .int .u64 s.d, .int .u64 s.e, .int .u64 s.f, .int .u64 s.g, .int .u64 s.h]), .bytes l] [.val (.agg #[.int .u64 r.a, .int .u64 r.b, .int .u64 r.c, .int .u64 r.d, .int .u64 r.e, .int .u64 r.f, .int .u64 r.g, .int .u64 r.h])] := by
  refine callS_of Tryd.func12 (by kernel_rfl) (by kernel_rfl) (fun w us hK hG ha => ?_)
  obtain ⟨_, _, rfl, rfl, u1, _, rfl, hu1, rfl⟩ := ha
  rw [Sha.list128 hl] at hu1
  have hWl : W.length = 80 := by rw [hW, Sha.schedN_length]; rfl
  have hrun := calls_of_runS (P := Tryd.prog) (v := ⟨envT l ([s.a, s.b, s.c, s.d, s.e, s.f, s.g, s.h, 0, (80 : Int), q.a, q.b, q.c, q.d, q.e, q.f, q.g, q.h, (80 : Int)] : List Int), fun n => ([] : List Bool).getD n false, fun n => ([W] : List (List Int)).getD (n - 136) [], fun n => ([] : List (List (List Int))).getD n [], LS Ts, w⟩) (gs := (shGs Ts [v_constants])) (fuel := 3000) (nv := 136) (args := [(.agg [.v 128, .v 129, .v 130, .v 131, .v 132, .v 133, .v 134, .v 135]), (.imm B128 none)]) (ora := []) (sums := [none, none, none, none, none, none, none, none, none, none, none, none, none, none, none, none, none, some ⟨[(9, (.one (.sc (.int .i64 (.var 137)))))], [(3, ⟨43, [], false, true, false, (some (.u64, (.lvar 136)))⟩)], 138, (.exit 4)⟩, some ⟨[(12, (.one (.sc (.v 138)))), (13, (.one (.sc (.v 139)))), (14, (.one (.sc (.v 140)))), (15, (.one (.sc (.v 141)))), (16, (.one (.sc (.v 142)))), (17, (.one (.sc (.v 143)))), (18, (.one (.sc (.v 144)))), (19, (.one (.sc (.v 145)))), (106, (.one (.sc (.int .i64 (.var 146)))))], [], 147, (.exit 6)⟩]) (r := ⟨[(.val (.agg [.int .u64 (.add .u64 (.var 128) (.var 138)), .int .u64 (.add .u64 (.var 129) (.var 139)), .int .u64 (.add .u64 (.var 130) (.var 140)), .int .u64 (.add .u64 (.var 131) (.var 141)), .int .u64 (.add .u64 (.var 132) (.var 142)), .int .u64 (.add .u64 (.var 133) (.var 143)), .int .u64 (.add .u64 (.var 134) (.var 144)), .int .u64 (.add .u64 (.var 135) (.var 145))]))], [], [⟨loopOf Tryd.f12 2, sched_pre Ts, sched_head Ts, (.exit 4)⟩, ⟨loopOf Tryd.f12 3, rnd_pre Ts, rnd_head Ts, (.exit 6)⟩]⟩) Tryd.func12 (by kernel_rfl)
    (by simp) (levs_of ⟨?_, ?_, trivial⟩) (varsOkS Ts _ (List.forall_mem_cons.2 ⟨Ts.constants, (List.forall_mem_nil _)⟩) (by decide)) hK hG _ (⟨_, _, rfl, rfl, u1, _, rfl, ⟨hu1, fun b hb => by cases hb⟩, rfl⟩)
  · exact runS_eq hrun (by (rw [hr]; rfl))
  · (refine sched_rounds Ts w s l (Sha.wordsF Sha.orB l) W rfl hW _ (r0 := [(some 0), (some 1), (some 2), (some 3)]) (r1 := [some 0, some 1, some 2, some 3]) ?_ ?_ <;> clear hW hq hr hb hl <;> (refine And.intro ?_ (And.intro ?_ (And.intro rfl (And.intro (by first | decide | rfl) (And.intro rfl rfl)))) <;> (repeat' (first | exact trivial | with_reducible rfl | refine And.intro ?_ ?_ | (show rn _ _ _; exact rfl) | (refine fun h => ?_; first | exact rfl | exact h) | kernel_rfl))))
  · (refine rnd_rounds Ts w s l W hWl q hq _ (r0 := [(some 0), (some 1), (some 2), (some 3)]) (r1 := [some 0, some 1, some 2, some 3]) ?_ ?_ <;> clear hW hq hr <;> (refine And.intro ?_ (And.intro ?_ (And.intro rfl (And.intro (by first | decide | rfl) (And.intro rfl rfl)))) <;> (repeat' (first | exact trivial | with_reducible rfl | refine And.intro ?_ ?_ | (show rn _ _ _; exact rfl) | (refine fun h => ?_; first | exact rfl | exact h) | simp only [I.den, I.ldn, Bx.den, envI, envB, envL, envP, List.getD_cons_succ, List.getD_cons_zero, List.getD_nil] | exact rfl))))

theorem takes_g (Ts : TS) (s : Sha.St) (l : List Int) (hb : IsBytes l) (hl : l.length = 128) {r : Sha.St} (hr : r = Sha.take s l) : CallS Tryd.prog (LS Ts) 12 [.val (.agg #[.int .u64 s.a, .int .u64 s.b, .int .u64 s.c, .int .u64 s.d, .int .u64 s.e, .int .u64 s.f, .int .u64 s.g, .int .u64 s.h]), .bytes l] [.val (.agg #[.int .u64 r.a, .int .u64 r.b, .int .u64 r.c, .int .u64 r.d, .int .u64 r.e, .int .u64 r.f, .int .u64 r.g, .int .u64 r.h])] :=
  takes_run s l Ts hb hl _ rfl _ rfl r (by rw [hr, Sha.wordsO_eq hb hl]; rfl)

end Go.Proofs.YtdbfhipnhnhkjaaDoor
