/- Merged: Fel1, Fel2, Fel3, Fmat, Fel4, Fel5. -/
import Derived.Test.YtkckmpnkacdchaaDoorLim5
import Derived.Test.YtkckmpnkacdchaaDoorLm4
import Derived.Test.YtkckmpnkacdchaaDoorLimE
set_option linter.unusedVariables false
set_option linter.unusedSimpArgs false
set_option maxHeartbeats 4000000
namespace Go.Proofs.YtkckmpnkacdchaaDoor
open Go.RowKit Go.Num Go.Sx
abbrev JA0 : List Sc := [.v 0, .v 1, .v 2, .v 3, .v 4, .v 5, .v 6, .v 7, .v 8]
abbrev JA1 : Blk := ⟨74, [(.sc (.v 0)), (.sc (.v 1)), (.sc (.v 2)), (.sc (.v 3)), (.sc (.v 4)), (.sc (.v 5)), (.sc (.v 6)), (.sc (.v 7)), (.sc (.v 8))], false, true, false, none⟩
abbrev JA2 : A := .agg [.v 9, .v 10, .v 11, .v 12, .v 13, .v 14, .v 15, .v 16, .v 17]
abbrev JA3 : A := .agg [.v 13, .v 14, .v 15, .v 16]
abbrev JA4 : Blk := ⟨33, [(.sc (.n 0)), (.sc (.n 0)), (.sc (.n 0)), (.sc (.n 0))], false, true, false, none⟩
abbrev JA5 : Blk := ⟨33, [(.sc (.v 13)), (.sc (.v 14)), (.sc (.v 15)), (.sc (.v 16))], false, true, false, none⟩
abbrev JA6 : A := .agg [.v 9, .v 10, .v 11, .v 12]
abbrev JA7 : List Bool := [false, false, false, false, false, false, false, false, false, false, false, false, false, false, false, false, false, false, true]
abbrev JA8 : A := .agg [.v 17, .v 18, .v 19, .v 20]
abbrev JA9 : Blk := ⟨33, [(.sc (.v 9)), (.sc (.v 10)), (.sc (.v 11)), (.sc (.v 12))], false, true, false, none⟩
abbrev JA10 : A := .agg [.v 27, .v 28, .v 29, .v 30]
abbrev JA11 : A := .agg [.v 1, .v 2, .v 3, .v 4]
abbrev JA12 : A := .sc (.int .i64 (.var 0))
abbrev JA13 : A := .agg [.v 23, .v 24, .v 25, .v 26]
abbrev JA14 : A := .agg [.v 22, .v 23, .v 24, .v 25]
abbrev JA15 : A := .agg [.v 19, .v 20, .v 21, .v 22]
abbrev JA16 : A := .sc (.int .i64 (.var 21))
abbrev JA17 : A := .agg [.v 5, .v 6, .v 7, .v 8]
abbrev JA18 : A := .agg [.v 0, .v 1, .v 2, .v 3]
abbrev JA19 : List AV := [(.one (.agg JA0)), (.one JA6), (.one (.ptr 0 0)), (.one (.ptr 1 0)), (.one (.ptr 2 0)), .undef, .undef, .undef, .undef, .undef, .undef, .undef, .undef, .undef, .undef, .undef, .undef, .undef]
abbrev JA20 : Blk := ⟨33, [(.sc (.v 17)), (.sc (.v 18)), (.sc (.v 19)), (.sc (.v 20))], false, true, false, none⟩
abbrev JA21 : A := .sc (.bool (.lit true))
abbrev JA22 : List (Option Nat) := [(some 0), (some 1), (some 2), (some 3), (some 4)]
abbrev JA23 : A := .sc (.int .u64 (.mul .u64 (.var 77) (.var 8)))
abbrev JA24 : A := .sc (.int .u64 (.mul .u64 (.var 57) (.var 8)))
abbrev JA25 : A := .sc (.int .u64 (.mul .u64 (.var 37) (.var 8)))
abbrev JA26 : A := .sc (.int .u64 (.mul .u64 (.var 17) (.var 8)))
abbrev JA27 : A := .sc (.int .i64 (.sub .i64 (.var 21) (.lit 1)))
abbrev JA28 : A := .agg [.v 5, .v 6, .v 7, .v 8, .v 9, .v 10, .v 11, .v 12, .v 13]
abbrev JA29 : List A := [(.agg [.v 18, .v 19, .v 20, .v 21]), (.sc (.bool (.var 22)))]
abbrev JA30 : A := .agg [.n 1, .n 0, .n 0, .n 0]
abbrev JA31 : List A := [(.agg JA0), JA6, JA3]
abbrev JA32 : A := .sc (.bool (.var 18))
abbrev JA33 : A := .sc (.int .i64 (.var 26))
abbrev JA34 : A := .sc (.int .i64 (.var 17))
abbrev JA35 : List (Option Nat) := [(some 0), (some 1), (some 2)]
abbrev JA36 : Bx := .cmp .geq (.var 21) (.lit 0)
abbrev JA37 : A := .sc (.bool (.lit false))
theorem more_run (s : Nat) (a : Nat) (b : Nat) (c : Nat) (bs : s < B) (ba : a < B) (bb : b < B) (bc : c < B) (w : World) : Calls Tryd.prog 97 #[.int .u64 (s : Nat), .int .u64 (a : Nat), .int .u64 (b : Nat), .int .u64 (c : Nat)] w fun e w' => e = .returned (.tuple #[.int .u64 (((s + a * b + c) % B : Nat) : Int), .int .u64 (((s + a * b + c) / B : Nat) : Int)]) ∧ Below w.heap.size w w' := by
 obtain ⟨h, l, p, j, s2, k, r, C, w_r, b_r, b_s, e⟩ := mac_ex a b s c s c ba bb bs bc rfl rfl
 have e1 : (s + a * b + c) % B = s2 := by rw [← e, Nat.add_mul_mod_self_left, Nat.mod_eq_of_lt b_s]
 have e2 : (s + a * b + c) / B = r := by rw [← e, Nat.add_mul_div_left _ _ B_pos, Nat.div_eq_of_lt b_s, Nat.zero_add]
 have hrun := calls_of_runG (P := Tryd.prog) (v := ⟨envI [((s : Nat) : Int), ((a : Nat) : Int), ((b : Nat) : Int), ((c : Nat) : Int), ((h : Nat) : Int), ((l : Nat) : Int), ((p : Nat) : Int), ((j : Nat) : Int), ((s2 : Nat) : Int), ((k : Nat) : Int)], envB [], envL [], envP [], L0, w⟩) (gs := []) (fuel := 3000) (nv := 4) (args := [(.sc (.v 0)), (.sc (.v 1)), (.sc (.v 2)), (.sc (.v 3))]) (ora := []) (sums := []) (res := [(.sc (.v 8)), (.sc (.int .u64 (.add .u64 (.add .u64 (.var 4) (.var 7)) (.var 9))))]) (ev := [.call 104 [(.sc (.v 1)), (.sc (.v 2))] (.tup [(.sc (.v 4)), (.sc (.v 5))]), .call 98 [(.sc (.v 5)), (.sc (.v 0)), (.sc (.n 0))] (.tup [(.sc (.v 6)), (.sc (.v 7))]), .call 98 [(.sc (.v 6)), (.sc (.v 3)), (.sc (.n 0))] (.tup [(.sc (.v 8)), (.sc (.v 9))])]) (lev := []) Tryd.func97 (by kernel_rfl) (by kernel_rfl)
  (evs_of ⟨?_, ?_, ?_, trivial⟩) (by simp) (GsOk.nil _) (Nat.zero_le _) trivial
 ·(rw [e1, e2, ← w_r]; exact hrun)
 ·exact CallP.g (C.1)
 ·exact CallP.g (C.2.1)
 ·exact CallP.g (C.2.2)
theorem more_ex (s a b c : Nat) (se ae ce : Int) (bs : s < B) (ba : a < B) (bb : b < B) (bc : c < B) (hs : se = (s : Nat)) (ha : ae = (a : Nat)) (hc : ce = (c : Nat)) : ∃ lo hi : Nat,
  CallP Tryd.prog 97 #[.int .u64 se, .int .u64 ae, .int .u64 (b : Nat), .int .u64 ce] (.tuple #[.int .u64 (lo : Nat), .int .u64 (hi : Nat)]) ∧ lo < B ∧ hi < B ∧ lo + B * hi = s + a * b + c := by
 subst hs ha hc
 have hab : a * b ≤ (B - 1) * (B - 1) := Nat.mul_le_mul (by omega) (by omega)
 refine ⟨_, _, callP_of Tryd.func97 (by kernel_rfl) (by kernel_rfl) (fun w => more_run s a b c bs ba bb bc w), Nat.mod_lt _ B_pos, ?_, Nat.mod_add_div _ _⟩
 rw [Nat.div_lt_iff_lt_mul B_pos]
 generalize a * b = p at *
 unfold B at *
 omega
theorem add_ex (x y : Nat) (xe ye : Int) (bx : x < B) (bY : y < B) (hx : xe = (x : Nat)) (hy : ye = (y : Nat)) : ∃ s k : Nat,
  CallP Tryd.prog 98 #[.int .u64 xe, .int .u64 ye, .int .u64 (0 : Int)] (.tuple #[.int .u64 (s : Nat), .int .u64 (k : Nat)]) ∧ s < B ∧ k ≤ 1 ∧ s + B * k = x + y + 0 := by
 subst hx hy
 have h := step_add x y 0 bx bY (by omega)
 exact ⟨_, _, call_add_c x y 0 _ _ (by omega) rfl rfl, h⟩
theorem wrap_mulM (a b : Nat) : IntKind.u64.wrap ((a : Int) * (b : Int)) = ((a * b % B : Nat) : Int) := by
 rw [IntKind.wrap_u64, ← Int.natCast_mul]; unfold B; omega
theorem num_ex {a b c d : Nat} (ha : a < B) (hb : b < B) (hc : c < B) (hd : d < B) : ∃ s, s < N ∧ lm s 0 = a ∧ lm s 1 = b ∧ lm s 2 = c ∧ lm s 3 = d :=
 ⟨num a b c d, num_lt ha hb hc hd, lm0 ha, lm1 ha hb, lm2 ha hb hc, lm3 ha hb hc hd⟩
theorem half_run (m sq iv : Nat) (x : Nat) (y : Nat) (biv : iv < B) (hx : x < N) (hm : m < N) (hy : y < m) (hiv : (iv * lm m 0 + 1) % B = 0) (ni : Nat) (hni : N * ni % m = 1 % m) (w : World) : Calls Tryd.prog 86 #[.agg #[.int .u64 (lm m 0), .int .u64 (lm m 1), .int .u64 (lm m 2), .int .u64 (lm m 3), .int .u64 (lm sq 0), .int .u64 (lm sq 1), .int .u64 (lm sq 2), .int .u64 (lm sq 3), .int .u64 (iv : Nat)], vN x, vN y] w fun e w' => e = .returned (.agg #[.int .u64 (lm (hp m ni x y) 0), .int .u64 (lm (hp m ni x y) 1), .int .u64 (lm (hp m ni x y) 2), .int .u64 (lm (hp m ni x y) 3)]) ∧ Below w.heap.size w w' := by
 have hyN : y < N := Nat.lt_trans hy hm
 obtain ⟨v17, v18, C17, b17, b18, e17⟩ := more_ex 0 (lm x 0) (lm y 0) 0 (0 : Int) (lm x 0 : Int) (0 : Int) B_pos (lm_lt _ _) (lm_lt _ _) B_pos rfl rfl rfl
 obtain ⟨v19, v20, C19, b19, b20, e19⟩ := more_ex 0 (lm x 0) (lm y 1) v18 (0 : Int) (lm x 0 : Int) ((v18 : Nat) : Int) B_pos (lm_lt _ _) (lm_lt _ _) b18 rfl rfl rfl
 obtain ⟨v21, v22, C21, b21, b22, e21⟩ := more_ex 0 (lm x 0) (lm y 2) v20 (0 : Int) (lm x 0 : Int) ((v20 : Nat) : Int) B_pos (lm_lt _ _) (lm_lt _ _) b20 rfl rfl rfl
 obtain ⟨v23, v24, C23, b23, b24, e23⟩ := more_ex 0 (lm x 0) (lm y 3) v22 (0 : Int) (lm x 0 : Int) ((v22 : Nat) : Int) B_pos (lm_lt _ _) (lm_lt _ _) b22 rfl rfl rfl
 obtain ⟨v25, v26, C25, b25, b26, e25⟩ := add_ex 0 v24 (0 : Int) ((v24 : Nat) : Int) B_pos b24 rfl rfl
 obtain ⟨q0, wq0, bq0, eq0⟩ : ∃ q : Nat, (IntKind.u64.wrap (((v17 : Nat) : Int) * ((iv : Nat) : Int))) = ((q : Nat) : Int) ∧ q < B ∧ q = v17 * iv % B := ⟨_, wrap_mulM _ _, Nat.mod_lt _ B_pos, rfl⟩
 obtain ⟨v27, v28, C27, b27, b28, e27⟩ := more_ex v17 q0 (lm m 0) 0 ((v17 : Nat) : Int) (IntKind.u64.wrap (((v17 : Nat) : Int) * ((iv : Nat) : Int))) (0 : Int) b17 bq0 (lm_lt _ _) B_pos rfl wq0 rfl
 obtain ⟨v29, v30, C29, b29, b30, e29⟩ := more_ex v19 q0 (lm m 1) v28 ((v19 : Nat) : Int) (IntKind.u64.wrap (((v17 : Nat) : Int) * ((iv : Nat) : Int))) ((v28 : Nat) : Int) b19 bq0 (lm_lt _ _) b28 rfl wq0 rfl
 obtain ⟨v31, v32, C31, b31, b32, e31⟩ := more_ex v21 q0 (lm m 2) v30 ((v21 : Nat) : Int) (IntKind.u64.wrap (((v17 : Nat) : Int) * ((iv : Nat) : Int))) ((v30 : Nat) : Int) b21 bq0 (lm_lt _ _) b30 rfl wq0 rfl
 obtain ⟨v33, v34, C33, b33, b34, e33⟩ := more_ex v23 q0 (lm m 3) v32 ((v23 : Nat) : Int) (IntKind.u64.wrap (((v17 : Nat) : Int) * ((iv : Nat) : Int))) ((v32 : Nat) : Int) b23 bq0 (lm_lt _ _) b32 rfl wq0 rfl
 obtain ⟨v35, v36, C35, b35, b36, e35⟩ := add_ex v25 v34 ((v25 : Nat) : Int) ((v34 : Nat) : Int) b25 b34 rfl rfl
 obtain ⟨v37, v38, C37, b37, b38, e37⟩ := more_ex v29 (lm x 1) (lm y 0) 0 ((v29 : Nat) : Int) (lm x 1 : Int) (0 : Int) b29 (lm_lt _ _) (lm_lt _ _) B_pos rfl rfl rfl
 obtain ⟨v39, v40, C39, b39, b40, e39⟩ := more_ex v31 (lm x 1) (lm y 1) v38 ((v31 : Nat) : Int) (lm x 1 : Int) ((v38 : Nat) : Int) b31 (lm_lt _ _) (lm_lt _ _) b38 rfl rfl rfl
 obtain ⟨v41, v42, C41, b41, b42, e41⟩ := more_ex v33 (lm x 1) (lm y 2) v40 ((v33 : Nat) : Int) (lm x 1 : Int) ((v40 : Nat) : Int) b33 (lm_lt _ _) (lm_lt _ _) b40 rfl rfl rfl
 obtain ⟨v43, v44, C43, b43, b44, e43⟩ := more_ex v35 (lm x 1) (lm y 3) v42 ((v35 : Nat) : Int) (lm x 1 : Int) ((v42 : Nat) : Int) b35 (lm_lt _ _) (lm_lt _ _) b42 rfl rfl rfl
 have wv26v36 := wrap_addN v26 v36 (by unfold B; omega)
 obtain ⟨v45, v46, C45, b45, b46, e45⟩ := add_ex (v26 + v36) v44 (IntKind.u64.wrap (((v26 : Nat) : Int) + ((v36 : Nat) : Int))) ((v44 : Nat) : Int) (by unfold B; omega) b44 wv26v36 rfl
 obtain ⟨q1, wq1, bq1, eq1⟩ : ∃ q : Nat, (IntKind.u64.wrap (((v37 : Nat) : Int) * ((iv : Nat) : Int))) = ((q : Nat) : Int) ∧ q < B ∧ q = v37 * iv % B := ⟨_, wrap_mulM _ _, Nat.mod_lt _ B_pos, rfl⟩
 obtain ⟨v47, v48, C47, b47, b48, e47⟩ := more_ex v37 q1 (lm m 0) 0 ((v37 : Nat) : Int) (IntKind.u64.wrap (((v37 : Nat) : Int) * ((iv : Nat) : Int))) (0 : Int) b37 bq1 (lm_lt _ _) B_pos rfl wq1 rfl
 obtain ⟨v49, v50, C49, b49, b50, e49⟩ := more_ex v39 q1 (lm m 1) v48 ((v39 : Nat) : Int) (IntKind.u64.wrap (((v37 : Nat) : Int) * ((iv : Nat) : Int))) ((v48 : Nat) : Int) b39 bq1 (lm_lt _ _) b48 rfl wq1 rfl
 obtain ⟨v51, v52, C51, b51, b52, e51⟩ := more_ex v41 q1 (lm m 2) v50 ((v41 : Nat) : Int) (IntKind.u64.wrap (((v37 : Nat) : Int) * ((iv : Nat) : Int))) ((v50 : Nat) : Int) b41 bq1 (lm_lt _ _) b50 rfl wq1 rfl
 obtain ⟨v53, v54, C53, b53, b54, e53⟩ := more_ex v43 q1 (lm m 3) v52 ((v43 : Nat) : Int) (IntKind.u64.wrap (((v37 : Nat) : Int) * ((iv : Nat) : Int))) ((v52 : Nat) : Int) b43 bq1 (lm_lt _ _) b52 rfl wq1 rfl
 obtain ⟨v55, v56, C55, b55, b56, e55⟩ := add_ex v45 v54 ((v45 : Nat) : Int) ((v54 : Nat) : Int) b45 b54 rfl rfl
 obtain ⟨v57, v58, C57, b57, b58, e57⟩ := more_ex v49 (lm x 2) (lm y 0) 0 ((v49 : Nat) : Int) (lm x 2 : Int) (0 : Int) b49 (lm_lt _ _) (lm_lt _ _) B_pos rfl rfl rfl
 obtain ⟨v59, v60, C59, b59, b60, e59⟩ := more_ex v51 (lm x 2) (lm y 1) v58 ((v51 : Nat) : Int) (lm x 2 : Int) ((v58 : Nat) : Int) b51 (lm_lt _ _) (lm_lt _ _) b58 rfl rfl rfl
 obtain ⟨v61, v62, C61, b61, b62, e61⟩ := more_ex v53 (lm x 2) (lm y 2) v60 ((v53 : Nat) : Int) (lm x 2 : Int) ((v60 : Nat) : Int) b53 (lm_lt _ _) (lm_lt _ _) b60 rfl rfl rfl
 obtain ⟨v63, v64, C63, b63, b64, e63⟩ := more_ex v55 (lm x 2) (lm y 3) v62 ((v55 : Nat) : Int) (lm x 2 : Int) ((v62 : Nat) : Int) b55 (lm_lt _ _) (lm_lt _ _) b62 rfl rfl rfl
 have wv46v56 := wrap_addN v46 v56 (by unfold B; omega)
 obtain ⟨v65, v66, C65, b65, b66, e65⟩ := add_ex (v46 + v56) v64 (IntKind.u64.wrap (((v46 : Nat) : Int) + ((v56 : Nat) : Int))) ((v64 : Nat) : Int) (by unfold B; omega) b64 wv46v56 rfl
 obtain ⟨q2, wq2, bq2, eq2⟩ : ∃ q : Nat, (IntKind.u64.wrap (((v57 : Nat) : Int) * ((iv : Nat) : Int))) = ((q : Nat) : Int) ∧ q < B ∧ q = v57 * iv % B := ⟨_, wrap_mulM _ _, Nat.mod_lt _ B_pos, rfl⟩
 obtain ⟨v67, v68, C67, b67, b68, e67⟩ := more_ex v57 q2 (lm m 0) 0 ((v57 : Nat) : Int) (IntKind.u64.wrap (((v57 : Nat) : Int) * ((iv : Nat) : Int))) (0 : Int) b57 bq2 (lm_lt _ _) B_pos rfl wq2 rfl
 obtain ⟨v69, v70, C69, b69, b70, e69⟩ := more_ex v59 q2 (lm m 1) v68 ((v59 : Nat) : Int) (IntKind.u64.wrap (((v57 : Nat) : Int) * ((iv : Nat) : Int))) ((v68 : Nat) : Int) b59 bq2 (lm_lt _ _) b68 rfl wq2 rfl
 obtain ⟨v71, v72, C71, b71, b72, e71⟩ := more_ex v61 q2 (lm m 2) v70 ((v61 : Nat) : Int) (IntKind.u64.wrap (((v57 : Nat) : Int) * ((iv : Nat) : Int))) ((v70 : Nat) : Int) b61 bq2 (lm_lt _ _) b70 rfl wq2 rfl
 obtain ⟨v73, v74, C73, b73, b74, e73⟩ := more_ex v63 q2 (lm m 3) v72 ((v63 : Nat) : Int) (IntKind.u64.wrap (((v57 : Nat) : Int) * ((iv : Nat) : Int))) ((v72 : Nat) : Int) b63 bq2 (lm_lt _ _) b72 rfl wq2 rfl
 obtain ⟨v75, v76, C75, b75, b76, e75⟩ := add_ex v65 v74 ((v65 : Nat) : Int) ((v74 : Nat) : Int) b65 b74 rfl rfl
 obtain ⟨v77, v78, C77, b77, b78, e77⟩ := more_ex v69 (lm x 3) (lm y 0) 0 ((v69 : Nat) : Int) (lm x 3 : Int) (0 : Int) b69 (lm_lt _ _) (lm_lt _ _) B_pos rfl rfl rfl
 obtain ⟨v79, v80, C79, b79, b80, e79⟩ := more_ex v71 (lm x 3) (lm y 1) v78 ((v71 : Nat) : Int) (lm x 3 : Int) ((v78 : Nat) : Int) b71 (lm_lt _ _) (lm_lt _ _) b78 rfl rfl rfl
 obtain ⟨v81, v82, C81, b81, b82, e81⟩ := more_ex v73 (lm x 3) (lm y 2) v80 ((v73 : Nat) : Int) (lm x 3 : Int) ((v80 : Nat) : Int) b73 (lm_lt _ _) (lm_lt _ _) b80 rfl rfl rfl
 obtain ⟨v83, v84, C83, b83, b84, e83⟩ := more_ex v75 (lm x 3) (lm y 3) v82 ((v75 : Nat) : Int) (lm x 3 : Int) ((v82 : Nat) : Int) b75 (lm_lt _ _) (lm_lt _ _) b82 rfl rfl rfl
 have wv66v76 := wrap_addN v66 v76 (by unfold B; omega)
 obtain ⟨v85, v86, C85, b85, b86, e85⟩ := add_ex (v66 + v76) v84 (IntKind.u64.wrap (((v66 : Nat) : Int) + ((v76 : Nat) : Int))) ((v84 : Nat) : Int) (by unfold B; omega) b84 wv66v76 rfl
 obtain ⟨q3, wq3, bq3, eq3⟩ : ∃ q : Nat, (IntKind.u64.wrap (((v77 : Nat) : Int) * ((iv : Nat) : Int))) = ((q : Nat) : Int) ∧ q < B ∧ q = v77 * iv % B := ⟨_, wrap_mulM _ _, Nat.mod_lt _ B_pos, rfl⟩
 obtain ⟨v87, v88, C87, b87, b88, e87⟩ := more_ex v77 q3 (lm m 0) 0 ((v77 : Nat) : Int) (IntKind.u64.wrap (((v77 : Nat) : Int) * ((iv : Nat) : Int))) (0 : Int) b77 bq3 (lm_lt _ _) B_pos rfl wq3 rfl
 obtain ⟨v89, v90, C89, b89, b90, e89⟩ := more_ex v79 q3 (lm m 1) v88 ((v79 : Nat) : Int) (IntKind.u64.wrap (((v77 : Nat) : Int) * ((iv : Nat) : Int))) ((v88 : Nat) : Int) b79 bq3 (lm_lt _ _) b88 rfl wq3 rfl
 obtain ⟨v91, v92, C91, b91, b92, e91⟩ := more_ex v81 q3 (lm m 2) v90 ((v81 : Nat) : Int) (IntKind.u64.wrap (((v77 : Nat) : Int) * ((iv : Nat) : Int))) ((v90 : Nat) : Int) b81 bq3 (lm_lt _ _) b90 rfl wq3 rfl
 obtain ⟨v93, v94, C93, b93, b94, e93⟩ := more_ex v83 q3 (lm m 3) v92 ((v83 : Nat) : Int) (IntKind.u64.wrap (((v77 : Nat) : Int) * ((iv : Nat) : Int))) ((v92 : Nat) : Int) b83 bq3 (lm_lt _ _) b92 rfl wq3 rfl
 obtain ⟨v95, v96, C95, b95, b96, e95⟩ := add_ex v85 v94 ((v85 : Nat) : Int) ((v94 : Nat) : Int) b85 b94 rfl rfl
 have R0 := half_round (T := 0) B_pos B_pos B_pos B_pos (lm_lt x 0) e17 e19 e21 e23 e25 b17 eq0 hiv e27 e29 e31 e33 e35 b27 (by unfold num; rfl) (by rw [num_lm hyN, num_lm hm]; omega)
 rw [num_lm hyN, num_lm hm] at R0
 have R1 := half_round (T := (num v29 v31 v33 v35 + N * (v26 + v36))) b29 b31 b33 b35 (lm_lt x 1) e37 e39 e41 e43 e45 b37 eq1 hiv e47 e49 e51 e53 e55 b47 rfl (by rw [num_lm hyN, num_lm hm]; exact R0.2)
 rw [num_lm hyN, num_lm hm] at R1
 have R2 := half_round (T := (num v49 v51 v53 v55 + N * (v46 + v56))) b49 b51 b53 b55 (lm_lt x 2) e57 e59 e61 e63 e65 b57 eq2 hiv e67 e69 e71 e73 e75 b67 rfl (by rw [num_lm hyN, num_lm hm]; exact R1.2)
 rw [num_lm hyN, num_lm hm] at R2
 have R3 := half_round (T := (num v69 v71 v73 v75 + N * (v66 + v76))) b69 b71 b73 b75 (lm_lt x 3) e77 e79 e81 e83 e85 b77 eq3 hiv e87 e89 e91 e93 e95 b87 rfl (by rw [num_lm hyN, num_lm hm]; exact R2.2)
 rw [num_lm hyN, num_lm hm] at R3
 have wv86v96 := wrap_addN v86 v96 (by unfold B; omega)
 have F := half_four R0.1 R1.1 R2.1 R3.1
 rw [num_lm hx] at F
 obtain ⟨s, bs, s0, s1, s2, s3⟩ := num_ex b89 b91 b93 b95
 rw [← s0, ← s1, ← s2, ← s3, num_lm bs] at F
 have F2 := R3.2
 rw [← s0, ← s1, ← s2, ← s3, num_lm bs] at F2
 have E := half_end (by omega) hm hni rfl bs hy F2 F
 clear F F2 R0 R1 R2 R3
 subst s0 s1 s2 s3
 have hrun := calls_of_runG (P := Tryd.prog) (v := ⟨envI [(lm m 0 : Int), (lm m 1 : Int), (lm m 2 : Int), (lm m 3 : Int), (lm sq 0 : Int), (lm sq 1 : Int), (lm sq 2 : Int), (lm sq 3 : Int), ((iv : Nat) : Int), (lm x 0 : Int), (lm x 1 : Int), (lm x 2 : Int), (lm x 3 : Int), (lm y 0 : Int), (lm y 1 : Int), (lm y 2 : Int), (lm y 3 : Int), ((v17 : Nat) : Int), ((v18 : Nat) : Int), ((v19 : Nat) : Int), ((v20 : Nat) : Int), ((v21 : Nat) : Int), ((v22 : Nat) : Int), ((v23 : Nat) : Int), ((v24 : Nat) : Int), ((v25 : Nat) : Int), ((v26 : Nat) : Int), ((v27 : Nat) : Int), ((v28 : Nat) : Int), ((v29 : Nat) : Int), ((v30 : Nat) : Int), ((v31 : Nat) : Int), ((v32 : Nat) : Int), ((v33 : Nat) : Int), ((v34 : Nat) : Int), ((v35 : Nat) : Int), ((v36 : Nat) : Int), ((v37 : Nat) : Int), ((v38 : Nat) : Int), ((v39 : Nat) : Int), ((v40 : Nat) : Int), ((v41 : Nat) : Int), ((v42 : Nat) : Int), ((v43 : Nat) : Int), ((v44 : Nat) : Int), ((v45 : Nat) : Int), ((v46 : Nat) : Int), ((v47 : Nat) : Int), ((v48 : Nat) : Int), ((v49 : Nat) : Int), ((v50 : Nat) : Int), ((v51 : Nat) : Int), ((v52 : Nat) : Int), ((v53 : Nat) : Int), ((v54 : Nat) : Int), ((v55 : Nat) : Int), ((v56 : Nat) : Int), ((v57 : Nat) : Int), ((v58 : Nat) : Int), ((v59 : Nat) : Int), ((v60 : Nat) : Int), ((v61 : Nat) : Int), ((v62 : Nat) : Int), ((v63 : Nat) : Int), ((v64 : Nat) : Int), ((v65 : Nat) : Int), ((v66 : Nat) : Int), ((v67 : Nat) : Int), ((v68 : Nat) : Int), ((v69 : Nat) : Int), ((v70 : Nat) : Int), ((v71 : Nat) : Int), ((v72 : Nat) : Int), ((v73 : Nat) : Int), ((v74 : Nat) : Int), ((v75 : Nat) : Int), ((v76 : Nat) : Int), ((v77 : Nat) : Int), ((v78 : Nat) : Int), ((v79 : Nat) : Int), ((v80 : Nat) : Int), ((v81 : Nat) : Int), ((v82 : Nat) : Int), ((v83 : Nat) : Int), ((v84 : Nat) : Int), ((v85 : Nat) : Int), ((v86 : Nat) : Int), ((v87 : Nat) : Int), ((v88 : Nat) : Int), (lm s 0 : Int), ((v90 : Nat) : Int), (lm s 1 : Int), ((v92 : Nat) : Int), (lm s 2 : Int), ((v94 : Nat) : Int), (lm s 3 : Int), ((v96 : Nat) : Int), ((lm (((s + N - m) % N)) 0 : Nat) : Int), ((lm (((s + N - m) % N)) 1 : Nat) : Int), ((lm (((s + N - m) % N)) 2 : Nat) : Int), ((lm (((s + N - m) % N)) 3 : Nat) : Int), 0, ((lm ((if (if ((IntKind.u64.wrap (((v86 : Nat) : Int) + ((v96 : Nat) : Int))) != (0 : Int)) = true then true else (!(decide (s < m)))) then (((s + N - m) % N)) else s)) 0 : Nat) : Int), ((lm ((if (if ((IntKind.u64.wrap (((v86 : Nat) : Int) + ((v96 : Nat) : Int))) != (0 : Int)) = true then true else (!(decide (s < m)))) then (((s + N - m) % N)) else s)) 1 : Nat) : Int), ((lm ((if (if ((IntKind.u64.wrap (((v86 : Nat) : Int) + ((v96 : Nat) : Int))) != (0 : Int)) = true then true else (!(decide (s < m)))) then (((s + N - m) % N)) else s)) 2 : Nat) : Int), ((lm ((if (if ((IntKind.u64.wrap (((v86 : Nat) : Int) + ((v96 : Nat) : Int))) != (0 : Int)) = true then true else (!(decide (s < m)))) then (((s + N - m) % N)) else s)) 3 : Nat) : Int)], envB [false, false, false, false, false, false, false, false, false, false, false, false, false, false, false, false, false, false, false, false, false, false, false, false, false, false, false, false, false, false, false, false, false, false, false, false, false, false, false, false, false, false, false, false, false, false, false, false, false, false, false, false, false, false, false, false, false, false, false, false, false, false, false, false, false, false, false, false, false, false, false, false, false, false, false, false, false, false, false, false, false, false, false, false, false, false, false, false, false, false, false, false, false, false, false, false, false, false, false, false, false, (decide (s < m))], envL [], envP [], L0, w⟩) (gs := []) (fuel := 3000) (nv := 17) (args := JA31) (ora := []) (sums := []) (res := [(.agg [.v 102, .v 103, .v 104, .v 105])]) (ev := [.call 97 [(.sc (.n 0)), (.sc (.v 9)), (.sc (.v 13)), (.sc (.n 0))] (.tup [(.sc (.v 17)), (.sc (.v 18))]), .call 97 [(.sc (.n 0)), (.sc (.v 9)), (.sc (.v 14)), (.sc (.v 18))] (.tup [(.sc (.v 19)), (.sc (.v 20))]), .call 97 [(.sc (.n 0)), (.sc (.v 9)), (.sc (.v 15)), (.sc (.v 20))] (.tup [(.sc (.v 21)), (.sc (.v 22))]), .call 97 [(.sc (.n 0)), (.sc (.v 9)), (.sc (.v 16)), (.sc (.v 22))] (.tup [(.sc (.v 23)), (.sc (.v 24))]), .call 98 [(.sc (.n 0)), (.sc (.v 24)), (.sc (.n 0))] (.tup [(.sc (.v 25)), (.sc (.v 26))]), .call 97 [(.sc (.v 17)), JA26, (.sc (.v 0)), (.sc (.n 0))] (.tup [(.sc (.v 27)), (.sc (.v 28))]), .call 97 [(.sc (.v 19)), JA26, (.sc (.v 1)), (.sc (.v 28))] (.tup [(.sc (.v 29)), (.sc (.v 30))]), .call 97 [(.sc (.v 21)), JA26, (.sc (.v 2)), (.sc (.v 30))] (.tup [(.sc (.v 31)), (.sc (.v 32))]), .call 97 [(.sc (.v 23)), JA26, (.sc (.v 3)), (.sc (.v 32))] (.tup [(.sc (.v 33)), (.sc (.v 34))]), .call 98 [(.sc (.v 25)), (.sc (.v 34)), (.sc (.n 0))] (.tup [(.sc (.v 35)), (.sc (.v 36))]), .call 97 [(.sc (.v 29)), (.sc (.v 10)), (.sc (.v 13)), (.sc (.n 0))] (.tup [(.sc (.v 37)), (.sc (.v 38))]), .call 97 [(.sc (.v 31)), (.sc (.v 10)), (.sc (.v 14)), (.sc (.v 38))] (.tup [(.sc (.v 39)), (.sc (.v 40))]), .call 97 [(.sc (.v 33)), (.sc (.v 10)), (.sc (.v 15)), (.sc (.v 40))] (.tup [(.sc (.v 41)), (.sc (.v 42))]), .call 97 [(.sc (.v 35)), (.sc (.v 10)), (.sc (.v 16)), (.sc (.v 42))] (.tup [(.sc (.v 43)), (.sc (.v 44))]), .call 98 [(.sc (.int .u64 (.add .u64 (.var 26) (.var 36)))), (.sc (.v 44)), (.sc (.n 0))] (.tup [(.sc (.v 45)), (.sc (.v 46))]), .call 97 [(.sc (.v 37)), JA25, (.sc (.v 0)), (.sc (.n 0))] (.tup [(.sc (.v 47)), (.sc (.v 48))]), .call 97 [(.sc (.v 39)), JA25, (.sc (.v 1)), (.sc (.v 48))] (.tup [(.sc (.v 49)), (.sc (.v 50))]), .call 97 [(.sc (.v 41)), JA25, (.sc (.v 2)), (.sc (.v 50))] (.tup [(.sc (.v 51)), (.sc (.v 52))]), .call 97 [(.sc (.v 43)), JA25, (.sc (.v 3)), (.sc (.v 52))] (.tup [(.sc (.v 53)), (.sc (.v 54))]), .call 98 [(.sc (.v 45)), (.sc (.v 54)), (.sc (.n 0))] (.tup [(.sc (.v 55)), (.sc (.v 56))]), .call 97 [(.sc (.v 49)), (.sc (.v 11)), (.sc (.v 13)), (.sc (.n 0))] (.tup [(.sc (.v 57)), (.sc (.v 58))]), .call 97 [(.sc (.v 51)), (.sc (.v 11)), (.sc (.v 14)), (.sc (.v 58))] (.tup [(.sc (.v 59)), (.sc (.v 60))]), .call 97 [(.sc (.v 53)), (.sc (.v 11)), (.sc (.v 15)), (.sc (.v 60))] (.tup [(.sc (.v 61)), (.sc (.v 62))]), .call 97 [(.sc (.v 55)), (.sc (.v 11)), (.sc (.v 16)), (.sc (.v 62))] (.tup [(.sc (.v 63)), (.sc (.v 64))]), .call 98 [(.sc (.int .u64 (.add .u64 (.var 46) (.var 56)))), (.sc (.v 64)), (.sc (.n 0))] (.tup [(.sc (.v 65)), (.sc (.v 66))]), .call 97 [(.sc (.v 57)), JA24, (.sc (.v 0)), (.sc (.n 0))] (.tup [(.sc (.v 67)), (.sc (.v 68))]), .call 97 [(.sc (.v 59)), JA24, (.sc (.v 1)), (.sc (.v 68))] (.tup [(.sc (.v 69)), (.sc (.v 70))]), .call 97 [(.sc (.v 61)), JA24, (.sc (.v 2)), (.sc (.v 70))] (.tup [(.sc (.v 71)), (.sc (.v 72))]), .call 97 [(.sc (.v 63)), JA24, (.sc (.v 3)), (.sc (.v 72))] (.tup [(.sc (.v 73)), (.sc (.v 74))]), .call 98 [(.sc (.v 65)), (.sc (.v 74)), (.sc (.n 0))] (.tup [(.sc (.v 75)), (.sc (.v 76))]), .call 97 [(.sc (.v 69)), (.sc (.v 12)), (.sc (.v 13)), (.sc (.n 0))] (.tup [(.sc (.v 77)), (.sc (.v 78))]), .call 97 [(.sc (.v 71)), (.sc (.v 12)), (.sc (.v 14)), (.sc (.v 78))] (.tup [(.sc (.v 79)), (.sc (.v 80))]), .call 97 [(.sc (.v 73)), (.sc (.v 12)), (.sc (.v 15)), (.sc (.v 80))] (.tup [(.sc (.v 81)), (.sc (.v 82))]), .call 97 [(.sc (.v 75)), (.sc (.v 12)), (.sc (.v 16)), (.sc (.v 82))] (.tup [(.sc (.v 83)), (.sc (.v 84))]), .call 98 [(.sc (.int .u64 (.add .u64 (.var 66) (.var 76)))), (.sc (.v 84)), (.sc (.n 0))] (.tup [(.sc (.v 85)), (.sc (.v 86))]), .call 97 [(.sc (.v 77)), JA23, (.sc (.v 0)), (.sc (.n 0))] (.tup [(.sc (.v 87)), (.sc (.v 88))]), .call 97 [(.sc (.v 79)), JA23, (.sc (.v 1)), (.sc (.v 88))] (.tup [(.sc (.v 89)), (.sc (.v 90))]), .call 97 [(.sc (.v 81)), JA23, (.sc (.v 2)), (.sc (.v 90))] (.tup [(.sc (.v 91)), (.sc (.v 92))]), .call 97 [(.sc (.v 83)), JA23, (.sc (.v 3)), (.sc (.v 92))] (.tup [(.sc (.v 93)), (.sc (.v 94))]), .call 98 [(.sc (.v 85)), (.sc (.v 94)), (.sc (.n 0))] (.tup [(.sc (.v 95)), (.sc (.v 96))]), .call 80 [(.agg [.v 89, .v 91, .v 93, .v 95]), JA18] (.tup [(.agg [.v 97, .v 98, .v 99, .v 100]), (.sc (.bool (.var 101)))]), .call 88 [(.sc (.bool (.ite (.cmp .neq (.add .u64 (.var 86) (.var 96)) (.lit 0)) (.lit true) (.not (.var 101))))), (.agg [.v 97, .v 98, .v 99, .v 100]), (.agg [.v 89, .v 91, .v 93, .v 95])] (.one (.agg [.v 102, .v 103, .v 104, .v 105]))]) (lev := []) Tryd.func86 (by kernel_rfl) (by kernel_rfl)
  (evs_of ⟨?_, ?_, ?_, ?_, ?_, ?_, ?_, ?_, ?_, ?_, ?_, ?_, ?_, ?_, ?_, ?_, ?_, ?_, ?_, ?_, ?_, ?_, ?_, ?_, ?_, ?_, ?_, ?_, ?_, ?_, ?_, ?_, ?_, ?_, ?_, ?_, ?_, ?_, ?_, ?_, ?_, ?_, trivial⟩) (by simp) (GsOk.nil _) (Nat.zero_le _) trivial
 ·(refine calls_eq hrun ?_; rw [← E, ← wv86v96]; rfl)
 ·exact CallP.g (C17)
 ·exact CallP.g (C19)
 ·exact CallP.g (C21)
 ·exact CallP.g (C23)
 ·exact CallP.g (C25)
 ·exact CallP.g (C27)
 ·exact CallP.g (C29)
 ·exact CallP.g (C31)
 ·exact CallP.g (C33)
 ·exact CallP.g (C35)
 ·exact CallP.g (C37)
 ·exact CallP.g (C39)
 ·exact CallP.g (C41)
 ·exact CallP.g (C43)
 ·exact CallP.g (C45)
 ·exact CallP.g (C47)
 ·exact CallP.g (C49)
 ·exact CallP.g (C51)
 ·exact CallP.g (C53)
 ·exact CallP.g (C55)
 ·exact CallP.g (C57)
 ·exact CallP.g (C59)
 ·exact CallP.g (C61)
 ·exact CallP.g (C63)
 ·exact CallP.g (C65)
 ·exact CallP.g (C67)
 ·exact CallP.g (C69)
 ·exact CallP.g (C71)
 ·exact CallP.g (C73)
 ·exact CallP.g (C75)
 ·exact CallP.g (C77)
 ·exact CallP.g (C79)
 ·exact CallP.g (C81)
 ·exact CallP.g (C83)
 ·exact CallP.g (C85)
 ·exact CallP.g (C87)
 ·exact CallP.g (C89)
 ·exact CallP.g (C91)
 ·exact CallP.g (C93)
 ·exact CallP.g (C95)
 ·exact CallP.g (limb_sub_c s m (by first | assumption | exact Nat.mod_lt _ (by decide) | (show _ < _; decide) | omega) (by first | assumption | exact Nat.mod_lt _ (by decide) | (show _ < _; decide) | omega))
 ·exact CallP.g (limb_pick_c (if ((IntKind.u64.wrap (((v86 : Nat) : Int) + ((v96 : Nat) : Int))) != (0 : Int)) = true then true else (!(decide (s < m)))) (((s + N - m) % N)) s)
theorem half_c (m sq iv x y ni : Nat) (biv : iv < B) (hx : x < N) (hm : m < N) (hy : y < m) (hiv : (iv * lm m 0 + 1) % B = 0) (hni : N * ni % m = 1 % m) :
  CallP Tryd.prog 86 #[.agg #[.int .u64 (lm m 0), .int .u64 (lm m 1), .int .u64 (lm m 2), .int .u64 (lm m 3), .int .u64 (lm sq 0), .int .u64 (lm sq 1), .int .u64 (lm sq 2), .int .u64 (lm sq 3), .int .u64 (iv : Nat)], vN x, vN y] (.agg #[.int .u64 (lm (hp m ni x y) 0), .int .u64 (lm (hp m ni x y) 1), .int .u64 (lm (hp m ni x y) 2), .int .u64 (lm (hp m ni x y) 3)]) :=
 callP_of Tryd.func86 (by kernel_rfl) (by kernel_rfl) (fun w => half_run m sq iv x y biv hx hm hy hiv ni hni w)
end Go.Proofs.YtkckmpnkacdchaaDoor
namespace Go.Proofs.YtkckmpnkacdchaaDoor
open Go.RowKit Go.Num Go.Sx
theorem cmp_more {m x : Nat} (h : m ≤ x) : decide (cmpN x m ≥ 0) = true := by
 have := cmpN_neg x m
 simp at this ⊢
 omega
theorem cmp_last {m x : Nat} (h : x < m) : decide (cmpN x m ≥ 0) = false := by
 have := cmpN_neg x m
 simp at this ⊢
 omega
theorem sub_red {m x : Nat} (h : m ≤ x) (hx : x < N) : (x + N - m) % N = x - m := by
 rw [show x + N - m = (x - m) + N by omega, Nat.add_mod_right, Nat.mod_eq_of_lt (by omega)]
abbrev fold_loop_env (w : World) (m sq iv : Nat) (a : Nat) (x : Nat) : Env := ⟨envI [lm m 0, lm m 1, lm m 2, lm m 3, lm sq 0, lm sq 1, lm sq 2, lm sq 3, ((iv : Nat) : Int), lm a 0, lm a 1, lm a 2, lm a 3, lm x 0, lm x 1, lm x 2, lm x 3], envB [], envL [], envP [], L0, w⟩
abbrev fold_loop_head : Fm := ⟨JA19, [JA1, JA5, JA4], []⟩
abbrev fold_loop_pre : Fm := ⟨JA19, [JA1, JA9, JA4], []⟩
theorem fold_loop_more (w : World) (m sq iv : Nat) (a : Nat) (hm : m < N) (x : Nat) (hx : x < N) (h : m ≤ x) : Round Tryd.prog (loopOf Tryd.f60 0) fold_loop_head (fold_loop_env w m sq iv a x) .normal fold_loop_head (fold_loop_env w m sq iv a (x - m)) := by
 obtain ⟨r1, hr1⟩ : ∃ r : Int, r = cmpN x m := ⟨_, rfl⟩
 obtain ⟨r2, hr2⟩ : ∃ r : Nat, r = (x + N - m) % N := ⟨_, rfl⟩
 have br2 : r2 < N := (by rw [hr2]; exact Nat.mod_lt _ N_pos)
 obtain ⟨r3, hr3⟩ : ∃ r : Bool, r = decide (x < m) := ⟨_, rfl⟩
 refine Round.mk (⟨envI [lm m 0, lm m 1, lm m 2, lm m 3, lm sq 0, lm sq 1, lm sq 2, lm sq 3, ((iv : Nat) : Int), lm a 0, lm a 1, lm a 2, lm a 3, lm x 0, lm x 1, lm x 2, lm x 3, r1, lm r2 0, lm r2 1, lm r2 2, lm r2 3], envB [false, false, false, false, false, false, false, false, false, false, false, false, false, false, false, false, false, false, false, false, false, false, r3], envL [], envP [], L0, w⟩) [some 0, some 1, some 2] JA35 3000 17 [some true] [] ⟨⟨[(.one (.agg JA0)), (.one JA6), (.one (.ptr 0 0)), (.one (.ptr 1 0)), (.one (.ptr 2 0)), (.one JA3), (.one (.ptr 0 0)), (.one JA18), (.one JA34), (.one JA21), (.tup JA29), (.one JA3), (.one (.ptr 0 0)), (.one JA18), (.tup JA29), (.one (.agg [.v 18, .v 19, .v 20, .v 21])), (.one (.sc (.bool (.var 22)))), .undef], [JA1, ⟨33, [(.sc (.v 18)), (.sc (.v 19)), (.sc (.v 20)), (.sc (.v 21))], false, true, false, none⟩, JA4], []⟩, 23, [], [], [.call 67 [JA3, JA18] (.one JA34), .dec (.cmp .geq (.var 17) (.lit 0)) true, .call 80 [JA3, JA18] (.tup JA29)], []⟩ (by (refine ⟨?_, ?_, rfl, by decide, rfl, rfl⟩ <;> (repeat' (first | exact trivial | with_reducible rfl | apply And.intro | (show rn _ _ _; exact rfl) | (intro h; first | exact rfl | exact h) | simp only [I.den, I.ldn, Bx.den, envI, envB, envL, envP, List.getD_cons_succ, List.getD_cons_zero, List.getD_nil] | exact rfl)))) (by kernel_rfl) ⟨evs_of ⟨?_, ?_, ?_, trivial⟩, by simp⟩ ?_
 ·exact CallP.g (limb_cmp_l x m (by first | assumption | exact Nat.mod_lt _ (by decide) | (show _ < _; decide) | omega) (by first | assumption | exact Nat.mod_lt _ (by decide) | (show _ < _; decide) | omega) hr1)
 ·(show decide (r1 ≥ 0) = true; rw [hr1]; exact cmp_more h)
 ·exact CallP.g (limb_sub_l x m (by first | assumption | exact Nat.mod_lt _ (by decide) | (show _ < _; decide) | omega) (by first | assumption | exact Nat.mod_lt _ (by decide) | (show _ < _; decide) | omega) hr2 hr3)
 ·(refine ⟨?_, ?_, rfl, by decide, rfl, rfl⟩ <;> (repeat' (first | exact trivial | with_reducible rfl | apply And.intro | (show rn _ _ _; exact rfl) | (intro h; first | exact rfl | exact h) | simp only [I.den, I.ldn, Bx.den, envI, envB, envL, envP, List.getD_cons_succ, List.getD_cons_zero, List.getD_nil] | exact rfl)))
  all_goals (rw [hr2, sub_red h hx])
theorem fold_loop_last (w : World) (m sq iv : Nat) (a : Nat) (hm : m < N) (x : Nat) (hx : x < N) (h : x < m) : Round Tryd.prog (loopOf Tryd.f60 0) fold_loop_head (fold_loop_env w m sq iv a x) (.exit 0) fold_loop_head (fold_loop_env w m sq iv a x) := by
 obtain ⟨r1, hr1⟩ : ∃ r : Int, r = cmpN x m := ⟨_, rfl⟩
 refine Round.mk (⟨envI [lm m 0, lm m 1, lm m 2, lm m 3, lm sq 0, lm sq 1, lm sq 2, lm sq 3, ((iv : Nat) : Int), lm a 0, lm a 1, lm a 2, lm a 3, lm x 0, lm x 1, lm x 2, lm x 3, r1], envB [], envL [], envP [], L0, w⟩) [some 0, some 1, some 2] JA35 3000 17 [some false] [] ⟨⟨[(.one (.agg JA0)), (.one JA6), (.one (.ptr 0 0)), (.one (.ptr 1 0)), (.one (.ptr 2 0)), (.one JA3), (.one (.ptr 0 0)), (.one JA18), (.one JA34), (.one JA37), .undef, .undef, .undef, .undef, .undef, .undef, .undef, .undef], [JA1, JA5, JA4], []⟩, 18, [], [], [.call 67 [JA3, JA18] (.one JA34), .dec (.cmp .geq (.var 17) (.lit 0)) false], []⟩ (by (refine ⟨?_, ?_, rfl, by decide, rfl, rfl⟩ <;> (repeat' (first | exact trivial | with_reducible rfl | apply And.intro | (show rn _ _ _; exact rfl) | (intro h; first | exact rfl | exact h) | simp only [I.den, I.ldn, Bx.den, envI, envB, envL, envP, List.getD_cons_succ, List.getD_cons_zero, List.getD_nil] | exact rfl)))) (by kernel_rfl) ⟨evs_of ⟨?_, ?_, trivial⟩, by simp⟩ ?_
 ·exact CallP.g (limb_cmp_l x m (by first | assumption | exact Nat.mod_lt _ (by decide) | (show _ < _; decide) | omega) (by first | assumption | exact Nat.mod_lt _ (by decide) | (show _ < _; decide) | omega) hr1)
 ·(show decide (r1 ≥ 0) = false; rw [hr1]; exact cmp_last h)
 ·(refine ⟨?_, ?_, rfl, by decide, rfl, rfl⟩ <;> (repeat' (first | exact trivial | with_reducible rfl | apply And.intro | (show rn _ _ _; exact rfl) | (intro h; first | exact rfl | exact h) | simp only [I.den, I.ldn, Bx.den, envI, envB, envL, envP, List.getD_cons_succ, List.getD_cons_zero, List.getD_nil] | exact rfl)))
theorem fold_rounds (w : World) (m sq iv a r : Nat) (hm : m < N) (ha : a < N) (h0 : 0 < m) (hr : r = a % m) (v : Env) {r0 r1 : List (Option Nat)} (start : Fm.to v (fold_loop_env w m sq iv a a) r0 fold_loop_pre fold_loop_head) (fin : Fm.to (fold_loop_env w m sq iv a r) v r1 fold_loop_head fold_loop_head) :
  LEv.holds Tryd.prog v ⟨loopOf Tryd.f60 0, fold_loop_pre, fold_loop_head, (.exit 0)⟩ := by
 subst hr
 have hq : a / m * m ≤ a := Nat.div_mul_le_self a m
 refine loop_rounds (r0 := r0) (n := a / m) (head := fold_loop_head) (fun k => fold_loop_env w m sq iv a (a - k * m)) ?_ ?_ (fold_loop_env w m sq iv a (a % m)) ?_ fin (by decide)
 ·show Fm.to v (fold_loop_env w m sq iv a (a - 0 * m)) _ _ _
  rw [Nat.zero_mul, Nat.sub_zero]
  exact start
 ·intro k hk
  show Round _ _ _ (fold_loop_env w m sq iv a (a - k * m)) _ _ (fold_loop_env w m sq iv a (a - (k + 1) * m))
  have h1 : (k + 1) * m ≤ a / m * m := Nat.mul_le_mul_right m hk
  rw [Nat.succ_mul] at h1 ⊢
  rw [← Nat.sub_sub]
  exact fold_loop_more w m sq iv a hm _ (by omega) (by omega)
 ·show Round _ _ _ (fold_loop_env w m sq iv a (a - a / m * m)) _ _ _
  have e : a - a / m * m = a % m := by rw [Nat.mul_comm]; exact (Nat.mod_eq_sub_mul_div).symm
  rw [e]
  exact fold_loop_last w m sq iv a hm _ (Nat.lt_of_le_of_lt (Nat.mod_le a m) ha) (Nat.mod_lt _ h0)
theorem fold_run (m sq iv : Nat) (a : Nat) (hm : m < N) (ha : a < N) (h0 : 0 < m) (r : Nat) (hr : r = a % m) (w : World) : Calls Tryd.prog 60 #[.agg #[.int .u64 (lm m 0), .int .u64 (lm m 1), .int .u64 (lm m 2), .int .u64 (lm m 3), .int .u64 (lm sq 0), .int .u64 (lm sq 1), .int .u64 (lm sq 2), .int .u64 (lm sq 3), .int .u64 (iv : Nat)], vN a] w fun e w' => e = .returned (vN r) ∧ Below w.heap.size w w' := by
 have hrun := calls_of_runG (P := Tryd.prog) (v := ⟨envI [lm m 0, lm m 1, lm m 2, lm m 3, lm sq 0, lm sq 1, lm sq 2, lm sq 3, ((iv : Nat) : Int), lm a 0, lm a 1, lm a 2, lm a 3, lm r 0, lm r 1, lm r 2, lm r 3], envB [], envL [], envP [], L0, w⟩) (gs := []) (fuel := 3000) (nv := 13) (args := [(.agg JA0), JA6]) (ora := []) (sums := [some ⟨[], [(1, JA5)], 17, (.exit 0)⟩]) (res := [JA3]) (ev := []) (lev := [⟨loopOf Tryd.f60 0, fold_loop_pre, fold_loop_head, (.exit 0)⟩]) Tryd.func60 (by kernel_rfl) (by kernel_rfl)
  (by simp) (levs_of ⟨?_, trivial⟩) (GsOk.nil _) (Nat.zero_le _) trivial
 ·exact hrun
 ·(refine fold_rounds w m sq iv a r hm ha h0 hr _ (r0 := JA35) (r1 := [some 0, some 1, some 2]) ?_ ?_ <;> (refine ⟨?_, ?_, rfl, by decide, rfl, rfl⟩ <;> (repeat' (first | exact trivial | with_reducible rfl | apply And.intro | (show rn _ _ _; exact rfl) | (intro h; first | exact rfl | exact h) | simp only [I.den, I.ldn, Bx.den, envI, envB, envL, envP, List.getD_cons_succ, List.getD_cons_zero, List.getD_nil] | exact rfl))))
theorem fold_c (m sq iv a : Nat) (hm : m < N) (ha : a < N) (h0 : 0 < m) : CallP Tryd.prog 60 #[.agg #[.int .u64 (lm m 0), .int .u64 (lm m 1), .int .u64 (lm m 2), .int .u64 (lm m 3), .int .u64 (lm sq 0), .int .u64 (lm sq 1), .int .u64 (lm sq 2), .int .u64 (lm sq 3), .int .u64 (iv : Nat)], vN a] (.agg #[.int .u64 (lm (a % m) 0), .int .u64 (lm (a % m) 1), .int .u64 (lm (a % m) 2), .int .u64 (lm (a % m) 3)]) :=
 callP_of Tryd.func60 (by kernel_rfl) (by kernel_rfl) (fun w => fold_run m sq iv a hm ha h0 _ rfl w)
theorem add_red {m a b : Nat} (hm : m < N) (ha : a < m) (hb : b < m) :
  (if (decide (N ≤ a + b) || !decide ((a + b) % N < m)) = true then ((a + b) % N + N - m) % N else (a + b) % N) = (a + b) % m := by
 rcases Nat.lt_or_ge (a + b) m with h | h
 ·rw [Nat.mod_eq_of_lt (show a + b < N by omega), Nat.mod_eq_of_lt h, if_neg]
  simp; omega
 ·rw [show (a + b) % m = a + b - m by rw [Nat.mod_eq_sub_mod h, Nat.mod_eq_of_lt (by omega)]]
  rcases Nat.lt_or_ge (a + b) N with h2 | h2
  ·rw [Nat.mod_eq_of_lt h2, if_pos (by simp; omega), sub_red h h2]
  ·rw [if_pos (by simp; omega), show (a + b) % N = a + b - N by rw [Nat.mod_eq_sub_mod h2, Nat.mod_eq_of_lt (by omega)]]
   rw [show a + b - N + N - m = a + b - m by omega, Nat.mod_eq_of_lt (by omega)]
theorem sub_red2 {m a b : Nat} (hm : m < N) (ha : a < m) (hb : b < m) :
  (if decide (a < b) = true then ((a + N - b) % N + m) % N else (a + N - b) % N) = (a + m - b) % m := by
 rcases Nat.lt_or_ge a b with h | h
 ·rw [if_pos (by simpa using h), Nat.mod_eq_of_lt (show a + N - b < N by omega), show a + N - b + m = (a + m - b) + N by omega, Nat.add_mod_right, Nat.mod_eq_of_lt (by omega), Nat.mod_eq_of_lt (by omega)]
 ·rw [if_neg (by simpa using h), sub_red h (by omega), show a + m - b = (a - b) + m by omega, Nat.add_mod_right, Nat.mod_eq_of_lt (by omega)]
theorem madd_run (m sq iv : Nat) (a : Nat) (b : Nat) (hm : m < N) (ha : a < m) (hb : b < m) (z : Nat) (hz : z = (a + b) % m) (w : World) : Calls Tryd.prog 59 #[.agg #[.int .u64 (lm m 0), .int .u64 (lm m 1), .int .u64 (lm m 2), .int .u64 (lm m 3), .int .u64 (lm sq 0), .int .u64 (lm sq 1), .int .u64 (lm sq 2), .int .u64 (lm sq 3), .int .u64 (iv : Nat)], vN a, vN b] w fun e w' => e = .returned (vN z) ∧ Below w.heap.size w w' := by
 have haN : a < N := Nat.lt_trans ha hm
 have hbN : b < N := Nat.lt_trans hb hm
 obtain ⟨r1, hr1⟩ : ∃ r : Nat, r = (a + b) % N := ⟨_, rfl⟩
 have br1 : r1 < N := (by rw [hr1]; exact Nat.mod_lt _ N_pos)
 obtain ⟨r2, hr2⟩ : ∃ r : Bool, r = decide (N ≤ a + b) := ⟨_, rfl⟩
 obtain ⟨r3, hr3⟩ : ∃ r : Nat, r = (r1 + N - m) % N := ⟨_, rfl⟩
 have br3 : r3 < N := (by rw [hr3]; exact Nat.mod_lt _ N_pos)
 obtain ⟨r4, hr4⟩ : ∃ r : Bool, r = decide (r1 < m) := ⟨_, rfl⟩
 obtain ⟨r5, hr5⟩ : ∃ r : Nat, r = if (if r2 = true then true else (!r4)) = true then r3 else r1 := ⟨_, rfl⟩
 have br5 : r5 < N := (by rw [hr5]; exact pick_lt br3 br1)
 have hrun := calls_of_runG (P := Tryd.prog) (v := ⟨envI [lm m 0, lm m 1, lm m 2, lm m 3, lm sq 0, lm sq 1, lm sq 2, lm sq 3, ((iv : Nat) : Int), lm a 0, lm a 1, lm a 2, lm a 3, lm b 0, lm b 1, lm b 2, lm b 3, lm r1 0, lm r1 1, lm r1 2, lm r1 3, 0, lm r3 0, lm r3 1, lm r3 2, lm r3 3, 0, lm r5 0, lm r5 1, lm r5 2, lm r5 3], envB [false, false, false, false, false, false, false, false, false, false, false, false, false, false, false, false, false, false, false, false, false, r2, false, false, false, false, r4], envL [], envP [], L0, w⟩) (gs := []) (fuel := 3000) (nv := 17) (args := JA31) (ora := []) (sums := []) (res := [JA10]) (ev := [.call 87 [JA6, JA3] (.tup [JA8, (.sc (.bool (.var 21)))]), .call 80 [JA8, JA18] (.tup [JA14, (.sc (.bool (.var 26)))]), .call 88 [(.sc (.bool (.ite (.var 21) (.lit true) (.not (.var 26))))), JA14, JA8] (.one JA10)]) (lev := []) Tryd.func59 (by kernel_rfl) (by kernel_rfl)
  (evs_of ⟨?_, ?_, ?_, trivial⟩) (by simp) (GsOk.nil _) (Nat.zero_le _) trivial
 ·(refine calls_eq hrun ?_; have E : z = r5 := (by rw [hz, hr5, or_ite, hr3, hr4, hr2, hr1]; exact (add_red hm ha hb).symm); rw [E]; rfl)
 ·exact CallP.g (limb_add_l a b (by first | assumption | exact Nat.mod_lt _ (by decide) | (show _ < _; decide) | omega) (by first | assumption | exact Nat.mod_lt _ (by decide) | (show _ < _; decide) | omega) hr1 hr2)
 ·exact CallP.g (limb_sub_l r1 m br1 (by first | assumption | exact Nat.mod_lt _ (by decide) | (show _ < _; decide) | omega) hr3 hr4)
 ·exact CallP.g (limb_pick_l (if r2 = true then true else (!r4)) r3 r1 hr5)
theorem madd_c (m sq iv a b : Nat) (hm : m < N) (ha : a < m) (hb : b < m) : CallP Tryd.prog 59 #[.agg #[.int .u64 (lm m 0), .int .u64 (lm m 1), .int .u64 (lm m 2), .int .u64 (lm m 3), .int .u64 (lm sq 0), .int .u64 (lm sq 1), .int .u64 (lm sq 2), .int .u64 (lm sq 3), .int .u64 (iv : Nat)], vN a, vN b] (.agg #[.int .u64 (lm ((a + b) % m) 0), .int .u64 (lm ((a + b) % m) 1), .int .u64 (lm ((a + b) % m) 2), .int .u64 (lm ((a + b) % m) 3)]) :=
 callP_of Tryd.func59 (by kernel_rfl) (by kernel_rfl) (fun w => madd_run m sq iv a b hm ha hb _ rfl w)
theorem msub_run (m sq iv : Nat) (a : Nat) (b : Nat) (hm : m < N) (ha : a < m) (hb : b < m) (z : Nat) (hz : z = (a + m - b) % m) (w : World) : Calls Tryd.prog 69 #[.agg #[.int .u64 (lm m 0), .int .u64 (lm m 1), .int .u64 (lm m 2), .int .u64 (lm m 3), .int .u64 (lm sq 0), .int .u64 (lm sq 1), .int .u64 (lm sq 2), .int .u64 (lm sq 3), .int .u64 (iv : Nat)], vN a, vN b] w fun e w' => e = .returned (vN z) ∧ Below w.heap.size w w' := by
 have haN : a < N := Nat.lt_trans ha hm
 have hbN : b < N := Nat.lt_trans hb hm
 obtain ⟨r1, hr1⟩ : ∃ r : Nat, r = (a + N - b) % N := ⟨_, rfl⟩
 have br1 : r1 < N := (by rw [hr1]; exact Nat.mod_lt _ N_pos)
 obtain ⟨r2, hr2⟩ : ∃ r : Bool, r = decide (a < b) := ⟨_, rfl⟩
 obtain ⟨r3, hr3⟩ : ∃ r : Nat, r = (r1 + m) % N := ⟨_, rfl⟩
 have br3 : r3 < N := (by rw [hr3]; exact Nat.mod_lt _ N_pos)
 obtain ⟨r4, hr4⟩ : ∃ r : Bool, r = decide (N ≤ r1 + m) := ⟨_, rfl⟩
 obtain ⟨r5, hr5⟩ : ∃ r : Nat, r = if r2 = true then r3 else r1 := ⟨_, rfl⟩
 have br5 : r5 < N := (by rw [hr5]; exact pick_lt br3 br1)
 have hrun := calls_of_runG (P := Tryd.prog) (v := ⟨envI [lm m 0, lm m 1, lm m 2, lm m 3, lm sq 0, lm sq 1, lm sq 2, lm sq 3, ((iv : Nat) : Int), lm a 0, lm a 1, lm a 2, lm a 3, lm b 0, lm b 1, lm b 2, lm b 3, lm r1 0, lm r1 1, lm r1 2, lm r1 3, 0, lm r3 0, lm r3 1, lm r3 2, lm r3 3, 0, lm r5 0, lm r5 1, lm r5 2, lm r5 3], envB [false, false, false, false, false, false, false, false, false, false, false, false, false, false, false, false, false, false, false, false, false, r2, false, false, false, false, r4], envL [], envP [], L0, w⟩) (gs := []) (fuel := 3000) (nv := 17) (args := JA31) (ora := []) (sums := []) (res := [JA10]) (ev := [.call 80 [JA6, JA3] (.tup [JA8, (.sc (.bool (.var 21)))]), .call 87 [JA8, JA18] (.tup [JA14, (.sc (.bool (.var 26)))]), .call 88 [(.sc (.bool (.var 21))), JA14, JA8] (.one JA10)]) (lev := []) Tryd.func69 (by kernel_rfl) (by kernel_rfl)
  (evs_of ⟨?_, ?_, ?_, trivial⟩) (by simp) (GsOk.nil _) (Nat.zero_le _) trivial
 ·(refine calls_eq hrun ?_; have E : z = r5 := (by rw [hz, hr5, hr3, hr2, hr1]; exact (sub_red2 hm ha hb).symm); rw [E]; rfl)
 ·exact CallP.g (limb_sub_l a b (by first | assumption | exact Nat.mod_lt _ (by decide) | (show _ < _; decide) | omega) (by first | assumption | exact Nat.mod_lt _ (by decide) | (show _ < _; decide) | omega) hr1 hr2)
 ·exact CallP.g (limb_add_l r1 m br1 (by first | assumption | exact Nat.mod_lt _ (by decide) | (show _ < _; decide) | omega) hr3 hr4)
 ·exact CallP.g (limb_pick_l r2 r3 r1 hr5)
theorem msub_c (m sq iv a b : Nat) (hm : m < N) (ha : a < m) (hb : b < m) : CallP Tryd.prog 69 #[.agg #[.int .u64 (lm m 0), .int .u64 (lm m 1), .int .u64 (lm m 2), .int .u64 (lm m 3), .int .u64 (lm sq 0), .int .u64 (lm sq 1), .int .u64 (lm sq 2), .int .u64 (lm sq 3), .int .u64 (iv : Nat)], vN a, vN b] (.agg #[.int .u64 (lm ((a + m - b) % m) 0), .int .u64 (lm ((a + m - b) % m) 1), .int .u64 (lm ((a + m - b) % m) 2), .int .u64 (lm ((a + m - b) % m) 3)]) :=
 callP_of Tryd.func69 (by kernel_rfl) (by kernel_rfl) (fun w => msub_run m sq iv a b hm ha hb _ rfl w)
structure GM (m sq iv ni : Nat) : Prop where
 hm : m < N
 h0 : 1 < m
 biv : iv < B
 hiv : (iv * lm m 0 + 1) % B = 0
 hni : N * ni % m = 1 % m
 hsq : sq = N * N % m
theorem GM.sqlt {m sq iv ni : Nat} (g : GM m sq iv ni) : sq < m := by rw [g.hsq]; exact Nat.mod_lt _ (by have := g.h0; omega)
theorem hp_lt {m sq iv ni : Nat} (g : GM m sq iv ni) (x y : Nat) : hp m ni x y < m := Nat.mod_lt _ (by have := g.h0; omega)
theorem hp_sq {m sq iv ni : Nat} (g : GM m sq iv ni) (x : Nat) : hp m ni x sq = x * N % m := by
 unfold hp
 have h : (N * N) * ni % m = N % m := by
  rw [Nat.mul_assoc, Nat.mul_mod, g.hni, ← Nat.mul_mod, Nat.mul_one]
 rw [g.hsq, Nat.mul_assoc, Nat.mul_mod, show (N * N % m * ni) % m = N % m by rw [Nat.mul_mod, Nat.mod_mod, ← Nat.mul_mod, h], ← Nat.mul_mod]
theorem hp_two {m sq iv ni : Nat} (g : GM m sq iv ni) (x y : Nat) : hp m ni (hp m ni x y) sq = x * y % m := by
 rw [hp_sq g]
 unfold hp
 rw [Nat.mul_mod, Nat.mod_mod, ← Nat.mul_mod, Nat.mul_assoc, Nat.mul_comm ni N, Nat.mul_mod, g.hni, ← Nat.mul_mod, Nat.mul_one]
theorem half_c2 {m sq iv ni : Nat} (g : GM m sq iv ni) (x y : Nat) (hx : x < N) (hy : y < m) : CallP Tryd.prog 86 #[.agg #[.int .u64 (lm m 0), .int .u64 (lm m 1), .int .u64 (lm m 2), .int .u64 (lm m 3), .int .u64 (lm sq 0), .int .u64 (lm sq 1), .int .u64 (lm sq 2), .int .u64 (lm sq 3), .int .u64 (iv : Nat)], vN x, vN y] (.agg #[.int .u64 (lm (hp m ni x y) 0), .int .u64 (lm (hp m ni x y) 1), .int .u64 (lm (hp m ni x y) 2), .int .u64 (lm (hp m ni x y) 3)]) :=
 half_c m sq iv x y ni g.biv hx g.hm hy g.hiv g.hni
theorem half_e {m sq iv ni : Nat} (g : GM m sq iv ni) (x y : Nat) (hx : x < N) (hy : y < m) {r : Nat} (hr : r = hp m ni x y) : CallP Tryd.prog 86 #[.agg #[.int .u64 (lm m 0), .int .u64 (lm m 1), .int .u64 (lm m 2), .int .u64 (lm m 3), .int .u64 (lm sq 0), .int .u64 (lm sq 1), .int .u64 (lm sq 2), .int .u64 (lm sq 3), .int .u64 (iv : Nat)], vN x, vN y] (vN r) := by
 subst hr
 exact half_c2 g x y hx hy
theorem mmul_run (m sq iv : Nat) (a : Nat) (b : Nat) (ni : Nat) (g : GM m sq iv ni) (ha : a < N) (hb : b < m) (h z : Nat) (hh : h = hp m ni a b) (hz : z = a * b % m) (w : World) : Calls Tryd.prog 61 #[.agg #[.int .u64 (lm m 0), .int .u64 (lm m 1), .int .u64 (lm m 2), .int .u64 (lm m 3), .int .u64 (lm sq 0), .int .u64 (lm sq 1), .int .u64 (lm sq 2), .int .u64 (lm sq 3), .int .u64 (iv : Nat)], vN a, vN b] w fun e w' => e = .returned (vN z) ∧ Below w.heap.size w w' := by
 have hrun := calls_of_runG (P := Tryd.prog) (v := ⟨envI [lm m 0, lm m 1, lm m 2, lm m 3, lm sq 0, lm sq 1, lm sq 2, lm sq 3, ((iv : Nat) : Int), lm a 0, lm a 1, lm a 2, lm a 3, lm b 0, lm b 1, lm b 2, lm b 3, lm h 0, lm h 1, lm h 2, lm h 3, lm z 0, lm z 1, lm z 2, lm z 3], envB [], envL [], envP [], L0, w⟩) (gs := []) (fuel := 3000) (nv := 17) (args := JA31) (ora := []) (sums := []) (res := [(.agg [.v 21, .v 22, .v 23, .v 24])]) (ev := [.call 86 JA31 (.one JA8), .call 86 [(.agg JA0), JA8, (.agg [.v 4, .v 5, .v 6, .v 7])] (.one (.agg [.v 21, .v 22, .v 23, .v 24]))]) (lev := []) Tryd.func61 (by kernel_rfl) (by kernel_rfl)
  (evs_of ⟨?_, ?_, trivial⟩) (by simp) (GsOk.nil _) (Nat.zero_le _) trivial
 ·exact hrun
 ·exact CallP.g (half_e g _ _ ha hb hh)
 ·exact CallP.g (half_e g _ _ (by rw [hh]; exact Nat.lt_trans (hp_lt g _ _) g.hm) g.sqlt (by rw [hz, hh]; exact (hp_two g a b).symm))
theorem mmul_c {m sq iv ni : Nat} (g : GM m sq iv ni) (a b : Nat) (ha : a < N) (hb : b < m) : CallP Tryd.prog 61 #[.agg #[.int .u64 (lm m 0), .int .u64 (lm m 1), .int .u64 (lm m 2), .int .u64 (lm m 3), .int .u64 (lm sq 0), .int .u64 (lm sq 1), .int .u64 (lm sq 2), .int .u64 (lm sq 3), .int .u64 (iv : Nat)], vN a, vN b] (.agg #[.int .u64 (lm (a * b % m) 0), .int .u64 (lm (a * b % m) 1), .int .u64 (lm (a * b % m) 2), .int .u64 (lm (a * b % m) 3)]) :=
 callP_of Tryd.func61 (by kernel_rfl) (by kernel_rfl) (fun w => mmul_run m sq iv a b ni g ha hb _ _ rfl rfl w)
end Go.Proofs.YtkckmpnkacdchaaDoor
namespace Go.Proofs.YtkckmpnkacdchaaDoor
open Go.RowKit Go.Num Go.Sx
theorem mmul_l {m sq iv ni : Nat} (g : GM m sq iv ni) (a b : Nat) (ha : a < N) (hb : b < m) {r : Nat} (hr : r = a * b % m) : CallP Tryd.prog 61 #[.agg #[.int .u64 (lm m 0), .int .u64 (lm m 1), .int .u64 (lm m 2), .int .u64 (lm m 3), .int .u64 (lm sq 0), .int .u64 (lm sq 1), .int .u64 (lm sq 2), .int .u64 (lm sq 3), .int .u64 (iv : Nat)], vN a, vN b] (vN r) := by
 subst hr
 exact mmul_c g a b ha hb
theorem GM.mod {m sq iv ni : Nat} (g : GM m sq iv ni) (x : Nat) : x % m < m := Nat.mod_lt _ (by have := g.h0; omega)
theorem GM.ltN {m sq iv ni : Nat} (g : GM m sq iv ni) {x : Nat} (h : x < m) : x < N := Nat.lt_trans h g.hm
abbrev pow_loop_env (w : World) (m sq iv : Nat) (a : Nat) (e : Nat) (i : Int) (z : Nat) : Env := ⟨envI [lm m 0, lm m 1, lm m 2, lm m 3, lm sq 0, lm sq 1, lm sq 2, lm sq 3, ((iv : Nat) : Int), lm a 0, lm a 1, lm a 2, lm a 3, lm e 0, lm e 1, lm e 2, lm e 3, lm z 0, lm z 1, lm z 2, lm z 3, i], envB [], envL [], envP [], L0, w⟩
abbrev pow_loop_head : Fm := ⟨[(.one (.agg JA0)), (.one JA6), (.one JA3), (.one (.ptr 0 0)), (.one (.ptr 1 0)), (.one (.ptr 2 0)), (.one (.ptr 3 0)), (.one (.fn 61 JA0)), (.one (.ptr 4 0)), (.one JA16), (.one (.agg JA0)), (.one (.fn 61 JA0)), (.one JA30), .undef, .undef, .undef, .undef, .undef, .undef, .undef, .undef, .undef, .undef, .undef, .undef, .undef, .undef, .undef, .undef, .undef], [JA1, JA9, JA5, JA4, JA20], []⟩
abbrev pow_loop_pre : Fm := ⟨[(.one (.agg JA0)), (.one JA6), (.one JA3), (.one (.ptr 0 0)), (.one (.ptr 1 0)), (.one (.ptr 2 0)), (.one (.ptr 3 0)), (.one (.fn 61 JA0)), (.one (.ptr 4 0)), (.one (.sc (.int .i64 (.lit 255)))), (.one (.agg JA0)), (.one (.fn 61 JA0)), (.one JA30), .undef, .undef, .undef, .undef, .undef, .undef, .undef, .undef, .undef, .undef, .undef, .undef, .undef, .undef, .undef, .undef, .undef], [JA1, JA9, JA5, JA4, ⟨33, [(.sc (.n 1)), (.sc (.n 0)), (.sc (.n 0)), (.sc (.n 0))], false, true, false, none⟩], []⟩
theorem pow_loop_one (w : World) (m sq iv : Nat) (a : Nat) (e : Nat) (ni : Nat) (g : GM m sq iv ni) (ha : a < m) (i : Int) (z : Nat) (h0 : 0 ≤ i) (h1 : i ≤ 255) (hz : z < m) (hb : bitI e i = 1) : Round Tryd.prog (loopOf Tryd.f81 0) pow_loop_head (pow_loop_env w m sq iv a e i z) .normal pow_loop_head (pow_loop_env w m sq iv a e (i - 1) (z * z % m * a % m)) := by
 obtain ⟨r1, hr1⟩ : ∃ r : Nat, r = z * z % m := ⟨_, rfl⟩
 have br1 : r1 < m := (by rw [hr1]; exact g.mod _)
 obtain ⟨r2, hr2⟩ : ∃ r : Int, r = bitI e i := ⟨_, rfl⟩
 obtain ⟨r3, hr3⟩ : ∃ r : Nat, r = r1 * a % m := ⟨_, rfl⟩
 have br3 : r3 < m := (by rw [hr3]; exact g.mod _)
 refine Round.mk (⟨envI [lm m 0, lm m 1, lm m 2, lm m 3, lm sq 0, lm sq 1, lm sq 2, lm sq 3, ((iv : Nat) : Int), lm a 0, lm a 1, lm a 2, lm a 3, lm e 0, lm e 1, lm e 2, lm e 3, lm z 0, lm z 1, lm z 2, lm z 3, i, lm r1 0, lm r1 1, lm r1 2, lm r1 3, r2, lm r3 0, lm r3 1, lm r3 2, lm r3 3], envB [], envL [], envP [], L0, w⟩) [some 0, some 1, some 2, some 3, some 4] JA22 3000 22 [some true, some true] [] ⟨⟨[(.one (.agg JA0)), (.one JA6), (.one JA3), (.one (.ptr 0 0)), (.one (.ptr 1 0)), (.one (.ptr 2 0)), (.one (.ptr 3 0)), (.one (.fn 61 JA0)), (.one (.ptr 4 0)), (.one JA27), (.one (.agg JA0)), (.one (.fn 61 JA0)), (.one JA30), (.one JA16), (.one JA21), (.one JA16), (.one JA27), (.one (.fn 61 JA0)), (.one JA8), (.one JA8), (.one JA14), (.one JA3), (.one JA16), (.one JA33), (.one JA21), (.one (.fn 61 JA0)), (.one JA14), (.one JA6), (.one JA10), .undef], [JA1, JA9, JA5, JA4, ⟨33, [(.sc (.v 27)), (.sc (.v 28)), (.sc (.v 29)), (.sc (.v 30))], false, true, false, none⟩], []⟩, 31, [], [], [.dec JA36 true, .call 61 [(.agg JA0), JA8, JA8] (.one JA14), .call 72 [JA3, JA16] (.one JA33), .dec (.cmp .eql (.var 26) (.lit 1)) true, .call 61 [(.agg JA0), JA14, JA6] (.one JA10)], []⟩ (by (refine ⟨?_, ?_, rfl, by decide, rfl, rfl⟩ <;> (repeat' (first | exact trivial | with_reducible rfl | apply And.intro | (show rn _ _ _; exact rfl) | (intro h; first | exact rfl | exact h) | simp only [I.den, I.ldn, Bx.den, envI, envB, envL, envP, List.getD_cons_succ, List.getD_cons_zero, List.getD_nil] | exact rfl)))) (by kernel_rfl) ⟨evs_of ⟨?_, ?_, ?_, ?_, ?_, trivial⟩, by simp⟩ ?_
 ·simp [Ev.holds, Bx.den, cmpD, I.den, I.ldn, envI, envB, envL, envP, h0]
 ·exact CallP.g (mmul_l g z z (by first | assumption | exact g.ltN (by assumption)) (by assumption) hr1)
 ·exact CallP.g (limb_bitI_l e i hr2)
 ·simp [Ev.holds, Bx.den, cmpD, I.den, I.ldn, envI, envB, envL, envP, hr2, hb]
 ·exact CallP.g (mmul_l g r1 a (by first | assumption | exact g.ltN (by assumption)) (by assumption) hr3)
 ·(refine ⟨?_, ?_, rfl, by decide, rfl, rfl⟩ <;> (repeat' (first | exact trivial | with_reducible rfl | apply And.intro | (show rn _ _ _; exact rfl) | (intro h; first | exact rfl | exact h) | simp only [I.den, I.ldn, Bx.den, envI, envB, envL, envP, List.getD_cons_succ, List.getD_cons_zero, List.getD_nil] | exact rfl)))
  all_goals first | (rw [IntKind.wrap_i64]; omega) | (rw [hr3, hr1])
theorem pow_loop_nil (w : World) (m sq iv : Nat) (a : Nat) (e : Nat) (ni : Nat) (g : GM m sq iv ni) (ha : a < m) (i : Int) (z : Nat) (h0 : 0 ≤ i) (h1 : i ≤ 255) (hz : z < m) (hb : bitI e i = 0) : Round Tryd.prog (loopOf Tryd.f81 0) pow_loop_head (pow_loop_env w m sq iv a e i z) .normal pow_loop_head (pow_loop_env w m sq iv a e (i - 1) (z * z % m)) := by
 obtain ⟨r1, hr1⟩ : ∃ r : Nat, r = z * z % m := ⟨_, rfl⟩
 have br1 : r1 < m := (by rw [hr1]; exact g.mod _)
 obtain ⟨r2, hr2⟩ : ∃ r : Int, r = bitI e i := ⟨_, rfl⟩
 refine Round.mk (⟨envI [lm m 0, lm m 1, lm m 2, lm m 3, lm sq 0, lm sq 1, lm sq 2, lm sq 3, ((iv : Nat) : Int), lm a 0, lm a 1, lm a 2, lm a 3, lm e 0, lm e 1, lm e 2, lm e 3, lm z 0, lm z 1, lm z 2, lm z 3, i, lm r1 0, lm r1 1, lm r1 2, lm r1 3, r2], envB [], envL [], envP [], L0, w⟩) [some 0, some 1, some 2, some 3, some 4] JA22 3000 22 [some true, some false] [] ⟨⟨[(.one (.agg JA0)), (.one JA6), (.one JA3), (.one (.ptr 0 0)), (.one (.ptr 1 0)), (.one (.ptr 2 0)), (.one (.ptr 3 0)), (.one (.fn 61 JA0)), (.one (.ptr 4 0)), (.one JA27), (.one (.agg JA0)), (.one (.fn 61 JA0)), (.one JA30), (.one JA16), (.one JA21), (.one JA16), (.one JA27), (.one (.fn 61 JA0)), (.one JA8), (.one JA8), (.one JA14), (.one JA3), (.one JA16), (.one JA33), (.one JA37), .undef, .undef, .undef, .undef, .undef], [JA1, JA9, JA5, JA4, ⟨33, [(.sc (.v 22)), (.sc (.v 23)), (.sc (.v 24)), (.sc (.v 25))], false, true, false, none⟩], []⟩, 27, [], [], [.dec JA36 true, .call 61 [(.agg JA0), JA8, JA8] (.one JA14), .call 72 [JA3, JA16] (.one JA33), .dec (.cmp .eql (.var 26) (.lit 1)) false], []⟩ (by (refine ⟨?_, ?_, rfl, by decide, rfl, rfl⟩ <;> (repeat' (first | exact trivial | with_reducible rfl | apply And.intro | (show rn _ _ _; exact rfl) | (intro h; first | exact rfl | exact h) | simp only [I.den, I.ldn, Bx.den, envI, envB, envL, envP, List.getD_cons_succ, List.getD_cons_zero, List.getD_nil] | exact rfl)))) (by kernel_rfl) ⟨evs_of ⟨?_, ?_, ?_, ?_, trivial⟩, by simp⟩ ?_
 ·simp [Ev.holds, Bx.den, cmpD, I.den, I.ldn, envI, envB, envL, envP, h0]
 ·exact CallP.g (mmul_l g z z (by first | assumption | exact g.ltN (by assumption)) (by assumption) hr1)
 ·exact CallP.g (limb_bitI_l e i hr2)
 ·simp [Ev.holds, Bx.den, cmpD, I.den, I.ldn, envI, envB, envL, envP, hr2, hb]
 ·(refine ⟨?_, ?_, rfl, by decide, rfl, rfl⟩ <;> (repeat' (first | exact trivial | with_reducible rfl | apply And.intro | (show rn _ _ _; exact rfl) | (intro h; first | exact rfl | exact h) | simp only [I.den, I.ldn, Bx.den, envI, envB, envL, envP, List.getD_cons_succ, List.getD_cons_zero, List.getD_nil] | exact rfl)))
  all_goals first | (rw [IntKind.wrap_i64]; omega) | (rw [hr1])
theorem pow_loop_last (w : World) (m sq iv : Nat) (a : Nat) (e : Nat) (ni : Nat) (g : GM m sq iv ni) (ha : a < m) (i : Int) (z : Nat) (h0 : i < 0) : Round Tryd.prog (loopOf Tryd.f81 0) pow_loop_head (pow_loop_env w m sq iv a e i z) (.exit 0) pow_loop_head (pow_loop_env w m sq iv a e i z) := by
 refine Round.mk (⟨envI [lm m 0, lm m 1, lm m 2, lm m 3, lm sq 0, lm sq 1, lm sq 2, lm sq 3, ((iv : Nat) : Int), lm a 0, lm a 1, lm a 2, lm a 3, lm e 0, lm e 1, lm e 2, lm e 3, lm z 0, lm z 1, lm z 2, lm z 3, i], envB [], envL [], envP [], L0, w⟩) [some 0, some 1, some 2, some 3, some 4] JA22 3000 22 [some false] [] ⟨⟨[(.one (.agg JA0)), (.one JA6), (.one JA3), (.one (.ptr 0 0)), (.one (.ptr 1 0)), (.one (.ptr 2 0)), (.one (.ptr 3 0)), (.one (.fn 61 JA0)), (.one (.ptr 4 0)), (.one JA16), (.one (.agg JA0)), (.one (.fn 61 JA0)), (.one JA30), (.one JA16), (.one JA37), .undef, .undef, .undef, .undef, .undef, .undef, .undef, .undef, .undef, .undef, .undef, .undef, .undef, .undef, .undef], [JA1, JA9, JA5, JA4, JA20], []⟩, 22, [], [], [.dec JA36 false], []⟩ (by (refine ⟨?_, ?_, rfl, by decide, rfl, rfl⟩ <;> (repeat' (first | exact trivial | with_reducible rfl | apply And.intro | (show rn _ _ _; exact rfl) | (intro h; first | exact rfl | exact h) | simp only [I.den, I.ldn, Bx.den, envI, envB, envL, envP, List.getD_cons_succ, List.getD_cons_zero, List.getD_nil] | exact rfl)))) (by kernel_rfl) ⟨evs_of ⟨?_, trivial⟩, by simp⟩ ?_
 ·simp [Ev.holds, Bx.den, cmpD, I.den, I.ldn, envI, envB, envL, envP, h0]
 ·(refine ⟨?_, ?_, rfl, by decide, rfl, rfl⟩ <;> (repeat' (first | exact trivial | with_reducible rfl | apply And.intro | (show rn _ _ _; exact rfl) | (intro h; first | exact rfl | exact h) | simp only [I.den, I.ldn, Bx.den, envI, envB, envL, envP, List.getD_cons_succ, List.getD_cons_zero, List.getD_nil] | exact rfl)))
def pacc (m a e k : Nat) : Nat := a ^ (e / 2 ^ (256 - k)) % m
theorem pacc_zero {m e : Nat} (h0 : 1 < m) (he : e < N) (a : Nat) : pacc m a e 0 = 1 := by
 unfold pacc
 rw [Nat.div_eq_of_lt (show e < 2 ^ (256 - 0) from he), Nat.pow_zero, Nat.mod_eq_of_lt h0]
theorem pacc_full (m a e : Nat) : pacc m a e 256 = a ^ e % m := by
 unfold pacc
 rw [show 2 ^ (256 - 256) = 1 from rfl, Nat.div_one]
theorem pacc_succ (m a e k : Nat) (hk : k < 256) : pacc m a e (k + 1) = pacc m a e k * pacc m a e k % m * a ^ bit e (255 - k) % m := by
 unfold pacc bit
 rw [show 256 - (k + 1) = 255 - k by omega, show 256 - k = (255 - k) + 1 by omega, Nat.pow_succ, ← Nat.div_div_eq_div_mul]
 generalize e / 2 ^ (255 - k) = q
 conv => lhs; rw [show q = q / 2 + q / 2 + q % 2 by omega]
 rw [Nat.pow_add, Nat.pow_add]
 rw [Nat.mul_mod (_ * _) (a ^ (q % 2)), Nat.mul_mod (a ^ (q / 2))]
 conv => rhs; rw [Nat.mul_mod, Nat.mod_mod]
theorem bitI_nat2 (x k : Nat) (hk : k < 256) : bitI x (255 - (k : Int)) = (bit x (255 - k) : Int) := by
 unfold bitI
 rw [if_pos ⟨by omega, by omega⟩, show (255 - (k : Int)).toNat = 255 - k by omega]
theorem pow_rounds (w : World) (m sq iv a e ni r : Nat) (g : GM m sq iv ni) (ha : a < m) (he : e < N) (hr : r = a ^ e % m) (v : Env) {r0 r1 : List (Option Nat)} (start : Fm.to v (pow_loop_env w m sq iv a e 255 1) r0 pow_loop_pre pow_loop_head) (fin : Fm.to (pow_loop_env w m sq iv a e (-1) r) v r1 pow_loop_head pow_loop_head) :
  LEv.holds Tryd.prog v ⟨loopOf Tryd.f81 0, pow_loop_pre, pow_loop_head, (.exit 0)⟩ := by
 subst hr
 refine loop_rounds (r0 := r0) (n := 256) (head := pow_loop_head) (fun k => pow_loop_env w m sq iv a e (255 - (k : Int)) (pacc m a e k)) ?_ ?_ (pow_loop_env w m sq iv a e (-1) (a ^ e % m)) ?_ fin (by decide)
 ·show Fm.to v (pow_loop_env w m sq iv a e (255 - ((0 : Nat) : Int)) (pacc m a e 0)) _ _ _
  rw [pacc_zero g.h0 he]
  exact start
 ·intro k hk
  show Round _ _ _ (pow_loop_env w m sq iv a e (255 - (k : Int)) (pacc m a e k)) _ _ (pow_loop_env w m sq iv a e (255 - ((k + 1 : Nat) : Int)) (pacc m a e (k + 1)))
  have hb := bitI_nat2 e k hk
  have hl : bit e (255 - k) < 2 := Nat.mod_lt _ (by decide)
  have hz : pacc m a e k < m := g.mod _
  rw [pacc_succ m a e k hk, show 255 - ((k + 1 : Nat) : Int) = 255 - (k : Int) - 1 by omega]
  obtain h | h : bit e (255 - k) = 0 ∨ bit e (255 - k) = 1 := by omega
  ·rw [h] at hb ⊢
   rw [Nat.pow_zero, Nat.mul_one, Nat.mod_mod]
   exact pow_loop_nil w m sq iv a e ni g ha _ _ (by omega) (by omega) hz hb
  ·rw [h] at hb ⊢
   rw [Nat.pow_one]
   exact pow_loop_one w m sq iv a e ni g ha _ _ (by omega) (by omega) hz hb
 ·show Round _ _ _ (pow_loop_env w m sq iv a e (255 - ((256 : Nat) : Int)) (pacc m a e 256)) _ _ _
  rw [pacc_full]
  exact pow_loop_last w m sq iv a e ni g ha (-1) (a ^ e % m) (by decide)
theorem pow_run (m sq iv : Nat) (a : Nat) (e : Nat) (ni : Nat) (g : GM m sq iv ni) (ha : a < m) (he : e < N) (r : Nat) (hr : r = a ^ e % m) (w : World) : Calls Tryd.prog 81 #[.agg #[.int .u64 (lm m 0), .int .u64 (lm m 1), .int .u64 (lm m 2), .int .u64 (lm m 3), .int .u64 (lm sq 0), .int .u64 (lm sq 1), .int .u64 (lm sq 2), .int .u64 (lm sq 3), .int .u64 (iv : Nat)], vN a, vN e] w fun e w' => e = .returned (vN r) ∧ Below w.heap.size w w' := by
 have hrun := calls_of_runG (P := Tryd.prog) (v := ⟨envI [lm m 0, lm m 1, lm m 2, lm m 3, lm sq 0, lm sq 1, lm sq 2, lm sq 3, ((iv : Nat) : Int), lm a 0, lm a 1, lm a 2, lm a 3, lm e 0, lm e 1, lm e 2, lm e 3, lm r 0, lm r 1, lm r 2, lm r 3, (-1 : Int)], envB [], envL [], envP [], L0, w⟩) (gs := []) (fuel := 3000) (nv := 17) (args := JA31) (ora := []) (sums := [some ⟨[(9, (.one JA16))], [(4, JA20)], 22, (.exit 0)⟩]) (res := [JA8]) (ev := []) (lev := [⟨loopOf Tryd.f81 0, pow_loop_pre, pow_loop_head, (.exit 0)⟩]) Tryd.func81 (by kernel_rfl) (by kernel_rfl)
  (by simp) (levs_of ⟨?_, trivial⟩) (GsOk.nil _) (Nat.zero_le _) trivial
 ·exact hrun
 ·(refine pow_rounds w m sq iv a e ni r g ha he hr _ (r0 := JA22) (r1 := [some 0, some 1, some 2, some 3, some 4]) ?_ ?_ <;> (refine ⟨?_, ?_, rfl, by decide, rfl, rfl⟩ <;> (repeat' (first | exact trivial | with_reducible rfl | apply And.intro | (show rn _ _ _; exact rfl) | (intro h; first | exact rfl | exact h) | simp only [I.den, I.ldn, Bx.den, envI, envB, envL, envP, List.getD_cons_succ, List.getD_cons_zero, List.getD_nil] | exact rfl))))
theorem pow_l {m sq iv ni : Nat} (g : GM m sq iv ni) (a e : Nat) (ha : a < m) (he : e < N) {r : Nat} (hr : r = a ^ e % m) : CallP Tryd.prog 81 #[.agg #[.int .u64 (lm m 0), .int .u64 (lm m 1), .int .u64 (lm m 2), .int .u64 (lm m 3), .int .u64 (lm sq 0), .int .u64 (lm sq 1), .int .u64 (lm sq 2), .int .u64 (lm sq 3), .int .u64 (iv : Nat)], vN a, vN e] (vN r) :=
 callP_of Tryd.func81 (by kernel_rfl) (by kernel_rfl) (fun w => pow_run m sq iv a e ni g ha he r hr w)
end Go.Proofs.YtkckmpnkacdchaaDoor
namespace Go.Num
def sb (m x y : Nat) : Nat := (x % m + m - y % m) % m
end Go.Num
namespace Go.Proofs.YtkckmpnkacdchaaDoor
open Go.RowKit Go.Num Go.Sx
def modL : List Int := [18446744073709551615, 4294967295, 0, 18446744069414584321, 3, 18446744056529682431, 18446744073709551614, 21474836477, 1, 17562291160714782033, 13611842547513532036, 18446744073709551615, 18446744069414584320, 9449762124159643298, 5087230966250696614, 2901921493521525849, 7413256579398063648, 14758798090332847183, 18446744073709551597, 18446744073709551615, 18446744073709551615, 9223372036854775807, 1444, 0, 0, 0, 9708812670373448219, 6346243789798364141, 1503914060200516822, 0, 1152921504606846976, 11819153939886771969, 14991950615390032711, 14910419812499177061, 259310039853996605, 15183074304973897243]
def modCells : Array Value := (modL.map fun n => Value.int .u64 n).toArray
def modA : List A := modL.map fun n => .sc (.int .u64 (.lit n))
theorem litsIs (v : Env) (p : Mp) : ∀ l : List Int, listIs v p (l.map fun n => .sc (.int .u64 (.lit n))) (l.map fun n => Value.int .u64 n)
 | [] => rfl
 | n :: l => ⟨_, _, rfl, rfl, litsIs v p l⟩
def LF (T : TypeId) : Laid := ⟨4 + 1, fun w => ∃ fz, w.heap[4]? = some (.cells modCells T fz), fun _ _ h ⟨fz, e⟩ => ⟨fz, by rw [h _ (Nat.lt_succ_self _)]; exact e⟩⟩
theorem modIs (v : Env) : listIs v (fun _ => none) modA modCells.toList := by unfold modCells; rw [List.toList_toArray]; exact litsIs v _ modL
theorem modOk (T : TypeId) : GsOk (LF T) [(4, ⟨T, modA, false, false, false, none⟩)] := by
 refine ⟨by simp, by simp [LF], fun w hw x hx => ?_⟩
 obtain ⟨fz, e⟩ := hw
 simp only [List.mem_singleton] at hx
 subst hx
 exact ⟨modCells, fz, e, modIs⟩
def Mo (n : Int) : Nat := if n = 0 then 115792089210356248762697446949407573530086143415290314195533631308867097853951 else if n = 1 then 115792089210356248762697446949407573529996955224135760342422259061068512044369 else if n = 2 then 57896044618658097711785492504343953926634992332820282019728792003956564819949 else 7237005577332262213973186563042994240857116359379907606001950938285454250989
def SQ (n : Int) : Nat := if n = 0 then 134799733323198995502561713907086292154532538166959272814710328655875 else if n = 1 then 46533765739406314298121036767150998762426774378559716911348521029833835802274 else if n = 2 then 1444 else 1627715501170711445284395025044413883736156588369414752970002579683115011841
def IV (n : Int) : Nat := if n = 0 then 1 else if n = 1 then 14758798090332847183 else if n = 2 then 9708812670373448219 else 15183074304973897243
def NI (n : Int) : Nat := if n = 0 then 115792089183396302114378112356516095823261736990586219612555396166510339686400 else if n = 1 then 43790243014242295660885426880012836369732278457577312309071968676491870960761 else if n = 2 then 10665060850805439052171011777115991512801182798151104582581619579676209308938 else 4458503529701987551646482192314240623644693141688353256590997718326214331684
theorem four {n : Int} (h0 : 0 ≤ n) (h3 : n ≤ 3) : n = 0 ∨ n = 1 ∨ n = 2 ∨ n = 3 := by omega
theorem gm {n : Int} (h0 : 0 ≤ n) (h3 : n ≤ 3) : GM (Mo n) (SQ n) (IV n) (NI n) := by
 obtain rfl | rfl | rfl | rfl := four h0 h3 <;> exact ⟨by decide +kernel, by decide +kernel, by decide +kernel, by decide +kernel, by decide +kernel, by decide +kernel⟩
theorem of0_run  (T : TypeId) (w : World) (hK : (LF T).K ≤ w.heap.size) (hG : (LF T).G w) : Calls Tryd.prog 58 #[.int .i64 0] w fun e w' => e = .returned (.tuple #[.agg #[.int .u64 18446744073709551615, .int .u64 4294967295, .int .u64 0, .int .u64 18446744069414584321, .int .u64 3, .int .u64 18446744056529682431, .int .u64 18446744073709551614, .int .u64 21474836477, .int .u64 1], .bool true]) ∧ Below w.heap.size w w' := by
 have hrun := calls_of_runG (P := Tryd.prog) (v := ⟨envI [], envB [], envL [], envP [], LF T, w⟩) (gs := [(4, ⟨T, modA, false, false, false, none⟩)]) (fuel := 3000) (nv := 0) (args := [(.sc (.int .i64 (.lit 0)))]) (ora := []) (sums := []) (res := [(.agg [.n 18446744073709551615, .n 4294967295, .n 0, .n 18446744069414584321, .n 3, .n 18446744056529682431, .n 18446744073709551614, .n 21474836477, .n 1]), JA21]) (ev := []) (lev := []) Tryd.func58 (by kernel_rfl) (by kernel_rfl)
  (by simp) (by simp) (modOk T) hK hG
 ·exact hrun
theorem of1_run  (T : TypeId) (w : World) (hK : (LF T).K ≤ w.heap.size) (hG : (LF T).G w) : Calls Tryd.prog 58 #[.int .i64 1] w fun e w' => e = .returned (.tuple #[.agg #[.int .u64 17562291160714782033, .int .u64 13611842547513532036, .int .u64 18446744073709551615, .int .u64 18446744069414584320, .int .u64 9449762124159643298, .int .u64 5087230966250696614, .int .u64 2901921493521525849, .int .u64 7413256579398063648, .int .u64 14758798090332847183], .bool true]) ∧ Below w.heap.size w w' := by
 have hrun := calls_of_runG (P := Tryd.prog) (v := ⟨envI [], envB [], envL [], envP [], LF T, w⟩) (gs := [(4, ⟨T, modA, false, false, false, none⟩)]) (fuel := 3000) (nv := 0) (args := [(.sc (.int .i64 (.lit 1)))]) (ora := []) (sums := []) (res := [(.agg [.n 17562291160714782033, .n 13611842547513532036, .n 18446744073709551615, .n 18446744069414584320, .n 9449762124159643298, .n 5087230966250696614, .n 2901921493521525849, .n 7413256579398063648, .n 14758798090332847183]), JA21]) (ev := []) (lev := []) Tryd.func58 (by kernel_rfl) (by kernel_rfl)
  (by simp) (by simp) (modOk T) hK hG
 ·exact hrun
theorem of2_run  (T : TypeId) (w : World) (hK : (LF T).K ≤ w.heap.size) (hG : (LF T).G w) : Calls Tryd.prog 58 #[.int .i64 2] w fun e w' => e = .returned (.tuple #[.agg #[.int .u64 18446744073709551597, .int .u64 18446744073709551615, .int .u64 18446744073709551615, .int .u64 9223372036854775807, .int .u64 1444, .int .u64 0, .int .u64 0, .int .u64 0, .int .u64 9708812670373448219], .bool true]) ∧ Below w.heap.size w w' := by
 have hrun := calls_of_runG (P := Tryd.prog) (v := ⟨envI [], envB [], envL [], envP [], LF T, w⟩) (gs := [(4, ⟨T, modA, false, false, false, none⟩)]) (fuel := 3000) (nv := 0) (args := [(.sc (.int .i64 (.lit 2)))]) (ora := []) (sums := []) (res := [(.agg [.n 18446744073709551597, .n 18446744073709551615, .n 18446744073709551615, .n 9223372036854775807, .n 1444, .n 0, .n 0, .n 0, .n 9708812670373448219]), JA21]) (ev := []) (lev := []) Tryd.func58 (by kernel_rfl) (by kernel_rfl)
  (by simp) (by simp) (modOk T) hK hG
 ·exact hrun
theorem of3_run  (T : TypeId) (w : World) (hK : (LF T).K ≤ w.heap.size) (hG : (LF T).G w) : Calls Tryd.prog 58 #[.int .i64 3] w fun e w' => e = .returned (.tuple #[.agg #[.int .u64 6346243789798364141, .int .u64 1503914060200516822, .int .u64 0, .int .u64 1152921504606846976, .int .u64 11819153939886771969, .int .u64 14991950615390032711, .int .u64 14910419812499177061, .int .u64 259310039853996605, .int .u64 15183074304973897243], .bool true]) ∧ Below w.heap.size w w' := by
 have hrun := calls_of_runG (P := Tryd.prog) (v := ⟨envI [], envB [], envL [], envP [], LF T, w⟩) (gs := [(4, ⟨T, modA, false, false, false, none⟩)]) (fuel := 3000) (nv := 0) (args := [(.sc (.int .i64 (.lit 3)))]) (ora := []) (sums := []) (res := [(.agg [.n 6346243789798364141, .n 1503914060200516822, .n 0, .n 1152921504606846976, .n 11819153939886771969, .n 14991950615390032711, .n 14910419812499177061, .n 259310039853996605, .n 15183074304973897243]), JA21]) (ev := []) (lev := []) Tryd.func58 (by kernel_rfl) (by kernel_rfl)
  (by simp) (by simp) (modOk T) hK hG
 ·exact hrun
theorem of_g (T : TypeId) {n : Int} (h0 : 0 ≤ n) (h3 : n ≤ 3) : CallG Tryd.prog (LF T) 58 #[.int .i64 n] (.tuple #[.agg #[.int .u64 (lm (Mo n) 0), .int .u64 (lm (Mo n) 1), .int .u64 (lm (Mo n) 2), .int .u64 (lm (Mo n) 3), .int .u64 (lm (SQ n) 0), .int .u64 (lm (SQ n) 1), .int .u64 (lm (SQ n) 2), .int .u64 (lm (SQ n) 3), .int .u64 ((IV n) : Nat)], .bool true]) := by
 obtain rfl | rfl | rfl | rfl := four h0 h3
 ·exact callG_of Tryd.func58 (by kernel_rfl) (by kernel_rfl) (fun w hK hG => calls_eq (of0_run T w hK hG) (by kernel_rfl))
 ·exact callG_of Tryd.func58 (by kernel_rfl) (by kernel_rfl) (fun w hK hG => calls_eq (of1_run T w hK hG) (by kernel_rfl))
 ·exact callG_of Tryd.func58 (by kernel_rfl) (by kernel_rfl) (fun w hK hG => calls_eq (of2_run T w hK hG) (by kernel_rfl))
 ·exact callG_of Tryd.func58 (by kernel_rfl) (by kernel_rfl) (fun w hK hG => calls_eq (of3_run T w hK hG) (by kernel_rfl))
theorem fold_l {m sq iv ni : Nat} (g : GM m sq iv ni) (a : Nat) (ha : a < N) {r : Nat} (hr : r = a % m) : CallP Tryd.prog 60 #[.agg #[.int .u64 (lm m 0), .int .u64 (lm m 1), .int .u64 (lm m 2), .int .u64 (lm m 3), .int .u64 (lm sq 0), .int .u64 (lm sq 1), .int .u64 (lm sq 2), .int .u64 (lm sq 3), .int .u64 (iv : Nat)], vN a] (vN r) := by
 subst hr
 exact fold_c m sq iv a g.hm ha (by have := g.h0; omega)
theorem madd_l {m sq iv ni : Nat} (g : GM m sq iv ni) (a b : Nat) (ha : a < m) (hb : b < m) {r : Nat} (hr : r = (a + b) % m) : CallP Tryd.prog 59 #[.agg #[.int .u64 (lm m 0), .int .u64 (lm m 1), .int .u64 (lm m 2), .int .u64 (lm m 3), .int .u64 (lm sq 0), .int .u64 (lm sq 1), .int .u64 (lm sq 2), .int .u64 (lm sq 3), .int .u64 (iv : Nat)], vN a, vN b] (vN r) := by
 subst hr
 exact madd_c m sq iv a b g.hm ha hb
theorem msub_l {m sq iv ni : Nat} (g : GM m sq iv ni) (a b : Nat) (ha : a < m) (hb : b < m) {r : Nat} (hr : r = (a + m - b) % m) : CallP Tryd.prog 69 #[.agg #[.int .u64 (lm m 0), .int .u64 (lm m 1), .int .u64 (lm m 2), .int .u64 (lm m 3), .int .u64 (lm sq 0), .int .u64 (lm sq 1), .int .u64 (lm sq 2), .int .u64 (lm sq 3), .int .u64 (iv : Nat)], vN a, vN b] (vN r) := by
 subst hr
 exact msub_c m sq iv a b g.hm ha hb
theorem xmodulus_run (nn : Int) (T : TypeId) {m sq iv ni : Nat} (g : GM m sq iv ni) (hof_g : CallG Tryd.prog (LF T) 58 #[.int .i64 nn] (.tuple #[.agg #[.int .u64 (lm m 0), .int .u64 (lm m 1), .int .u64 (lm m 2), .int .u64 (lm m 3), .int .u64 (lm sq 0), .int .u64 (lm sq 1), .int .u64 (lm sq 2), .int .u64 (lm sq 3), .int .u64 (iv : Nat)], .bool true])) {r : Nat} (hr : r = m) (w : World) (hK : (LF T).K ≤ w.heap.size) (hG : (LF T).G w) : Calls Tryd.prog 68 #[.int .i64 nn] w fun e w' => e = .returned (vN r) ∧ Below w.heap.size w w' := by
 have hrun := calls_of_runG (P := Tryd.prog) (v := ⟨envI [nn, lm m 0, lm m 1, lm m 2, lm m 3, lm sq 0, lm sq 1, lm sq 2, lm sq 3, ((iv : Nat) : Int)], envB [false, false, false, false, false, false, false, false, false, false, true], envL [], envP [], LF T, w⟩) (gs := []) (fuel := 3000) (nv := 1) (args := [JA12]) (ora := []) (sums := []) (res := [JA11]) (ev := [.call 58 [JA12] (.tup [(.agg [.v 1, .v 2, .v 3, .v 4, .v 5, .v 6, .v 7, .v 8, .v 9]), (.sc (.bool (.var 10)))])]) (lev := []) Tryd.func68 (by kernel_rfl) (by kernel_rfl)
  (evs_of ⟨?_, trivial⟩) (by simp) (GsOk.nil _) hK hG
 ·(refine calls_eq hrun ?_; have E : r = m := (by refine hr.trans ?_; exact id rfl); rw [E]; rfl)
 ·exact hof_g
theorem xmodulus_g (T : TypeId) {n : Int} (h0 : 0 ≤ n) (h3 : n ≤ 3)   {r : Nat} (hr : r = Mo n) : CallG Tryd.prog (LF T) 68 #[.int .i64 n] (vN r) :=
 callG_of Tryd.func68 (by kernel_rfl) (by kernel_rfl) (fun w hK hG => xmodulus_run n  T (gm h0 h3) (of_g T h0 h3)  hr w hK hG)
theorem xadd_run (nn : Int) (a : Nat) (b : Nat) (T : TypeId) {m sq iv ni : Nat} (g : GM m sq iv ni) (hof_g : CallG Tryd.prog (LF T) 58 #[.int .i64 nn] (.tuple #[.agg #[.int .u64 (lm m 0), .int .u64 (lm m 1), .int .u64 (lm m 2), .int .u64 (lm m 3), .int .u64 (lm sq 0), .int .u64 (lm sq 1), .int .u64 (lm sq 2), .int .u64 (lm sq 3), .int .u64 (iv : Nat)], .bool true])) (ha : a < N) (hb : b < N) {r : Nat} (hr : r = (a + b) % m) (w : World) (hK : (LF T).K ≤ w.heap.size) (hG : (LF T).G w) : Calls Tryd.prog 29 #[.int .i64 nn, vN a, vN b] w fun e w' => e = .returned (vN r) ∧ Below w.heap.size w w' := by
 obtain ⟨r1, hr1⟩ : ∃ r : Nat, r = a % m := ⟨_, rfl⟩
 have br1 : r1 < m := (by rw [hr1]; exact g.mod _)
 obtain ⟨r2, hr2⟩ : ∃ r : Nat, r = b % m := ⟨_, rfl⟩
 have br2 : r2 < m := (by rw [hr2]; exact g.mod _)
 obtain ⟨r3, hr3⟩ : ∃ r : Nat, r = (r1 + r2) % m := ⟨_, rfl⟩
 have br3 : r3 < m := (by rw [hr3]; exact g.mod _)
 have hrun := calls_of_runG (P := Tryd.prog) (v := ⟨envI [nn, lm a 0, lm a 1, lm a 2, lm a 3, lm b 0, lm b 1, lm b 2, lm b 3, lm m 0, lm m 1, lm m 2, lm m 3, lm sq 0, lm sq 1, lm sq 2, lm sq 3, ((iv : Nat) : Int), 0, lm r1 0, lm r1 1, lm r1 2, lm r1 3, lm r2 0, lm r2 1, lm r2 2, lm r2 3, lm r3 0, lm r3 1, lm r3 2, lm r3 3], envB JA7, envL [], envP [], LF T, w⟩) (gs := []) (fuel := 3000) (nv := 9) (args := [JA12, JA11, JA17]) (ora := [some true]) (sums := []) (res := [JA10]) (ev := [.call 58 [JA12] (.tup [JA2, JA32]), .dec (.var 18) true, .call 60 [JA2, JA11] (.one JA15), .call 60 [JA2, JA17] (.one JA13), .call 59 [JA2, JA15, JA13] (.one JA10)]) (lev := []) Tryd.func29 (by kernel_rfl) (by kernel_rfl)
  (evs_of ⟨?_, ?_, ?_, ?_, ?_, trivial⟩) (by simp) (GsOk.nil _) hK hG
 ·(refine calls_eq hrun ?_; have E : r = r3 := (by refine hr.trans ?_; rw [hr3, hr1, hr2]; exact Nat.add_mod a b m); rw [E]; rfl)
 ·exact hof_g
 ·simp [Ev.holds, Bx.den, cmpD, I.den, I.ldn, envI, envB, envL, envP] <;> omega
 ·exact CallP.g (fold_l g a (by first | assumption | exact g.ltN (by assumption)) hr1)
 ·exact CallP.g (fold_l g b (by first | assumption | exact g.ltN (by assumption)) hr2)
 ·exact CallP.g (madd_l g r1 r2 (by assumption) (by assumption) hr3)
theorem xadd_g (T : TypeId) {n : Int} (h0 : 0 ≤ n) (h3 : n ≤ 3) (a b : Nat)  (ha : a < N) (hb : b < N) {r : Nat} (hr : r = (a + b) % Mo n) : CallG Tryd.prog (LF T) 29 #[.int .i64 n, vN a, vN b] (vN r) :=
 callG_of Tryd.func29 (by kernel_rfl) (by kernel_rfl) (fun w hK hG => xadd_run n a b T (gm h0 h3) (of_g T h0 h3) ha hb hr w hK hG)
theorem xsub_run (nn : Int) (a : Nat) (b : Nat) (T : TypeId) {m sq iv ni : Nat} (g : GM m sq iv ni) (hof_g : CallG Tryd.prog (LF T) 58 #[.int .i64 nn] (.tuple #[.agg #[.int .u64 (lm m 0), .int .u64 (lm m 1), .int .u64 (lm m 2), .int .u64 (lm m 3), .int .u64 (lm sq 0), .int .u64 (lm sq 1), .int .u64 (lm sq 2), .int .u64 (lm sq 3), .int .u64 (iv : Nat)], .bool true])) (ha : a < N) (hb : b < N) {r : Nat} (hr : r = (a % m + m - b % m) % m) (w : World) (hK : (LF T).K ≤ w.heap.size) (hG : (LF T).G w) : Calls Tryd.prog 34 #[.int .i64 nn, vN a, vN b] w fun e w' => e = .returned (vN r) ∧ Below w.heap.size w w' := by
 obtain ⟨r1, hr1⟩ : ∃ r : Nat, r = a % m := ⟨_, rfl⟩
 have br1 : r1 < m := (by rw [hr1]; exact g.mod _)
 obtain ⟨r2, hr2⟩ : ∃ r : Nat, r = b % m := ⟨_, rfl⟩
 have br2 : r2 < m := (by rw [hr2]; exact g.mod _)
 obtain ⟨r3, hr3⟩ : ∃ r : Nat, r = (r1 + m - r2) % m := ⟨_, rfl⟩
 have br3 : r3 < m := (by rw [hr3]; exact g.mod _)
 have hrun := calls_of_runG (P := Tryd.prog) (v := ⟨envI [nn, lm a 0, lm a 1, lm a 2, lm a 3, lm b 0, lm b 1, lm b 2, lm b 3, lm m 0, lm m 1, lm m 2, lm m 3, lm sq 0, lm sq 1, lm sq 2, lm sq 3, ((iv : Nat) : Int), 0, lm r1 0, lm r1 1, lm r1 2, lm r1 3, lm r2 0, lm r2 1, lm r2 2, lm r2 3, lm r3 0, lm r3 1, lm r3 2, lm r3 3], envB JA7, envL [], envP [], LF T, w⟩) (gs := []) (fuel := 3000) (nv := 9) (args := [JA12, JA11, JA17]) (ora := [some true]) (sums := []) (res := [JA10]) (ev := [.call 58 [JA12] (.tup [JA2, JA32]), .dec (.var 18) true, .call 60 [JA2, JA11] (.one JA15), .call 60 [JA2, JA17] (.one JA13), .call 69 [JA2, JA15, JA13] (.one JA10)]) (lev := []) Tryd.func34 (by kernel_rfl) (by kernel_rfl)
  (evs_of ⟨?_, ?_, ?_, ?_, ?_, trivial⟩) (by simp) (GsOk.nil _) hK hG
 ·(refine calls_eq hrun ?_; have E : r = r3 := (by refine hr.trans ?_; rw [hr3, hr1, hr2]); rw [E]; rfl)
 ·exact hof_g
 ·simp [Ev.holds, Bx.den, cmpD, I.den, I.ldn, envI, envB, envL, envP] <;> omega
 ·exact CallP.g (fold_l g a (by first | assumption | exact g.ltN (by assumption)) hr1)
 ·exact CallP.g (fold_l g b (by first | assumption | exact g.ltN (by assumption)) hr2)
 ·exact CallP.g (msub_l g r1 r2 (by assumption) (by assumption) hr3)
theorem xsub_g (T : TypeId) {n : Int} (h0 : 0 ≤ n) (h3 : n ≤ 3) (a b : Nat)  (ha : a < N) (hb : b < N) {r : Nat} (hr : r = (a % Mo n + Mo n - b % Mo n) % Mo n) : CallG Tryd.prog (LF T) 34 #[.int .i64 n, vN a, vN b] (vN r) :=
 callG_of Tryd.func34 (by kernel_rfl) (by kernel_rfl) (fun w hK hG => xsub_run n a b T (gm h0 h3) (of_g T h0 h3) ha hb hr w hK hG)
theorem xmul_run (nn : Int) (a : Nat) (b : Nat) (T : TypeId) {m sq iv ni : Nat} (g : GM m sq iv ni) (hof_g : CallG Tryd.prog (LF T) 58 #[.int .i64 nn] (.tuple #[.agg #[.int .u64 (lm m 0), .int .u64 (lm m 1), .int .u64 (lm m 2), .int .u64 (lm m 3), .int .u64 (lm sq 0), .int .u64 (lm sq 1), .int .u64 (lm sq 2), .int .u64 (lm sq 3), .int .u64 (iv : Nat)], .bool true])) (ha : a < N) (hb : b < N) {r : Nat} (hr : r = a * b % m) (w : World) (hK : (LF T).K ≤ w.heap.size) (hG : (LF T).G w) : Calls Tryd.prog 30 #[.int .i64 nn, vN a, vN b] w fun e w' => e = .returned (vN r) ∧ Below w.heap.size w w' := by
 obtain ⟨r1, hr1⟩ : ∃ r : Nat, r = a % m := ⟨_, rfl⟩
 have br1 : r1 < m := (by rw [hr1]; exact g.mod _)
 obtain ⟨r2, hr2⟩ : ∃ r : Nat, r = b % m := ⟨_, rfl⟩
 have br2 : r2 < m := (by rw [hr2]; exact g.mod _)
 obtain ⟨r3, hr3⟩ : ∃ r : Nat, r = r1 * r2 % m := ⟨_, rfl⟩
 have br3 : r3 < m := (by rw [hr3]; exact g.mod _)
 have hrun := calls_of_runG (P := Tryd.prog) (v := ⟨envI [nn, lm a 0, lm a 1, lm a 2, lm a 3, lm b 0, lm b 1, lm b 2, lm b 3, lm m 0, lm m 1, lm m 2, lm m 3, lm sq 0, lm sq 1, lm sq 2, lm sq 3, ((iv : Nat) : Int), 0, lm r1 0, lm r1 1, lm r1 2, lm r1 3, lm r2 0, lm r2 1, lm r2 2, lm r2 3, lm r3 0, lm r3 1, lm r3 2, lm r3 3], envB JA7, envL [], envP [], LF T, w⟩) (gs := []) (fuel := 3000) (nv := 9) (args := [JA12, JA11, JA17]) (ora := [some true]) (sums := []) (res := [JA10]) (ev := [.call 58 [JA12] (.tup [JA2, JA32]), .dec (.var 18) true, .call 60 [JA2, JA11] (.one JA15), .call 60 [JA2, JA17] (.one JA13), .call 61 [JA2, JA15, JA13] (.one JA10)]) (lev := []) Tryd.func30 (by kernel_rfl) (by kernel_rfl)
  (evs_of ⟨?_, ?_, ?_, ?_, ?_, trivial⟩) (by simp) (GsOk.nil _) hK hG
 ·(refine calls_eq hrun ?_; have E : r = r3 := (by refine hr.trans ?_; rw [hr3, hr1, hr2]; exact Nat.mul_mod a b m); rw [E]; rfl)
 ·exact hof_g
 ·simp [Ev.holds, Bx.den, cmpD, I.den, I.ldn, envI, envB, envL, envP] <;> omega
 ·exact CallP.g (fold_l g a (by first | assumption | exact g.ltN (by assumption)) hr1)
 ·exact CallP.g (fold_l g b (by first | assumption | exact g.ltN (by assumption)) hr2)
 ·exact CallP.g (mmul_l g r1 r2 (by first | assumption | exact g.ltN (by assumption)) (by assumption) hr3)
theorem xmul_g (T : TypeId) {n : Int} (h0 : 0 ≤ n) (h3 : n ≤ 3) (a b : Nat)  (ha : a < N) (hb : b < N) {r : Nat} (hr : r = a * b % Mo n) : CallG Tryd.prog (LF T) 30 #[.int .i64 n, vN a, vN b] (vN r) :=
 callG_of Tryd.func30 (by kernel_rfl) (by kernel_rfl) (fun w hK hG => xmul_run n a b T (gm h0 h3) (of_g T h0 h3) ha hb hr w hK hG)
theorem xpow_run (nn : Int) (a : Nat) (e : Nat) (T : TypeId) {m sq iv ni : Nat} (g : GM m sq iv ni) (hof_g : CallG Tryd.prog (LF T) 58 #[.int .i64 nn] (.tuple #[.agg #[.int .u64 (lm m 0), .int .u64 (lm m 1), .int .u64 (lm m 2), .int .u64 (lm m 3), .int .u64 (lm sq 0), .int .u64 (lm sq 1), .int .u64 (lm sq 2), .int .u64 (lm sq 3), .int .u64 (iv : Nat)], .bool true])) (ha : a < N) (he : e < N) {r : Nat} (hr : r = a ^ e % m) (w : World) (hK : (LF T).K ≤ w.heap.size) (hG : (LF T).G w) : Calls Tryd.prog 49 #[.int .i64 nn, vN a, vN e] w fun e w' => e = .returned (vN r) ∧ Below w.heap.size w w' := by
 obtain ⟨r1, hr1⟩ : ∃ r : Nat, r = a % m := ⟨_, rfl⟩
 have br1 : r1 < m := (by rw [hr1]; exact g.mod _)
 obtain ⟨r2, hr2⟩ : ∃ r : Nat, r = r1 ^ e % m := ⟨_, rfl⟩
 have br2 : r2 < m := (by rw [hr2]; exact g.mod _)
 have hrun := calls_of_runG (P := Tryd.prog) (v := ⟨envI [nn, lm a 0, lm a 1, lm a 2, lm a 3, lm e 0, lm e 1, lm e 2, lm e 3, lm m 0, lm m 1, lm m 2, lm m 3, lm sq 0, lm sq 1, lm sq 2, lm sq 3, ((iv : Nat) : Int), 0, lm r1 0, lm r1 1, lm r1 2, lm r1 3, lm r2 0, lm r2 1, lm r2 2, lm r2 3], envB JA7, envL [], envP [], LF T, w⟩) (gs := []) (fuel := 3000) (nv := 9) (args := [JA12, JA11, JA17]) (ora := [some true]) (sums := []) (res := [JA13]) (ev := [.call 58 [JA12] (.tup [JA2, JA32]), .dec (.var 18) true, .call 60 [JA2, JA11] (.one JA15), .call 81 [JA2, JA15, JA17] (.one JA13)]) (lev := []) Tryd.func49 (by kernel_rfl) (by kernel_rfl)
  (evs_of ⟨?_, ?_, ?_, ?_, trivial⟩) (by simp) (GsOk.nil _) hK hG
 ·(refine calls_eq hrun ?_; have E : r = r2 := (by refine hr.trans ?_; rw [hr2, hr1]; exact Nat.pow_mod a e m); rw [E]; rfl)
 ·exact hof_g
 ·simp [Ev.holds, Bx.den, cmpD, I.den, I.ldn, envI, envB, envL, envP] <;> omega
 ·exact CallP.g (fold_l g a (by first | assumption | exact g.ltN (by assumption)) hr1)
 ·exact CallP.g (pow_l g r1 e (by assumption) (by first | assumption | exact g.ltN (by assumption)) hr2)
theorem xpow_g (T : TypeId) {n : Int} (h0 : 0 ≤ n) (h3 : n ≤ 3) (a e : Nat)  (ha : a < N) (he : e < N) {r : Nat} (hr : r = a ^ e % Mo n) : CallG Tryd.prog (LF T) 49 #[.int .i64 n, vN a, vN e] (vN r) :=
 callG_of Tryd.func49 (by kernel_rfl) (by kernel_rfl) (fun w hK hG => xpow_run n a e T (gm h0 h3) (of_g T h0 h3) ha he hr w hK hG)
theorem xinv_run (nn : Int) (a : Nat) (T : TypeId) {m sq iv ni : Nat} (g : GM m sq iv ni) (hof_g : CallG Tryd.prog (LF T) 58 #[.int .i64 nn] (.tuple #[.agg #[.int .u64 (lm m 0), .int .u64 (lm m 1), .int .u64 (lm m 2), .int .u64 (lm m 3), .int .u64 (lm sq 0), .int .u64 (lm sq 1), .int .u64 (lm sq 2), .int .u64 (lm sq 3), .int .u64 (iv : Nat)], .bool true])) (ha : a < N) {r : Nat} (hr : r = a ^ (m - 2) % m) (w : World) (hK : (LF T).K ≤ w.heap.size) (hG : (LF T).G w) : Calls Tryd.prog 46 #[.int .i64 nn, vN a] w fun e w' => e = .returned (vN r) ∧ Below w.heap.size w w' := by
 have hmN := g.hm
 obtain ⟨r1, hr1⟩ : ∃ r : Nat, r = (m + N - 2) % N := ⟨_, rfl⟩
 have br1 : r1 < N := (by rw [hr1]; exact Nat.mod_lt _ N_pos)
 obtain ⟨r2, hr2⟩ : ∃ r : Bool, r = decide (m < 2) := ⟨_, rfl⟩
 obtain ⟨r3, hr3⟩ : ∃ r : Nat, r = a % m := ⟨_, rfl⟩
 have br3 : r3 < m := (by rw [hr3]; exact g.mod _)
 obtain ⟨r4, hr4⟩ : ∃ r : Nat, r = r3 ^ r1 % m := ⟨_, rfl⟩
 have br4 : r4 < m := (by rw [hr4]; exact g.mod _)
 have hrun := calls_of_runG (P := Tryd.prog) (v := ⟨envI [nn, lm a 0, lm a 1, lm a 2, lm a 3, lm m 0, lm m 1, lm m 2, lm m 3, lm sq 0, lm sq 1, lm sq 2, lm sq 3, ((iv : Nat) : Int), 0, lm r1 0, lm r1 1, lm r1 2, lm r1 3, 0, lm r3 0, lm r3 1, lm r3 2, lm r3 3, lm r4 0, lm r4 1, lm r4 2, lm r4 3], envB [false, false, false, false, false, false, false, false, false, false, false, false, false, false, true, false, false, false, false, r2], envL [], envP [], LF T, w⟩) (gs := []) (fuel := 3000) (nv := 5) (args := [JA12, JA11]) (ora := [some true]) (sums := []) (res := [(.agg [.v 24, .v 25, .v 26, .v 27])]) (ev := [.call 58 [JA12] (.tup [JA28, (.sc (.bool (.var 14)))]), .dec (.var 14) true, .call 80 [JA17, (.agg [.n 2, .n 0, .n 0, .n 0])] (.tup [(.agg [.v 15, .v 16, .v 17, .v 18]), (.sc (.bool (.var 19)))]), .call 60 [JA28, JA11] (.one (.agg [.v 20, .v 21, .v 22, .v 23])), .call 81 [JA28, (.agg [.v 20, .v 21, .v 22, .v 23]), (.agg [.v 15, .v 16, .v 17, .v 18])] (.one (.agg [.v 24, .v 25, .v 26, .v 27]))]) (lev := []) Tryd.func46 (by kernel_rfl) (by kernel_rfl)
  (evs_of ⟨?_, ?_, ?_, ?_, ?_, trivial⟩) (by simp) (GsOk.nil _) hK hG
 ·(refine calls_eq hrun ?_; have E : r = r4 := (by refine hr.trans ?_; rw [hr4, hr3, hr1, show (m + N - 2) % N = m - 2 by (have h := sub_red (m := 2) (x := m) g.h0 g.hm; exact h)]; exact Nat.pow_mod a (m - 2) m); rw [E]; rfl)
 ·exact hof_g
 ·simp [Ev.holds, Bx.den, cmpD, I.den, I.ldn, envI, envB, envL, envP] <;> omega
 ·exact CallP.g (limb_sub_l m 2 (by first | assumption | exact Nat.mod_lt _ (by decide) | (show _ < _; decide) | omega) (by first | assumption | exact Nat.mod_lt _ (by decide) | (show _ < _; decide) | omega) hr1 hr2)
 ·exact CallP.g (fold_l g a (by first | assumption | exact g.ltN (by assumption)) hr3)
 ·exact CallP.g (pow_l g r3 r1 (by assumption) (by first | assumption | exact g.ltN (by assumption)) hr4)
theorem xinv_g (T : TypeId) {n : Int} (h0 : 0 ≤ n) (h3 : n ≤ 3) (a : Nat)  (ha : a < N) {r : Nat} (hr : r = a ^ (Mo n - 2) % Mo n) : CallG Tryd.prog (LF T) 46 #[.int .i64 n, vN a] (vN r) :=
 callG_of Tryd.func46 (by kernel_rfl) (by kernel_rfl) (fun w hK hG => xinv_run n a T (gm h0 h3) (of_g T h0 h3) ha hr w hK hG)
end Go.Proofs.YtkckmpnkacdchaaDoor
namespace Go.Proofs.YtkckmpnkacdchaaDoor
open Go.RowKit Go.Num Go.Sx
theorem red_eq (lo hi m : Nat) : (lo + N * hi) % m = (lo % m + hi % m * N % m) % m := by rw [Nat.add_mod lo (N * hi), Nat.mul_comm N hi, Nat.mul_mod hi N, Nat.mul_mod (hi % m) N, Nat.mod_mod]
theorem xreduce_run (nn : Int) (lo hi : Nat) (T : TypeId) {m sq iv ni : Nat} (g : GM m sq iv ni) (hof_g : CallG Tryd.prog (LF T) 58 #[.int .i64 nn] (.tuple #[.agg #[.int .u64 (lm m 0), .int .u64 (lm m 1), .int .u64 (lm m 2), .int .u64 (lm m 3), .int .u64 (lm sq 0), .int .u64 (lm sq 1), .int .u64 (lm sq 2), .int .u64 (lm sq 3), .int .u64 (iv : Nat)], .bool true])) (hlo : lo < N) (hhi : hi < N) {r : Nat} (hr : r = (lo + N * hi) % m) (w : World) (hK : (LF T).K ≤ w.heap.size) (hG : (LF T).G w) : Calls Tryd.prog 56 #[.int .i64 nn, .agg #[.int .u64 (lm lo 0), .int .u64 (lm lo 1), .int .u64 (lm lo 2), .int .u64 (lm lo 3), .int .u64 (lm hi 0), .int .u64 (lm hi 1), .int .u64 (lm hi 2), .int .u64 (lm hi 3)]] w fun e w' => e = .returned (vN r) ∧ Below w.heap.size w w' := by
 obtain ⟨r1, hr1⟩ : ∃ r : Nat, r = lo % m := ⟨_, rfl⟩
 have br1 : r1 < m := (by rw [hr1]; exact g.mod _)
 obtain ⟨r2, hr2⟩ : ∃ r : Nat, r = hi % m := ⟨_, rfl⟩
 have br2 : r2 < m := (by rw [hr2]; exact g.mod _)
 obtain ⟨r3, hr3⟩ : ∃ r : Nat, r = hp m ni r2 sq := ⟨_, rfl⟩
 have br3 : r3 < m := (by rw [hr3]; exact hp_lt g _ _)
 obtain ⟨r4, hr4⟩ : ∃ r : Nat, r = (r1 + r3) % m := ⟨_, rfl⟩
 have br4 : r4 < m := (by rw [hr4]; exact g.mod _)
 have hrun := calls_of_runG (P := Tryd.prog) (v := ⟨envI [nn, (lm lo 0 : Int), (lm lo 1 : Int), (lm lo 2 : Int), (lm lo 3 : Int), (lm hi 0 : Int), (lm hi 1 : Int), (lm hi 2 : Int), (lm hi 3 : Int), (lm m 0 : Int), (lm m 1 : Int), (lm m 2 : Int), (lm m 3 : Int), (lm sq 0 : Int), (lm sq 1 : Int), (lm sq 2 : Int), (lm sq 3 : Int), ((iv : Nat) : Int), 0, (lm r1 0 : Int), (lm r1 1 : Int), (lm r1 2 : Int), (lm r1 3 : Int), (lm r2 0 : Int), (lm r2 1 : Int), (lm r2 2 : Int), (lm r2 3 : Int), (lm r3 0 : Int), (lm r3 1 : Int), (lm r3 2 : Int), (lm r3 3 : Int), (lm r4 0 : Int), (lm r4 1 : Int), (lm r4 2 : Int), (lm r4 3 : Int)], envB JA7, envL [], envP [], LF T, w⟩) (gs := []) (fuel := 3000) (nv := 9) (args := [JA12, (.agg [.v 1, .v 2, .v 3, .v 4, .v 5, .v 6, .v 7, .v 8])]) (ora := [some true]) (sums := []) (res := [(.agg [.v 31, .v 32, .v 33, .v 34])]) (ev := [.call 58 [JA12] (.tup [JA2, JA32]), .dec (.var 18) true, .call 60 [JA2, JA11] (.one JA15), .call 60 [JA2, JA17] (.one JA13), .call 86 [JA2, JA13, JA3] (.one JA10), .call 59 [JA2, JA15, JA10] (.one (.agg [.v 31, .v 32, .v 33, .v 34]))]) (lev := []) Tryd.func56 (by kernel_rfl) (by kernel_rfl)
  (evs_of ⟨?_, ?_, ?_, ?_, ?_, ?_, trivial⟩) (by simp) (GsOk.nil _) hK hG
 ·(refine calls_eq hrun ?_; have E : r = r4 := (by refine hr.trans ?_; rw [hr4, hr3, hp_sq g, hr1, hr2]; exact red_eq lo hi m); rw [E]; rfl)
 ·exact hof_g
 ·simp [Ev.holds, Bx.den, cmpD, I.den, I.ldn, envI, envB, envL, envP] <;> omega
 ·exact CallP.g (fold_l g lo (by first | assumption | exact g.ltN (by assumption)) hr1)
 ·exact CallP.g (fold_l g hi (by first | assumption | exact g.ltN (by assumption)) hr2)
 ·exact CallP.g (half_e g r2 sq (by first | assumption | exact g.ltN (by assumption)) g.sqlt hr3)
 ·exact CallP.g (madd_l g r1 r3 (by assumption) (by assumption) hr4)
theorem xreduce_g (T : TypeId) {n : Int} (h0 : 0 ≤ n) (h3 : n ≤ 3) (lo hi : Nat)  (hlo : lo < N) (hhi : hi < N) {r : Nat} (hr : r = (lo + N * hi) % Mo n) : CallG Tryd.prog (LF T) 56 #[.int .i64 n, .agg #[.int .u64 (lm lo 0), .int .u64 (lm lo 1), .int .u64 (lm lo 2), .int .u64 (lm lo 3), .int .u64 (lm hi 0), .int .u64 (lm hi 1), .int .u64 (lm hi 2), .int .u64 (lm hi 3)]] (vN r) :=
 callG_of Tryd.func56 (by kernel_rfl) (by kernel_rfl) (fun w hK hG => xreduce_run n lo hi T (gm h0 h3) (of_g T h0 h3) hlo hhi hr w hK hG)
theorem lm_lo (w j : Nat) (hj : j < 4) : lm (w % N) j = lm w j := by
 unfold lm
 have hN : N = B ^ j * B ^ (4 - j) := by rw [← Nat.pow_add, show j + (4 - j) = 4 by omega]; decide +kernel
 rw [hN, Nat.mod_mul_right_div_self, Nat.mod_mod_of_dvd]
 exact Nat.dvd_of_pow_dvd (show 1 ≤ 4 - j by omega) (Nat.dvd_refl _)
theorem lm_up (w j : Nat) : lm (w / N) j = lm w (4 + j) := by
 unfold lm
 rw [Nat.div_div_eq_div_mul, Nat.pow_add, show N = B ^ 4 by decide +kernel]
theorem yreduce_g (T : TypeId) {n : Int} {m : Nat} (h0 : 0 ≤ n) (h3 : n ≤ 3) (hm : m = Mo n) (w : Nat) (hw : w < N * N) {r : Nat} (hr : r = w % m) : CallG Tryd.prog (LF T) 56 #[.int .i64 n, .agg #[.int .u64 (lm w 0), .int .u64 (lm w 1), .int .u64 (lm w 2), .int .u64 (lm w 3), .int .u64 (lm w 4), .int .u64 (lm w 5), .int .u64 (lm w 6), .int .u64 (lm w 7)]] (vN r) := by
 subst hm
 have hhi : w / N < N := Nat.div_lt_of_lt_mul hw
 have h := xreduce_g T h0 h3 (w % N) (w / N) (Nat.mod_lt _ N_pos) hhi (r := r) (by rw [hr, Nat.mod_add_div])
 rw [lm_lo w 0 (by omega), lm_lo w 1 (by omega), lm_lo w 2 (by omega), lm_lo w 3 (by omega), lm_up, lm_up, lm_up, lm_up] at h
 exact h
end Go.Proofs.YtkckmpnkacdchaaDoor
