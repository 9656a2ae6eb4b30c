/- Montgomery's half product, run. -/
import Derived.Test.YtdgjlcmedkmgbaaDoorLim5
import Derived.Test.YtdgjlcmedkmgbaaDoorLm4
set_option linter.unusedVariables false
set_option linter.unusedSimpArgs false
namespace Go.Proofs.YtdgjlcmedkmgbaaDoor
open Go.RowKit Go.Num Go.Sx
set_option maxHeartbeats 4000000 in
theorem more_run (s : Nat) (a : Nat) (b : Nat) (c : Nat) (bs : s < B) (ba : a < B) (bb : b < B) (bc : c < B) (w : World) : Calls Tryd.prog 86 #[.int .u64 (s : Nat), .int .u64 (a : Nat), .int .u64 (b : Nat), .int .u64 (c : Nat)] w fun e w' => e = .returned (.tuple #[.int .u64 (((s + a * b + c) % B : Nat) : Int), .int .u64 (((s + a * b + c) / B : Nat) : Int)]) ∧ Below w.heap.size w w' := by
  obtain ⟨h, l, p, j, s2, k, r, C, w_r, b_r, b_s, e⟩ := mac_ex a b s c s c ba bb bs bc rfl rfl
  have e1 : (s + a * b + c) % B = s2 := by rw [← e, Nat.add_mul_mod_self_left, Nat.mod_eq_of_lt b_s]
  have e2 : (s + a * b + c) / B = r := by rw [← e, Nat.add_mul_div_left _ _ B_pos, Nat.div_eq_of_lt b_s, Nat.zero_add]
  have hrun := calls_of_runG (P := Tryd.prog) (v := ⟨envI [((s : Nat) : Int), ((a : Nat) : Int), ((b : Nat) : Int), ((c : Nat) : Int), ((h : Nat) : Int), ((l : Nat) : Int), ((p : Nat) : Int), ((j : Nat) : Int), ((s2 : Nat) : Int), ((k : Nat) : Int)], envB [], envL [], envP [], L0, w⟩) (gs := []) (fuel := 3000) (nv := 4) (args := [(.sc (.v 0)), (.sc (.v 1)), (.sc (.v 2)), (.sc (.v 3))]) (ora := []) (sums := []) (res := [(.sc (.v 8)), (.sc (.int .u64 (.add .u64 (.add .u64 (.var 4) (.var 7)) (.var 9))))]) (ev := [.call 87 [(.sc (.v 1)), (.sc (.v 2))] (.tup [(.sc (.v 4)), (.sc (.v 5))]), .call 81 [(.sc (.v 5)), (.sc (.v 0)), (.sc (.n 0))] (.tup [(.sc (.v 6)), (.sc (.v 7))]), .call 81 [(.sc (.v 6)), (.sc (.v 3)), (.sc (.n 0))] (.tup [(.sc (.v 8)), (.sc (.v 9))])]) (lev := []) Tryd.func86 (by kernel_rfl) (by kernel_rfl)
    (evs_of ⟨?_, ?_, ?_, trivial⟩) (by simp) (GsOk.nil _) (Nat.zero_le _) trivial
  · (rw [e1, e2, ← w_r]; exact hrun)
  · exact CallP.g (C.1)
  · exact CallP.g (C.2.1)
  · exact CallP.g (C.2.2)
theorem more_ex (s a b c : Nat) (se ae ce : Int) (bs : s < B) (ba : a < B) (bb : b < B) (bc : c < B) (hs : se = (s : Nat)) (ha : ae = (a : Nat)) (hc : ce = (c : Nat)) : ∃ lo hi : Nat,
    CallP Tryd.prog 86 #[.int .u64 se, .int .u64 ae, .int .u64 (b : Nat), .int .u64 ce] (.tuple #[.int .u64 (lo : Nat), .int .u64 (hi : Nat)]) ∧ lo < B ∧ hi < B ∧ lo + B * hi = s + a * b + c := by
  subst hs ha hc
  have hab : a * b ≤ (B - 1) * (B - 1) := Nat.mul_le_mul (by omega) (by omega)
  refine ⟨_, _, callP_of Tryd.func86 (by kernel_rfl) (by kernel_rfl) (fun w => more_run s a b c bs ba bb bc w), Nat.mod_lt _ B_pos, ?_, Nat.mod_add_div _ _⟩
  rw [Nat.div_lt_iff_lt_mul B_pos]
  generalize a * b = p at *
  unfold B at *
  omega
theorem add_ex (x y : Nat) (xe ye : Int) (bx : x < B) (bY : y < B) (hx : xe = (x : Nat)) (hy : ye = (y : Nat)) : ∃ s k : Nat,
    CallP Tryd.prog 81 #[.int .u64 xe, .int .u64 ye, .int .u64 (0 : Int)] (.tuple #[.int .u64 (s : Nat), .int .u64 (k : Nat)]) ∧ s < B ∧ k ≤ 1 ∧ s + B * k = x + y + 0 := by
  subst hx hy
  have h := step_add x y 0 bx bY (by omega)
  exact ⟨_, _, call_add_c x y 0 _ _ (by omega) rfl rfl, h⟩
theorem wrap_mulM (a b : Nat) : IntKind.u64.wrap ((a : Int) * (b : Int)) = ((a * b % B : Nat) : Int) := by
  rw [IntKind.wrap_u64, ← Int.natCast_mul]; unfold B; omega
theorem num_ex {a b c d : Nat} (ha : a < B) (hb : b < B) (hc : c < B) (hd : d < B) : ∃ s, s < N ∧ lm s 0 = a ∧ lm s 1 = b ∧ lm s 2 = c ∧ lm s 3 = d :=
  ⟨num a b c d, num_lt ha hb hc hd, lm0 ha, lm1 ha hb, lm2 ha hb hc, lm3 ha hb hc hd⟩
set_option maxHeartbeats 4000000 in
theorem half_run (m sq iv : Nat) (x : Nat) (y : Nat) (biv : iv < B) (hx : x < N) (hm : m < N) (hy : y < m) (hiv : (iv * lm m 0 + 1) % B = 0) (ni : Nat) (hni : N * ni % m = 1 % m) (w : World) : Calls Tryd.prog 84 #[.agg #[.int .u64 (lm m 0), .int .u64 (lm m 1), .int .u64 (lm m 2), .int .u64 (lm m 3), .int .u64 (lm sq 0), .int .u64 (lm sq 1), .int .u64 (lm sq 2), .int .u64 (lm sq 3), .int .u64 (iv : Nat)], .agg #[.int .u64 (lm x 0), .int .u64 (lm x 1), .int .u64 (lm x 2), .int .u64 (lm x 3)], .agg #[.int .u64 (lm y 0), .int .u64 (lm y 1), .int .u64 (lm y 2), .int .u64 (lm y 3)]] w fun e w' => e = .returned (.agg #[.int .u64 (lm (hp m ni x y) 0), .int .u64 (lm (hp m ni x y) 1), .int .u64 (lm (hp m ni x y) 2), .int .u64 (lm (hp m ni x y) 3)]) ∧ Below w.heap.size w w' := by
  have hyN : y < N := Nat.lt_trans hy hm
  obtain ⟨v17, v18, C17, b17, b18, e17⟩ := more_ex 0 (lm x 0) (lm y 0) 0 (0 : Int) ((lm x 0 : Nat) : Int) (0 : Int) B_pos (lm_lt _ _) (lm_lt _ _) B_pos rfl rfl rfl
  obtain ⟨v19, v20, C19, b19, b20, e19⟩ := more_ex 0 (lm x 0) (lm y 1) v18 (0 : Int) ((lm x 0 : Nat) : Int) ((v18 : Nat) : Int) B_pos (lm_lt _ _) (lm_lt _ _) b18 rfl rfl rfl
  obtain ⟨v21, v22, C21, b21, b22, e21⟩ := more_ex 0 (lm x 0) (lm y 2) v20 (0 : Int) ((lm x 0 : Nat) : Int) ((v20 : Nat) : Int) B_pos (lm_lt _ _) (lm_lt _ _) b20 rfl rfl rfl
  obtain ⟨v23, v24, C23, b23, b24, e23⟩ := more_ex 0 (lm x 0) (lm y 3) v22 (0 : Int) ((lm x 0 : Nat) : Int) ((v22 : Nat) : Int) B_pos (lm_lt _ _) (lm_lt _ _) b22 rfl rfl rfl
  obtain ⟨v25, v26, C25, b25, b26, e25⟩ := add_ex 0 v24 (0 : Int) ((v24 : Nat) : Int) B_pos b24 rfl rfl
  obtain ⟨q0, wq0, bq0, eq0⟩ : ∃ q : Nat, (IntKind.u64.wrap (((v17 : Nat) : Int) * ((iv : Nat) : Int))) = ((q : Nat) : Int) ∧ q < B ∧ q = v17 * iv % B := ⟨_, wrap_mulM _ _, Nat.mod_lt _ B_pos, rfl⟩
  obtain ⟨v27, v28, C27, b27, b28, e27⟩ := more_ex v17 q0 (lm m 0) 0 ((v17 : Nat) : Int) (IntKind.u64.wrap (((v17 : Nat) : Int) * ((iv : Nat) : Int))) (0 : Int) b17 bq0 (lm_lt _ _) B_pos rfl wq0 rfl
  obtain ⟨v29, v30, C29, b29, b30, e29⟩ := more_ex v19 q0 (lm m 1) v28 ((v19 : Nat) : Int) (IntKind.u64.wrap (((v17 : Nat) : Int) * ((iv : Nat) : Int))) ((v28 : Nat) : Int) b19 bq0 (lm_lt _ _) b28 rfl wq0 rfl
  obtain ⟨v31, v32, C31, b31, b32, e31⟩ := more_ex v21 q0 (lm m 2) v30 ((v21 : Nat) : Int) (IntKind.u64.wrap (((v17 : Nat) : Int) * ((iv : Nat) : Int))) ((v30 : Nat) : Int) b21 bq0 (lm_lt _ _) b30 rfl wq0 rfl
  obtain ⟨v33, v34, C33, b33, b34, e33⟩ := more_ex v23 q0 (lm m 3) v32 ((v23 : Nat) : Int) (IntKind.u64.wrap (((v17 : Nat) : Int) * ((iv : Nat) : Int))) ((v32 : Nat) : Int) b23 bq0 (lm_lt _ _) b32 rfl wq0 rfl
  obtain ⟨v35, v36, C35, b35, b36, e35⟩ := add_ex v25 v34 ((v25 : Nat) : Int) ((v34 : Nat) : Int) b25 b34 rfl rfl
  obtain ⟨v37, v38, C37, b37, b38, e37⟩ := more_ex v29 (lm x 1) (lm y 0) 0 ((v29 : Nat) : Int) ((lm x 1 : Nat) : Int) (0 : Int) b29 (lm_lt _ _) (lm_lt _ _) B_pos rfl rfl rfl
  obtain ⟨v39, v40, C39, b39, b40, e39⟩ := more_ex v31 (lm x 1) (lm y 1) v38 ((v31 : Nat) : Int) ((lm x 1 : Nat) : Int) ((v38 : Nat) : Int) b31 (lm_lt _ _) (lm_lt _ _) b38 rfl rfl rfl
  obtain ⟨v41, v42, C41, b41, b42, e41⟩ := more_ex v33 (lm x 1) (lm y 2) v40 ((v33 : Nat) : Int) ((lm x 1 : Nat) : Int) ((v40 : Nat) : Int) b33 (lm_lt _ _) (lm_lt _ _) b40 rfl rfl rfl
  obtain ⟨v43, v44, C43, b43, b44, e43⟩ := more_ex v35 (lm x 1) (lm y 3) v42 ((v35 : Nat) : Int) ((lm x 1 : Nat) : Int) ((v42 : Nat) : Int) b35 (lm_lt _ _) (lm_lt _ _) b42 rfl rfl rfl
  have wv26v36 := wrap_addN v26 v36 (by unfold B; omega)
  obtain ⟨v45, v46, C45, b45, b46, e45⟩ := add_ex (v26 + v36) v44 (IntKind.u64.wrap (((v26 : Nat) : Int) + ((v36 : Nat) : Int))) ((v44 : Nat) : Int) (by unfold B; omega) b44 wv26v36 rfl
  obtain ⟨q1, wq1, bq1, eq1⟩ : ∃ q : Nat, (IntKind.u64.wrap (((v37 : Nat) : Int) * ((iv : Nat) : Int))) = ((q : Nat) : Int) ∧ q < B ∧ q = v37 * iv % B := ⟨_, wrap_mulM _ _, Nat.mod_lt _ B_pos, rfl⟩
  obtain ⟨v47, v48, C47, b47, b48, e47⟩ := more_ex v37 q1 (lm m 0) 0 ((v37 : Nat) : Int) (IntKind.u64.wrap (((v37 : Nat) : Int) * ((iv : Nat) : Int))) (0 : Int) b37 bq1 (lm_lt _ _) B_pos rfl wq1 rfl
  obtain ⟨v49, v50, C49, b49, b50, e49⟩ := more_ex v39 q1 (lm m 1) v48 ((v39 : Nat) : Int) (IntKind.u64.wrap (((v37 : Nat) : Int) * ((iv : Nat) : Int))) ((v48 : Nat) : Int) b39 bq1 (lm_lt _ _) b48 rfl wq1 rfl
  obtain ⟨v51, v52, C51, b51, b52, e51⟩ := more_ex v41 q1 (lm m 2) v50 ((v41 : Nat) : Int) (IntKind.u64.wrap (((v37 : Nat) : Int) * ((iv : Nat) : Int))) ((v50 : Nat) : Int) b41 bq1 (lm_lt _ _) b50 rfl wq1 rfl
  obtain ⟨v53, v54, C53, b53, b54, e53⟩ := more_ex v43 q1 (lm m 3) v52 ((v43 : Nat) : Int) (IntKind.u64.wrap (((v37 : Nat) : Int) * ((iv : Nat) : Int))) ((v52 : Nat) : Int) b43 bq1 (lm_lt _ _) b52 rfl wq1 rfl
  obtain ⟨v55, v56, C55, b55, b56, e55⟩ := add_ex v45 v54 ((v45 : Nat) : Int) ((v54 : Nat) : Int) b45 b54 rfl rfl
  obtain ⟨v57, v58, C57, b57, b58, e57⟩ := more_ex v49 (lm x 2) (lm y 0) 0 ((v49 : Nat) : Int) ((lm x 2 : Nat) : Int) (0 : Int) b49 (lm_lt _ _) (lm_lt _ _) B_pos rfl rfl rfl
  obtain ⟨v59, v60, C59, b59, b60, e59⟩ := more_ex v51 (lm x 2) (lm y 1) v58 ((v51 : Nat) : Int) ((lm x 2 : Nat) : Int) ((v58 : Nat) : Int) b51 (lm_lt _ _) (lm_lt _ _) b58 rfl rfl rfl
  obtain ⟨v61, v62, C61, b61, b62, e61⟩ := more_ex v53 (lm x 2) (lm y 2) v60 ((v53 : Nat) : Int) ((lm x 2 : Nat) : Int) ((v60 : Nat) : Int) b53 (lm_lt _ _) (lm_lt _ _) b60 rfl rfl rfl
  obtain ⟨v63, v64, C63, b63, b64, e63⟩ := more_ex v55 (lm x 2) (lm y 3) v62 ((v55 : Nat) : Int) ((lm x 2 : Nat) : Int) ((v62 : Nat) : Int) b55 (lm_lt _ _) (lm_lt _ _) b62 rfl rfl rfl
  have wv46v56 := wrap_addN v46 v56 (by unfold B; omega)
  obtain ⟨v65, v66, C65, b65, b66, e65⟩ := add_ex (v46 + v56) v64 (IntKind.u64.wrap (((v46 : Nat) : Int) + ((v56 : Nat) : Int))) ((v64 : Nat) : Int) (by unfold B; omega) b64 wv46v56 rfl
  obtain ⟨q2, wq2, bq2, eq2⟩ : ∃ q : Nat, (IntKind.u64.wrap (((v57 : Nat) : Int) * ((iv : Nat) : Int))) = ((q : Nat) : Int) ∧ q < B ∧ q = v57 * iv % B := ⟨_, wrap_mulM _ _, Nat.mod_lt _ B_pos, rfl⟩
  obtain ⟨v67, v68, C67, b67, b68, e67⟩ := more_ex v57 q2 (lm m 0) 0 ((v57 : Nat) : Int) (IntKind.u64.wrap (((v57 : Nat) : Int) * ((iv : Nat) : Int))) (0 : Int) b57 bq2 (lm_lt _ _) B_pos rfl wq2 rfl
  obtain ⟨v69, v70, C69, b69, b70, e69⟩ := more_ex v59 q2 (lm m 1) v68 ((v59 : Nat) : Int) (IntKind.u64.wrap (((v57 : Nat) : Int) * ((iv : Nat) : Int))) ((v68 : Nat) : Int) b59 bq2 (lm_lt _ _) b68 rfl wq2 rfl
  obtain ⟨v71, v72, C71, b71, b72, e71⟩ := more_ex v61 q2 (lm m 2) v70 ((v61 : Nat) : Int) (IntKind.u64.wrap (((v57 : Nat) : Int) * ((iv : Nat) : Int))) ((v70 : Nat) : Int) b61 bq2 (lm_lt _ _) b70 rfl wq2 rfl
  obtain ⟨v73, v74, C73, b73, b74, e73⟩ := more_ex v63 q2 (lm m 3) v72 ((v63 : Nat) : Int) (IntKind.u64.wrap (((v57 : Nat) : Int) * ((iv : Nat) : Int))) ((v72 : Nat) : Int) b63 bq2 (lm_lt _ _) b72 rfl wq2 rfl
  obtain ⟨v75, v76, C75, b75, b76, e75⟩ := add_ex v65 v74 ((v65 : Nat) : Int) ((v74 : Nat) : Int) b65 b74 rfl rfl
  obtain ⟨v77, v78, C77, b77, b78, e77⟩ := more_ex v69 (lm x 3) (lm y 0) 0 ((v69 : Nat) : Int) ((lm x 3 : Nat) : Int) (0 : Int) b69 (lm_lt _ _) (lm_lt _ _) B_pos rfl rfl rfl
  obtain ⟨v79, v80, C79, b79, b80, e79⟩ := more_ex v71 (lm x 3) (lm y 1) v78 ((v71 : Nat) : Int) ((lm x 3 : Nat) : Int) ((v78 : Nat) : Int) b71 (lm_lt _ _) (lm_lt _ _) b78 rfl rfl rfl
  obtain ⟨v81, v82, C81, b81, b82, e81⟩ := more_ex v73 (lm x 3) (lm y 2) v80 ((v73 : Nat) : Int) ((lm x 3 : Nat) : Int) ((v80 : Nat) : Int) b73 (lm_lt _ _) (lm_lt _ _) b80 rfl rfl rfl
  obtain ⟨v83, v84, C83, b83, b84, e83⟩ := more_ex v75 (lm x 3) (lm y 3) v82 ((v75 : Nat) : Int) ((lm x 3 : Nat) : Int) ((v82 : Nat) : Int) b75 (lm_lt _ _) (lm_lt _ _) b82 rfl rfl rfl
  have wv66v76 := wrap_addN v66 v76 (by unfold B; omega)
  obtain ⟨v85, v86, C85, b85, b86, e85⟩ := add_ex (v66 + v76) v84 (IntKind.u64.wrap (((v66 : Nat) : Int) + ((v76 : Nat) : Int))) ((v84 : Nat) : Int) (by unfold B; omega) b84 wv66v76 rfl
  obtain ⟨q3, wq3, bq3, eq3⟩ : ∃ q : Nat, (IntKind.u64.wrap (((v77 : Nat) : Int) * ((iv : Nat) : Int))) = ((q : Nat) : Int) ∧ q < B ∧ q = v77 * iv % B := ⟨_, wrap_mulM _ _, Nat.mod_lt _ B_pos, rfl⟩
  obtain ⟨v87, v88, C87, b87, b88, e87⟩ := more_ex v77 q3 (lm m 0) 0 ((v77 : Nat) : Int) (IntKind.u64.wrap (((v77 : Nat) : Int) * ((iv : Nat) : Int))) (0 : Int) b77 bq3 (lm_lt _ _) B_pos rfl wq3 rfl
  obtain ⟨v89, v90, C89, b89, b90, e89⟩ := more_ex v79 q3 (lm m 1) v88 ((v79 : Nat) : Int) (IntKind.u64.wrap (((v77 : Nat) : Int) * ((iv : Nat) : Int))) ((v88 : Nat) : Int) b79 bq3 (lm_lt _ _) b88 rfl wq3 rfl
  obtain ⟨v91, v92, C91, b91, b92, e91⟩ := more_ex v81 q3 (lm m 2) v90 ((v81 : Nat) : Int) (IntKind.u64.wrap (((v77 : Nat) : Int) * ((iv : Nat) : Int))) ((v90 : Nat) : Int) b81 bq3 (lm_lt _ _) b90 rfl wq3 rfl
  obtain ⟨v93, v94, C93, b93, b94, e93⟩ := more_ex v83 q3 (lm m 3) v92 ((v83 : Nat) : Int) (IntKind.u64.wrap (((v77 : Nat) : Int) * ((iv : Nat) : Int))) ((v92 : Nat) : Int) b83 bq3 (lm_lt _ _) b92 rfl wq3 rfl
  obtain ⟨v95, v96, C95, b95, b96, e95⟩ := add_ex v85 v94 ((v85 : Nat) : Int) ((v94 : Nat) : Int) b85 b94 rfl rfl
  have R0 := half_round (T := 0) B_pos B_pos B_pos B_pos (lm_lt x 0) e17 e19 e21 e23 e25 b17 eq0 hiv e27 e29 e31 e33 e35 b27 (by unfold num; rfl) (by rw [num_lm hyN, num_lm hm]; omega)
  rw [num_lm hyN, num_lm hm] at R0
  have R1 := half_round (T := (num v29 v31 v33 v35 + N * (v26 + v36))) b29 b31 b33 b35 (lm_lt x 1) e37 e39 e41 e43 e45 b37 eq1 hiv e47 e49 e51 e53 e55 b47 rfl (by rw [num_lm hyN, num_lm hm]; exact R0.2)
  rw [num_lm hyN, num_lm hm] at R1
  have R2 := half_round (T := (num v49 v51 v53 v55 + N * (v46 + v56))) b49 b51 b53 b55 (lm_lt x 2) e57 e59 e61 e63 e65 b57 eq2 hiv e67 e69 e71 e73 e75 b67 rfl (by rw [num_lm hyN, num_lm hm]; exact R1.2)
  rw [num_lm hyN, num_lm hm] at R2
  have R3 := half_round (T := (num v69 v71 v73 v75 + N * (v66 + v76))) b69 b71 b73 b75 (lm_lt x 3) e77 e79 e81 e83 e85 b77 eq3 hiv e87 e89 e91 e93 e95 b87 rfl (by rw [num_lm hyN, num_lm hm]; exact R2.2)
  rw [num_lm hyN, num_lm hm] at R3
  have wv86v96 := wrap_addN v86 v96 (by unfold B; omega)
  have F := half_four R0.1 R1.1 R2.1 R3.1
  rw [num_lm hx] at F
  obtain ⟨s, bs, s0, s1, s2, s3⟩ := num_ex b89 b91 b93 b95
  rw [← s0, ← s1, ← s2, ← s3, num_lm bs] at F
  have F2 := R3.2
  rw [← s0, ← s1, ← s2, ← s3, num_lm bs] at F2
  have E := half_end (by omega) hm hni rfl bs hy F2 F
  clear F F2 R0 R1 R2 R3
  subst s0 s1 s2 s3
  have hrun := calls_of_runG (P := Tryd.prog) (v := ⟨envI [((lm m 0 : Nat) : Int), ((lm m 1 : Nat) : Int), ((lm m 2 : Nat) : Int), ((lm m 3 : Nat) : Int), ((lm sq 0 : Nat) : Int), ((lm sq 1 : Nat) : Int), ((lm sq 2 : Nat) : Int), ((lm sq 3 : Nat) : Int), ((iv : Nat) : Int), ((lm x 0 : Nat) : Int), ((lm x 1 : Nat) : Int), ((lm x 2 : Nat) : Int), ((lm x 3 : Nat) : Int), ((lm y 0 : Nat) : Int), ((lm y 1 : Nat) : Int), ((lm y 2 : Nat) : Int), ((lm y 3 : Nat) : Int), ((v17 : Nat) : Int), ((v18 : Nat) : Int), ((v19 : Nat) : Int), ((v20 : Nat) : Int), ((v21 : Nat) : Int), ((v22 : Nat) : Int), ((v23 : Nat) : Int), ((v24 : Nat) : Int), ((v25 : Nat) : Int), ((v26 : Nat) : Int), ((v27 : Nat) : Int), ((v28 : Nat) : Int), ((v29 : Nat) : Int), ((v30 : Nat) : Int), ((v31 : Nat) : Int), ((v32 : Nat) : Int), ((v33 : Nat) : Int), ((v34 : Nat) : Int), ((v35 : Nat) : Int), ((v36 : Nat) : Int), ((v37 : Nat) : Int), ((v38 : Nat) : Int), ((v39 : Nat) : Int), ((v40 : Nat) : Int), ((v41 : Nat) : Int), ((v42 : Nat) : Int), ((v43 : Nat) : Int), ((v44 : Nat) : Int), ((v45 : Nat) : Int), ((v46 : Nat) : Int), ((v47 : Nat) : Int), ((v48 : Nat) : Int), ((v49 : Nat) : Int), ((v50 : Nat) : Int), ((v51 : Nat) : Int), ((v52 : Nat) : Int), ((v53 : Nat) : Int), ((v54 : Nat) : Int), ((v55 : Nat) : Int), ((v56 : Nat) : Int), ((v57 : Nat) : Int), ((v58 : Nat) : Int), ((v59 : Nat) : Int), ((v60 : Nat) : Int), ((v61 : Nat) : Int), ((v62 : Nat) : Int), ((v63 : Nat) : Int), ((v64 : Nat) : Int), ((v65 : Nat) : Int), ((v66 : Nat) : Int), ((v67 : Nat) : Int), ((v68 : Nat) : Int), ((v69 : Nat) : Int), ((v70 : Nat) : Int), ((v71 : Nat) : Int), ((v72 : Nat) : Int), ((v73 : Nat) : Int), ((v74 : Nat) : Int), ((v75 : Nat) : Int), ((v76 : Nat) : Int), ((v77 : Nat) : Int), ((v78 : Nat) : Int), ((v79 : Nat) : Int), ((v80 : Nat) : Int), ((v81 : Nat) : Int), ((v82 : Nat) : Int), ((v83 : Nat) : Int), ((v84 : Nat) : Int), ((v85 : Nat) : Int), ((v86 : Nat) : Int), ((v87 : Nat) : Int), ((v88 : Nat) : Int), ((lm s 0 : Nat) : Int), ((v90 : Nat) : Int), ((lm s 1 : Nat) : Int), ((v92 : Nat) : Int), ((lm s 2 : Nat) : Int), ((v94 : Nat) : Int), ((lm s 3 : Nat) : Int), ((v96 : Nat) : Int), ((lm (((s + N - m) % N)) 0 : Nat) : Int), ((lm (((s + N - m) % N)) 1 : Nat) : Int), ((lm (((s + N - m) % N)) 2 : Nat) : Int), ((lm (((s + N - m) % N)) 3 : Nat) : Int), 0, ((lm ((if (if ((IntKind.u64.wrap (((v86 : Nat) : Int) + ((v96 : Nat) : Int))) != (0 : Int)) = true then true else (!(decide (s < m)))) then (((s + N - m) % N)) else s)) 0 : Nat) : Int), ((lm ((if (if ((IntKind.u64.wrap (((v86 : Nat) : Int) + ((v96 : Nat) : Int))) != (0 : Int)) = true then true else (!(decide (s < m)))) then (((s + N - m) % N)) else s)) 1 : Nat) : Int), ((lm ((if (if ((IntKind.u64.wrap (((v86 : Nat) : Int) + ((v96 : Nat) : Int))) != (0 : Int)) = true then true else (!(decide (s < m)))) then (((s + N - m) % N)) else s)) 2 : Nat) : Int), ((lm ((if (if ((IntKind.u64.wrap (((v86 : Nat) : Int) + ((v96 : Nat) : Int))) != (0 : Int)) = true then true else (!(decide (s < m)))) then (((s + N - m) % N)) else s)) 3 : Nat) : Int)], envB [false, false, false, false, false, false, false, false, false, false, false, false, false, false, false, false, false, false, false, false, false, false, false, false, false, false, false, false, false, false, false, false, false, false, false, false, false, false, false, false, false, false, false, false, false, false, false, false, false, false, false, false, false, false, false, false, false, false, false, false, false, false, false, false, false, false, false, false, false, false, false, false, false, false, false, false, false, false, false, false, false, false, false, false, false, false, false, false, false, false, false, false, false, false, false, false, false, false, false, false, false, (decide (s < m))], envL [], envP [], L0, w⟩) (gs := []) (fuel := 3000) (nv := 17) (args := [(.agg [.v 0, .v 1, .v 2, .v 3, .v 4, .v 5, .v 6, .v 7, .v 8]), (.agg [.v 9, .v 10, .v 11, .v 12]), (.agg [.v 13, .v 14, .v 15, .v 16])]) (ora := []) (sums := []) (res := [(.agg [.v 102, .v 103, .v 104, .v 105])]) (ev := [.call 86 [(.sc (.n 0)), (.sc (.v 9)), (.sc (.v 13)), (.sc (.n 0))] (.tup [(.sc (.v 17)), (.sc (.v 18))]), .call 86 [(.sc (.n 0)), (.sc (.v 9)), (.sc (.v 14)), (.sc (.v 18))] (.tup [(.sc (.v 19)), (.sc (.v 20))]), .call 86 [(.sc (.n 0)), (.sc (.v 9)), (.sc (.v 15)), (.sc (.v 20))] (.tup [(.sc (.v 21)), (.sc (.v 22))]), .call 86 [(.sc (.n 0)), (.sc (.v 9)), (.sc (.v 16)), (.sc (.v 22))] (.tup [(.sc (.v 23)), (.sc (.v 24))]), .call 81 [(.sc (.n 0)), (.sc (.v 24)), (.sc (.n 0))] (.tup [(.sc (.v 25)), (.sc (.v 26))]), .call 86 [(.sc (.v 17)), (.sc (.int .u64 (.mul .u64 (.var 17) (.var 8)))), (.sc (.v 0)), (.sc (.n 0))] (.tup [(.sc (.v 27)), (.sc (.v 28))]), .call 86 [(.sc (.v 19)), (.sc (.int .u64 (.mul .u64 (.var 17) (.var 8)))), (.sc (.v 1)), (.sc (.v 28))] (.tup [(.sc (.v 29)), (.sc (.v 30))]), .call 86 [(.sc (.v 21)), (.sc (.int .u64 (.mul .u64 (.var 17) (.var 8)))), (.sc (.v 2)), (.sc (.v 30))] (.tup [(.sc (.v 31)), (.sc (.v 32))]), .call 86 [(.sc (.v 23)), (.sc (.int .u64 (.mul .u64 (.var 17) (.var 8)))), (.sc (.v 3)), (.sc (.v 32))] (.tup [(.sc (.v 33)), (.sc (.v 34))]), .call 81 [(.sc (.v 25)), (.sc (.v 34)), (.sc (.n 0))] (.tup [(.sc (.v 35)), (.sc (.v 36))]), .call 86 [(.sc (.v 29)), (.sc (.v 10)), (.sc (.v 13)), (.sc (.n 0))] (.tup [(.sc (.v 37)), (.sc (.v 38))]), .call 86 [(.sc (.v 31)), (.sc (.v 10)), (.sc (.v 14)), (.sc (.v 38))] (.tup [(.sc (.v 39)), (.sc (.v 40))]), .call 86 [(.sc (.v 33)), (.sc (.v 10)), (.sc (.v 15)), (.sc (.v 40))] (.tup [(.sc (.v 41)), (.sc (.v 42))]), .call 86 [(.sc (.v 35)), (.sc (.v 10)), (.sc (.v 16)), (.sc (.v 42))] (.tup [(.sc (.v 43)), (.sc (.v 44))]), .call 81 [(.sc (.int .u64 (.add .u64 (.var 26) (.var 36)))), (.sc (.v 44)), (.sc (.n 0))] (.tup [(.sc (.v 45)), (.sc (.v 46))]), .call 86 [(.sc (.v 37)), (.sc (.int .u64 (.mul .u64 (.var 37) (.var 8)))), (.sc (.v 0)), (.sc (.n 0))] (.tup [(.sc (.v 47)), (.sc (.v 48))]), .call 86 [(.sc (.v 39)), (.sc (.int .u64 (.mul .u64 (.var 37) (.var 8)))), (.sc (.v 1)), (.sc (.v 48))] (.tup [(.sc (.v 49)), (.sc (.v 50))]), .call 86 [(.sc (.v 41)), (.sc (.int .u64 (.mul .u64 (.var 37) (.var 8)))), (.sc (.v 2)), (.sc (.v 50))] (.tup [(.sc (.v 51)), (.sc (.v 52))]), .call 86 [(.sc (.v 43)), (.sc (.int .u64 (.mul .u64 (.var 37) (.var 8)))), (.sc (.v 3)), (.sc (.v 52))] (.tup [(.sc (.v 53)), (.sc (.v 54))]), .call 81 [(.sc (.v 45)), (.sc (.v 54)), (.sc (.n 0))] (.tup [(.sc (.v 55)), (.sc (.v 56))]), .call 86 [(.sc (.v 49)), (.sc (.v 11)), (.sc (.v 13)), (.sc (.n 0))] (.tup [(.sc (.v 57)), (.sc (.v 58))]), .call 86 [(.sc (.v 51)), (.sc (.v 11)), (.sc (.v 14)), (.sc (.v 58))] (.tup [(.sc (.v 59)), (.sc (.v 60))]), .call 86 [(.sc (.v 53)), (.sc (.v 11)), (.sc (.v 15)), (.sc (.v 60))] (.tup [(.sc (.v 61)), (.sc (.v 62))]), .call 86 [(.sc (.v 55)), (.sc (.v 11)), (.sc (.v 16)), (.sc (.v 62))] (.tup [(.sc (.v 63)), (.sc (.v 64))]), .call 81 [(.sc (.int .u64 (.add .u64 (.var 46) (.var 56)))), (.sc (.v 64)), (.sc (.n 0))] (.tup [(.sc (.v 65)), (.sc (.v 66))]), .call 86 [(.sc (.v 57)), (.sc (.int .u64 (.mul .u64 (.var 57) (.var 8)))), (.sc (.v 0)), (.sc (.n 0))] (.tup [(.sc (.v 67)), (.sc (.v 68))]), .call 86 [(.sc (.v 59)), (.sc (.int .u64 (.mul .u64 (.var 57) (.var 8)))), (.sc (.v 1)), (.sc (.v 68))] (.tup [(.sc (.v 69)), (.sc (.v 70))]), .call 86 [(.sc (.v 61)), (.sc (.int .u64 (.mul .u64 (.var 57) (.var 8)))), (.sc (.v 2)), (.sc (.v 70))] (.tup [(.sc (.v 71)), (.sc (.v 72))]), .call 86 [(.sc (.v 63)), (.sc (.int .u64 (.mul .u64 (.var 57) (.var 8)))), (.sc (.v 3)), (.sc (.v 72))] (.tup [(.sc (.v 73)), (.sc (.v 74))]), .call 81 [(.sc (.v 65)), (.sc (.v 74)), (.sc (.n 0))] (.tup [(.sc (.v 75)), (.sc (.v 76))]), .call 86 [(.sc (.v 69)), (.sc (.v 12)), (.sc (.v 13)), (.sc (.n 0))] (.tup [(.sc (.v 77)), (.sc (.v 78))]), .call 86 [(.sc (.v 71)), (.sc (.v 12)), (.sc (.v 14)), (.sc (.v 78))] (.tup [(.sc (.v 79)), (.sc (.v 80))]), .call 86 [(.sc (.v 73)), (.sc (.v 12)), (.sc (.v 15)), (.sc (.v 80))] (.tup [(.sc (.v 81)), (.sc (.v 82))]), .call 86 [(.sc (.v 75)), (.sc (.v 12)), (.sc (.v 16)), (.sc (.v 82))] (.tup [(.sc (.v 83)), (.sc (.v 84))]), .call 81 [(.sc (.int .u64 (.add .u64 (.var 66) (.var 76)))), (.sc (.v 84)), (.sc (.n 0))] (.tup [(.sc (.v 85)), (.sc (.v 86))]), .call 86 [(.sc (.v 77)), (.sc (.int .u64 (.mul .u64 (.var 77) (.var 8)))), (.sc (.v 0)), (.sc (.n 0))] (.tup [(.sc (.v 87)), (.sc (.v 88))]), .call 86 [(.sc (.v 79)), (.sc (.int .u64 (.mul .u64 (.var 77) (.var 8)))), (.sc (.v 1)), (.sc (.v 88))] (.tup [(.sc (.v 89)), (.sc (.v 90))]), .call 86 [(.sc (.v 81)), (.sc (.int .u64 (.mul .u64 (.var 77) (.var 8)))), (.sc (.v 2)), (.sc (.v 90))] (.tup [(.sc (.v 91)), (.sc (.v 92))]), .call 86 [(.sc (.v 83)), (.sc (.int .u64 (.mul .u64 (.var 77) (.var 8)))), (.sc (.v 3)), (.sc (.v 92))] (.tup [(.sc (.v 93)), (.sc (.v 94))]), .call 81 [(.sc (.v 85)), (.sc (.v 94)), (.sc (.n 0))] (.tup [(.sc (.v 95)), (.sc (.v 96))]), .call 73 [(.agg [.v 89, .v 91, .v 93, .v 95]), (.agg [.v 0, .v 1, .v 2, .v 3])] (.tup [(.agg [.v 97, .v 98, .v 99, .v 100]), (.sc (.bool (.var 101)))]), .call 85 [(.sc (.bool (.ite (.cmp .neq (.add .u64 (.var 86) (.var 96)) (.lit 0)) (.lit true) (.not (.var 101))))), (.agg [.v 97, .v 98, .v 99, .v 100]), (.agg [.v 89, .v 91, .v 93, .v 95])] (.one (.agg [.v 102, .v 103, .v 104, .v 105]))]) (lev := []) Tryd.func84 (by kernel_rfl) (by kernel_rfl)
    (evs_of ⟨?_, ?_, ?_, ?_, ?_, ?_, ?_, ?_, ?_, ?_, ?_, ?_, ?_, ?_, ?_, ?_, ?_, ?_, ?_, ?_, ?_, ?_, ?_, ?_, ?_, ?_, ?_, ?_, ?_, ?_, ?_, ?_, ?_, ?_, ?_, ?_, ?_, ?_, ?_, ?_, ?_, ?_, trivial⟩) (by simp) (GsOk.nil _) (Nat.zero_le _) trivial
  · (refine calls_eq hrun ?_; rw [← E, ← wv86v96]; rfl)
  · exact CallP.g (C17)
  · exact CallP.g (C19)
  · exact CallP.g (C21)
  · exact CallP.g (C23)
  · exact CallP.g (C25)
  · exact CallP.g (C27)
  · exact CallP.g (C29)
  · exact CallP.g (C31)
  · exact CallP.g (C33)
  · exact CallP.g (C35)
  · exact CallP.g (C37)
  · exact CallP.g (C39)
  · exact CallP.g (C41)
  · exact CallP.g (C43)
  · exact CallP.g (C45)
  · exact CallP.g (C47)
  · exact CallP.g (C49)
  · exact CallP.g (C51)
  · exact CallP.g (C53)
  · exact CallP.g (C55)
  · exact CallP.g (C57)
  · exact CallP.g (C59)
  · exact CallP.g (C61)
  · exact CallP.g (C63)
  · exact CallP.g (C65)
  · exact CallP.g (C67)
  · exact CallP.g (C69)
  · exact CallP.g (C71)
  · exact CallP.g (C73)
  · exact CallP.g (C75)
  · exact CallP.g (C77)
  · exact CallP.g (C79)
  · exact CallP.g (C81)
  · exact CallP.g (C83)
  · exact CallP.g (C85)
  · exact CallP.g (C87)
  · exact CallP.g (C89)
  · exact CallP.g (C91)
  · exact CallP.g (C93)
  · exact CallP.g (C95)
  · exact CallP.g (limb_sub_c s m (by first | assumption | exact Nat.mod_lt _ (by decide) | (show _ < _; decide) | omega) (by first | assumption | exact Nat.mod_lt _ (by decide) | (show _ < _; decide) | omega))
  · exact CallP.g (limb_pick_c (if ((IntKind.u64.wrap (((v86 : Nat) : Int) + ((v96 : Nat) : Int))) != (0 : Int)) = true then true else (!(decide (s < m)))) (((s + N - m) % N)) s)
theorem half_c (m sq iv x y ni : Nat) (biv : iv < B) (hx : x < N) (hm : m < N) (hy : y < m) (hiv : (iv * lm m 0 + 1) % B = 0) (hni : N * ni % m = 1 % m) :
    CallP Tryd.prog 84 #[.agg #[.int .u64 (lm m 0), .int .u64 (lm m 1), .int .u64 (lm m 2), .int .u64 (lm m 3), .int .u64 (lm sq 0), .int .u64 (lm sq 1), .int .u64 (lm sq 2), .int .u64 (lm sq 3), .int .u64 (iv : Nat)], .agg #[.int .u64 (lm x 0), .int .u64 (lm x 1), .int .u64 (lm x 2), .int .u64 (lm x 3)], .agg #[.int .u64 (lm y 0), .int .u64 (lm y 1), .int .u64 (lm y 2), .int .u64 (lm y 3)]] (.agg #[.int .u64 (lm (hp m ni x y) 0), .int .u64 (lm (hp m ni x y) 1), .int .u64 (lm (hp m ni x y) 2), .int .u64 (lm (hp m ni x y) 3)]) :=
  callP_of Tryd.func84 (by kernel_rfl) (by kernel_rfl) (fun w => half_run m sq iv x y biv hx hm hy hiv ni hni w)
end Go.Proofs.YtdgjlcmedkmgbaaDoor
