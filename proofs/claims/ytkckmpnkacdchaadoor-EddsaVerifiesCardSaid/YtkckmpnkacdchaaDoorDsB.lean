/- Public keys and signatures, run. -/
import Derived.Test.YtkckmpnkacdchaaDoorDsA
import Derived.Test.YtkckmpnkacdchaaDoorEdR
import Derived.Test.YtkckmpnkacdchaaDoorEdK
import Derived.Test.YtkckmpnkacdchaaDoorShaM1
import Derived.Test.YtkckmpnkacdchaaDoorEdA
set_option linter.unusedVariables false
set_option linter.unusedSimpArgs false
set_option maxHeartbeats 4000000
namespace Go.Proofs.YtkckmpnkacdchaaDoor
open Go.RowKit Go.Num Go.Sx
abbrev JL0 : A := .agg [.int .u8 (.var 0), .int .u8 (.var 1), .int .u8 (.var 2), .int .u8 (.var 3), .int .u8 (.var 4), .int .u8 (.var 5), .int .u8 (.var 6), .int .u8 (.var 7), .int .u8 (.var 8), .int .u8 (.var 9), .int .u8 (.var 10), .int .u8 (.var 11), .int .u8 (.var 12), .int .u8 (.var 13), .int .u8 (.var 14), .int .u8 (.var 15), .int .u8 (.var 16), .int .u8 (.var 17), .int .u8 (.var 18), .int .u8 (.var 19), .int .u8 (.var 20), .int .u8 (.var 21), .int .u8 (.var 22), .int .u8 (.var 23), .int .u8 (.var 24), .int .u8 (.var 25), .int .u8 (.var 26), .int .u8 (.var 27), .int .u8 (.var 28), .int .u8 (.var 29), .int .u8 (.var 30), .int .u8 (.var 31)]
abbrev JL3 : A := .agg [.v 33, .v 34, .v 35, .v 36]
abbrev JL5 : Bx := .cmp .leq (.lit 0) (.var 37)
abbrev JL6 : A := .agg [.v 71, .v 72, .v 73, .v 74, .v 75, .v 76, .v 77, .v 78, .bool (.var 79)]
abbrev JL7 : A := .agg [.v 62, .v 63, .v 64, .v 65, .v 66, .v 67, .v 68, .v 69, .bool (.var 70)]
abbrev JL9 : A := .agg [.v 48, .v 49, .v 50, .v 51, .v 52, .v 53, .v 54, .v 55, .bool (.var 56)]
abbrev JL11 : A := .agg [.v 39, .v 40, .v 41, .v 42, .v 43, .v 44, .v 45, .v 46, .bool (.var 47)]
abbrev JL12 : A := .sc (.int .i64 (.lit 3))
abbrev JL13 : A := .agg [.v 58, .v 59, .v 60, .v 61]
abbrev JL15 : Bx := .cmp .leq (.sum (.var 37) (.var 38)) (.len (.lvar 37))
def encP (p : Ed.Pt) : List Int := putN 32 (encN p.x.val p.y.val false)
theorem encP_length (p : Ed.Pt) : (encP p).length = 32 := putN_length _ _
theorem encP_bytes (p : Ed.Pt) : IsBytes (encP p) := putN_bytes _ _
noncomputable def pubL (s : List Int) : List Int := encP (Ed.smul (keyA (Sha.sum s)) Ed.base)
noncomputable def sigr (s m : List Int) : Nat := scal (halfL (Sha.sum s) ++ m)
noncomputable def sigR (s m : List Int) : List Int := encP (Ed.smul (sigr s m) Ed.base)
noncomputable def sigk (s m : List Int) : Nat := scal (sigR s m ++ pubL s ++ m)
noncomputable def sigS (s m : List Int) : Nat := (sigr s m + sigk s m * keyA (Sha.sum s) % Mo 3) % Mo 3
noncomputable def sigL (s m : List Int) : List Int := sigR s m ++ putN 32 (sigS s m)
theorem pub_bytes (s : List Int) : IsBytes (pubL s) := encP_bytes _
theorem sig_length (s m : List Int) : (sigL s m).length = 64 := by
 unfold sigL
 rw [List.length_append, putN_length]
 show (sigR s m).length + 32 = 64
 rw [show (sigR s m).length = 32 from encP_length _]
theorem half_part {H C : List Int} (hC : C.length = 32) (hH : (halfL H).length = 32) : ((C ++ halfL H).drop 32).take 32 = halfL H := by
 rw [List.drop_left' hC, List.take_of_length_le (by omega)]
theorem add3_g (Z : TZ) (a b : Nat) (ha : a < N) (hb : b < N) {r : Nat} (hr : r = (a + b) % Mo 3) : CallG Tryd.prog (LZ Z) 29 #[.int .i64 (3 : Int), vN a, vN b] (vN r) := lf (Ts := Z.v) (yadd_g _ (by decide) (by decide) rfl a b ha hb hr)
theorem mul3_g (Z : TZ) (a b : Nat) (ha : a < N) (hb : b < N) {r : Nat} (hr : r = a * b % Mo 3) : CallG Tryd.prog (LZ Z) 30 #[.int .i64 (3 : Int), vN a, vN b] (vN r) := lf (Ts := Z.v) (ymul_g _ (by decide) (by decide) rfl a b ha hb hr)
theorem scalarq_g (Z : TZ) {ps p : List (List Int)} (e : p = ps) (hb : IsBytes p.flatten) (hl : p.flatten.length ≤ 549755813888) (hp : p.length ≤ 1099511627776) {r : Nat} (hr : r = scal p.flatten) : CallS Tryd.prog (LZ Z) 26 [.parts ps] [.val (vN r)] := by
 subst e
 exact scalar_g Z p hb hl hp hr
theorem sign_run (s : List Int) (m : List Int) (Z : TZ) (hs : s.length = 32) (hb : IsBytes s) (hm : IsBytes m) (hml : m.length ≤ 300) (a : Nat) (ha : a = keyA (Sha.sum s)) (haN : a < N) (L : List Int) (hLL : L = clampL (Sha.sum s) ++ halfL (Sha.sum s)) (sr : Nat) (hsr : sr = sigr s m) (hsrN : sr < N) (k : Nat) (hk : k = sigk s m) (hkN : k < N) {g : List Int} (hg : g = sigL s m) : CallS Tryd.prog (LZ Z) 9 [.val (.agg ((List.range 32).map fun i => Value.int .u8 (s.getD i 0)).toArray), .bytes m] [.fresh 5 g 0 g.length true] := by
 refine callS_of Tryd.func9 (by kernel_rfl) (by kernel_rfl) (fun w us hK hG ha => ?_)
 obtain ⟨_, _, rfl, rfl, u1, _, rfl, hu1, rfl⟩ := ha
 obtain ⟨U1, V1, hU1, hV1⟩ : ∃ U V : Nat, U = (Ed.base).x.val ∧ V = (Ed.base).y.val := ⟨_, _, rfl, rfl⟩
 have P1 : ptOf U1 V1 false = Ed.base := by rw [hU1, hV1]; exact ptOf_pt _
 have bU1 : U1 < N := by rw [hU1]; exact Nat.lt_trans (Fin.isLt _) PN
 have bV1 : V1 < N := by rw [hV1]; exact Nat.lt_trans (Fin.isLt _) PN
 obtain ⟨U2, V2, hU2, hV2⟩ : ∃ U V : Nat, U = (Ed.smul a ((Ed.base))).x.val ∧ V = (Ed.smul a ((Ed.base))).y.val := ⟨_, _, rfl, rfl⟩
 have P2 : ptOf U2 V2 false = Ed.smul a ((Ed.base)) := by rw [hU2, hV2]; exact ptOf_pt _
 have bU2 : U2 < N := by rw [hU2]; exact Nat.lt_trans (Fin.isLt _) PN
 have bV2 : V2 < N := by rw [hV2]; exact Nat.lt_trans (Fin.isLt _) PN
 obtain ⟨r1, hr1⟩ : ∃ r : List Int, r = putN 32 (encN U2 V2 false) := ⟨_, rfl⟩
 obtain ⟨U3, V3, hU3, hV3⟩ : ∃ U V : Nat, U = (Ed.base).x.val ∧ V = (Ed.base).y.val := ⟨_, _, rfl, rfl⟩
 have P3 : ptOf U3 V3 false = Ed.base := by rw [hU3, hV3]; exact ptOf_pt _
 have bU3 : U3 < N := by rw [hU3]; exact Nat.lt_trans (Fin.isLt _) PN
 have bV3 : V3 < N := by rw [hV3]; exact Nat.lt_trans (Fin.isLt _) PN
 obtain ⟨U4, V4, hU4, hV4⟩ : ∃ U V : Nat, U = (Ed.smul sr ((Ed.base))).x.val ∧ V = (Ed.smul sr ((Ed.base))).y.val := ⟨_, _, rfl, rfl⟩
 have P4 : ptOf U4 V4 false = Ed.smul sr ((Ed.base)) := by rw [hU4, hV4]; exact ptOf_pt _
 have bU4 : U4 < N := by rw [hU4]; exact Nat.lt_trans (Fin.isLt _) PN
 have bV4 : V4 < N := by rw [hV4]; exact Nat.lt_trans (Fin.isLt _) PN
 obtain ⟨r2, hr2⟩ : ∃ r : List Int, r = putN 32 (encN U4 V4 false) := ⟨_, rfl⟩
 obtain ⟨r3, hr3⟩ : ∃ r : Nat, r = k * a % Mo 3 := ⟨_, rfl⟩
 have br3 : r3 < N := by rw [hr3]; exact Nat.lt_trans (Nat.mod_lt _ Mo3_pos) Mo3_N
 obtain ⟨r4, hr4⟩ : ∃ r : Nat, r = (sr + r3) % Mo 3 := ⟨_, rfl⟩
 have br4 : r4 < N := by rw [hr4]; exact Nat.lt_trans (Nat.mod_lt _ Mo3_pos) Mo3_N
 obtain ⟨r5, hr5⟩ : ∃ r : List Int, r = putN 32 r4 := ⟨_, rfl⟩
 obtain ⟨r6, hr6⟩ : ∃ r : List Int, r = ([r2, r5] : List (List Int)).flatten := ⟨_, rfl⟩
 have hHf : ((L.drop ((32 : Int)).toNat).take ((32 : Int)).toNat) = halfL (Sha.sum s) := by rw [hLL]; exact half_part (clamp_length _) (half_length _)
 have hL64 : L.length = 64 := by rw [hLL, List.length_append]; rfl
 have eP : r1 = pubL s := by rw [hr1, hU2, hV2, ha]; rfl
 have bP : IsBytes r1 := by rw [eP]; exact pub_bytes s
 have eR : r2 = sigR s m := by rw [hr2, hU4, hV4, hsr]; rfl
 have bR : IsBytes r2 := by rw [eR]; exact encP_bytes _
 have lR : r2.length = 32 := by rw [eR]; exact encP_length _
 have eS : r4 = sigS s m := by rw [hr4, hr3, hsr, hk, ha]; rfl
 have eG : r6 = g := by rw [hr6, hr5, eS, eR, hg]; unfold sigL; simp
 have hrun := calls_of_runS (P := Tryd.prog) (v := ⟨envS [(32, s), (61, [0, (lm a 0 : Int), (lm a 1 : Int), (lm a 2 : Int), (lm a 3 : Int), (32 : Int), (32 : Int), (lm U1 0 : Int), (lm U1 1 : Int), (lm U1 2 : Int), (lm U1 3 : Int), (lm V1 0 : Int), (lm V1 1 : Int), (lm V1 2 : Int), (lm V1 3 : Int), 0, (lm U2 0 : Int), (lm U2 1 : Int), (lm U2 2 : Int), (lm U2 3 : Int), (lm V2 0 : Int), (lm V2 1 : Int), (lm V2 2 : Int), (lm V2 3 : Int), 0, 0, (lm sr 0 : Int), (lm sr 1 : Int), (lm sr 2 : Int), (lm sr 3 : Int), (lm U3 0 : Int), (lm U3 1 : Int), (lm U3 2 : Int), (lm U3 3 : Int), (lm V3 0 : Int), (lm V3 1 : Int), (lm V3 2 : Int), (lm V3 3 : Int), 0, (lm U4 0 : Int), (lm U4 1 : Int), (lm U4 2 : Int), (lm U4 3 : Int), (lm V4 0 : Int), (lm V4 1 : Int), (lm V4 2 : Int), (lm V4 3 : Int), 0, 0, (lm k 0 : Int), (lm k 1 : Int), (lm k 2 : Int), (lm k 3 : Int), (lm r3 0 : Int), (lm r3 1 : Int), (lm r3 2 : Int), (lm r3 3 : Int), (lm r4 0 : Int), (lm r4 1 : Int), (lm r4 2 : Int), (lm r4 3 : Int)])], fun n => ([false] : List Bool).getD (n - 79) false, fun n => ([m, [], [], [], [], L, [], [], [], [], [], [], [], [], [], [], [], [], [], [], [], [], [], [], [], r1, [], [], [], [], [], [], [], [], [], [], [], [], [], [], [], [], [], [], [], [], [], [], r2, [], [], [], [], [], [], [], [], [], [], [], [], r5, r6] : List (List Int)).getD (n - 32) [], fun n => ([] : List (List (List Int))).getD n [], LZ Z, w⟩) (gs := []) (fuel := 3000) (nv := 33) (args := [JL0, (.imm (.lvar 32) none)]) (ora := []) (sums := []) (r := ⟨[(.fresh 5 (.lvar 94) (.lit 0) (.len (.lvar 94)) true)], [.callS 22 [(.val JL0)] [(.val JL3), (.fresh 63 (.lvar 37) (.var 37) (.var 38) false)], .dec JL5 true, .dec (.cmp .leq (.lit 0) (.var 38)) true, .call 25 [] (.one JL11), .call 24 [JL3, JL11] (.one JL9), .callS 23 [(.val JL9)] [(.fresh 5 (.lvar 57) (.lit 0) (.len (.lvar 57)) true)], .dec JL15 true, .callS 26 [(.parts [(.part (.lvar 37) (.var 37) (.var 38)), (.lvar 32)])] [(.val JL13)], .call 25 [] (.one JL7), .call 24 [JL13, JL7] (.one JL6), .callS 23 [(.val JL6)] [(.fresh 5 (.lvar 80) (.lit 0) (.len (.lvar 80)) true)], .callS 26 [(.parts [(.lvar 80), (.lvar 57), (.lvar 32)])] [(.val (.agg [.v 81, .v 82, .v 83, .v 84]))], .call 30 [JL12, (.agg [.v 81, .v 82, .v 83, .v 84]), JL3] (.one (.agg [.v 85, .v 86, .v 87, .v 88])), .call 29 [JL12, JL13, (.agg [.v 85, .v 86, .v 87, .v 88])] (.one (.agg [.v 89, .v 90, .v 91, .v 92])), .callS 28 [(.val (.agg [.v 89, .v 90, .v 91, .v 92]))] [(.fresh 5 (.lvar 93) (.lit 0) (.len (.lvar 93)) true)], .callS 27 [(.parts [(.lvar 80), (.lvar 93)])] [(.fresh 5 (.lvar 94) (.lit 0) (.len (.lvar 94)) true)]], []⟩) Tryd.func9 (by kernel_rfl)
  (evs_of ⟨?_, ?_, ?_, ?_, ?_, ?_, ?_, ?_, ?_, ?_, ?_, ?_, ?_, ?_, ?_, ?_, trivial⟩) (by simp) (GsOk.nil _) hK hG _ (⟨_, _, rfl, rfl, u1, _, rfl, ⟨hu1, fun b hb => by cases hb⟩, rfl⟩)
 ·exact runS_eq hrun (by (subst eG; rfl))
 ·exact keys_g Z s hs hb ha hLL
 ·exact dec_le_t (a := 0) (b := 32) rfl rfl (by omega)
 ·exact dec_le_t (a := 0) (b := 32) rfl rfl (by omega)
 ·exact CallP.g (ebase_c (by rw [hU1]; exact base_val.1) (by rw [hV1]; exact base_val.2))
 ·exact eMul_g Z.q a U1 V1 false (by first | assumption | decide) (by first | assumption | decide) (by first | assumption | decide) (by rw [P1]; exact hU2) (by rw [P1]; exact hV2)
 ·exact eencode_g Z.q U2 V2 false (by first | assumption | exact ltP ‹_› | decide +kernel) (by first | assumption | exact ltP ‹_› | decide +kernel) hr1
 ·exact dec_le_t (a := ((32 : Int) + (32 : Int))) (b := L.length) rfl rfl (by omega)
 ·exact scalarq_g Z (p := [halfL (Sha.sum s), m]) (congrArg (fun z => [z, m]) hHf.symm) (by simp only [List.flatten_cons, List.flatten_nil, List.append_nil]; exact (half_bytes (Sha.sum_bytes _)).append hm) (by simp [half_length]; omega) (by simp) (hsr.trans (by unfold sigr; simp))
 ·exact CallP.g (ebase_c (by rw [hU3]; exact base_val.1) (by rw [hV3]; exact base_val.2))
 ·exact eMul_g Z.q sr U3 V3 false (by first | assumption | decide) (by first | assumption | decide) (by first | assumption | decide) (by rw [P3]; exact hU4) (by rw [P3]; exact hV4)
 ·exact eencode_g Z.q U4 V4 false (by first | assumption | exact ltP ‹_› | decide +kernel) (by first | assumption | exact ltP ‹_› | decide +kernel) hr2
 ·exact scalarq_g Z (p := [r2, r1, m]) rfl (by simp only [List.flatten_cons, List.flatten_nil, List.append_nil]; exact bR.append (bP.append hm)) (by simp [eR, eP, encP_length, sigR, pubL]; omega) (by simp) (hk.trans (by unfold sigk; rw [eR, eP]; simp))
 ·exact mul3_g Z k a (by assumption) (by assumption) hr3
 ·exact add3_g Z sr r3 (by assumption) (by assumption) hr4
 ·exact CallS.g (putl_s r4 hr5)
 ·exact CallS.g (concat_s [r2, r5] (by simp [hr5, putN_length, lR]) (by simp) _ rfl hr6)
theorem sigr_lt (s m : List Int) : sigr s m < N := scal_lt _
theorem sigk_lt (s m : List Int) : sigk s m < N := scal_lt _
theorem sign_g (Z : TZ) (s m : List Int) (hs : s.length = 32) (hb : IsBytes s) (hm : IsBytes m) (hml : m.length ≤ 300) {g : List Int} (hg : g = sigL s m) : CallS Tryd.prog (LZ Z) 9 [.val (.agg ((List.range 32).map fun i => Value.int .u8 (s.getD i 0)).toArray), .bytes m] [.fresh 5 g 0 g.length true] :=
 sign_run s m Z hs hb hm hml _ rfl (keyA_lt (Sha.sum_bytes _)) _ rfl _ rfl (sigr_lt s m) _ rfl (sigk_lt s m) hg
end Go.Proofs.YtkckmpnkacdchaaDoor
