/- Points as bytes, run. -/
import Derived.Test.YtdgjlcmedkmgbaaDoorEdF
import Derived.Test.YtdgjlcmedkmgbaaDoorCodec2
import Derived.Test.YtdgjlcmedkmgbaaDoorSqrt
set_option linter.unusedVariables false
set_option linter.unusedSimpArgs false
namespace Go.Proofs.YtdgjlcmedkmgbaaDoor
open Go.RowKit Go.Num Go.Sx
theorem y_lt {x y : Nat} {b : Bool} (h : formedB x y b = true) : y < Ed.P := (formed_iff.1 h).2.2.1
/-- the bytes of a point, as a number -/
def encN (x y : Nat) (b : Bool) : Nat := if formedB x y b = true then y + 57896044618658097711785492504343953926634992332820282019728792003956564819968 * (x % 2) else 1
theorem P_255 : Ed.P < 57896044618658097711785492504343953926634992332820282019728792003956564819968 := by decide +kernel
/-! the last of 32 bytes -/
theorem split31 {l : List Int} (h : l.length = 32) : l = l.take 31 ++ [l.getD 31 0] := by
  rw [List.getD_eq_getElem?_getD, List.getElem?_eq_getElem (by omega), Option.getD_some]
  conv => lhs; rw [← List.take_append_drop 31 l]
  rw [List.drop_eq_getElem_cons (by omega), List.drop_of_length_le (by omega)]
theorem set31 {l : List Int} (h : l.length = 32) (v : Int) : l.set 31 v = l.take 31 ++ [v] := by
  conv => lhs; rw [split31 h]
  rw [List.set_append_right _ _ (by rw [List.length_take]; omega), List.length_take, show 31 - min 31 l.length = 0 by omega]
  rfl
theorem leN_31 {l : List Int} (h : l.length = 32) {c : Nat} (hc : l.getD 31 0 = (c : Int)) : leN l = leN (l.take 31) + 452312848583266388373324160190187140051835877600158453279131187530910662656 * c := by
  have e := congrArg leN (split31 h)
  rw [leN_append, hc, List.length_take, show min 31 l.length = 31 by omega] at e
  rw [e, show leN [(c : Int)] = c from by unfold leN leN; omega]
theorem take31_lt {l : List Int} (h : l.length = 32) (hb : IsBytes l) : leN (l.take 31) < 452312848583266388373324160190187140051835877600158453279131187530910662656 := by
  have := leN_lt (hb.take 31)
  rw [List.length_take, show min 31 l.length = 31 by omega] at this
  exact this
/-- the last byte, with a bit more -/
theorem put_31 {y s : Nat} (hy : y < 57896044618658097711785492504343953926634992332820282019728792003956564819968) (hs : s < 2) {z : Int} (hz : ∀ c : Nat, c < 128 → (putN 32 y).getD 31 0 = (c : Int) → z = ((c + 128 * s : Nat) : Int)) : (putN 32 y).set 31 z = putN 32 (y + 57896044618658097711785492504343953926634992332820282019728792003956564819968 * s) := by
  have hl := putN_length 32 y
  have hb := putN_bytes 32 y
  have hN : N = 57896044618658097711785492504343953926634992332820282019728792003956564819968 + 57896044618658097711785492504343953926634992332820282019728792003956564819968 := by decide +kernel
  have hyN : y < N := by rw [hN]; omega
  obtain ⟨c, hc, e⟩ := bytes_nat hb (j := 31) (by omega)
  have h1 := leN_31 hl e
  rw [putN32 hyN] at h1
  have h2 := take31_lt hl hb
  have hc' : c < 128 := by omega
  have hz' := hz c hc' e
  have hbz : IsBytes ((putN 32 y).set 31 z) := by
    rw [set31 hl]
    refine (hb.take 31).append (IsBytes.cons ?_ IsBytes.nil)
    rw [hz']
    omega
  refine leN_inj hbz (putN_bytes _ _) (by rw [List.length_set, hl, putN_length]) ?_
  have hlt : y + 57896044618658097711785492504343953926634992332820282019728792003956564819968 * s < N := by
    have : s = 0 ∨ s = 1 := by omega
    rw [hN]
    rcases this with e | e <;> subst e <;> omega
  rw [putN32 hlt, set31 hl, leN_append, hz', List.length_take, show min 31 (putN 32 y).length = 31 by omega, show leN [((c + 128 * s : Nat) : Int)] = c + 128 * s from by unfold leN leN; omega]
  generalize leN ((putN 32 y).take 31) = A at *
  rw [h1]
  omega
theorem or128 : ∀ c : Fin 128, ∀ s : Fin 2, Go.bits .or .u8 ((c.val : Nat) : Int) (IntKind.u8.wrap (((s.val : Nat) : Int) * 2 ^ (min ((7 : Int)).toNat IntKind.u8.bits))) = ((c.val + 128 * s.val : Nat) : Int) := by decide +kernel
theorem lm_odd (x : Nat) : lm x 0 % 2 = x % 2 := by
  unfold lm
  rw [Nat.pow_zero, Nat.div_one]
  unfold B
  omega
theorem par_and (x : Nat) : IntKind.u8.wrap (Go.bits .and .u64 ((lm x 0 : Nat) : Int) (1 : Int)) = ((x % 2 : Nat) : Int) := by
  have hlt : lm x 0 < B := lm_lt x 0
  unfold B at hlt
  rw [show (1 : Int) = ((1 : Nat) : Int) from rfl, u64_and_nat _ _ (by omega) (by omega), Nat.and_one_is_mod, lm_odd]
  have h : x % 2 = 0 ∨ x % 2 = 1 := by omega
  rcases h with h | h <;> rw [h] <;> decide
theorem put_or {y x : Nat} (hy : y < Ed.P) : (putN 32 y).set ((31 : Int)).toNat (Go.bits .or .u8 ((putN 32 y).getD ((31 : Int)).toNat 0) (IntKind.u8.wrap (((x % 2 : Nat) : Int) * 2 ^ (min ((7 : Int)).toNat IntKind.u8.bits)))) = putN 32 (y + 57896044618658097711785492504343953926634992332820282019728792003956564819968 * (x % 2)) :=
  put_31 (Nat.lt_trans hy P_255) (Nat.mod_lt _ (by decide)) fun c hc e => by rw [show ((31 : Int)).toNat = 31 from rfl, e]; exact or128 ⟨c, hc⟩ ⟨x % 2, Nat.mod_lt _ (by decide)⟩
set_option maxHeartbeats 4000000 in
theorem eenc_yes (x y : Nat) (b : Bool) (Ts : TV) (hx : x < N) (hy : y < N) (hf : formedB x y b = true) {r : List Int} (hr : r = putN 32 (encN x y b)) : CallS Tryd.prog (LE Ts) 25 [.val (.agg #[.int .u64 (lm x 0), .int .u64 (lm x 1), .int .u64 (lm x 2), .int .u64 (lm x 3), .int .u64 (lm y 0), .int .u64 (lm y 1), .int .u64 (lm y 2), .int .u64 (lm y 3), .bool b])] [.fresh 5 r 0 r.length true] := by
  refine callS_of Tryd.func25 (by kernel_rfl) (by kernel_rfl) (fun w us hK hG ha => ?_)
  obtain ⟨_, _, rfl, rfl, rfl⟩ := ha
  obtain ⟨r1, hr1⟩ : ∃ r : Bool, r = formedB x y b := ⟨_, rfl⟩
  obtain ⟨r2, hr2⟩ : ∃ r : List Int, r = putN 32 y := ⟨_, rfl⟩
  have len1 : r2.length = 32 := by rw [hr2, putN_length]
  have hrun := calls_of_runS (P := Tryd.prog) (v := ⟨envI [((lm x 0 : Nat) : Int), ((lm x 1 : Nat) : Int), ((lm x 2 : Nat) : Int), ((lm x 3 : Nat) : Int), ((lm y 0 : Nat) : Int), ((lm y 1 : Nat) : Int), ((lm y 2 : Nat) : Int), ((lm y 3 : Nat) : Int)], envB [false, false, false, false, false, false, false, false, b, r1], envL [[], [], [], [], [], [], [], [], [], [], r2], envP [], LE Ts, w⟩) (gs := (edGs Ts [v_one])) (fuel := 3000) (nv := 9) (args := [(.agg [.v 0, .v 1, .v 2, .v 3, .v 4, .v 5, .v 6, .v 7, .bool (.var 8)])]) (ora := [some true]) (sums := []) (r := ⟨[(.fresh 5 (.set (.lvar 10) (.lit 31) (.bit .or .u8 (.get (.lvar 10) (.lit 31)) (.shl .u8 (.conv .u8 (.bit .and .u64 (.var 0) (.lit 1))) (.lit 7)))) (.lit 0) (.len (.lvar 10)) true)], [.call 12 [(.agg [.v 0, .v 1, .v 2, .v 3, .v 4, .v 5, .v 6, .v 7, .bool (.var 8)])] (.one (.sc (.bool (.var 9)))), .dec (.var 9) true, .callS 52 [(.val (.agg [.v 4, .v 5, .v 6, .v 7]))] [(.fresh 5 (.lvar 10) (.lit 0) (.len (.lvar 10)) true)], .dec (.cmp .lss (.lit 31) (.len (.lvar 10))) true, .dec (.cmp .lss (.lit 31) (.len (.lvar 10))) true, .dec (.cmp .lss (.lit 31) (.len (.lvar 10))) true, .dec (.cmp .lss (.lit 31) (.len (.lvar 10))) true], []⟩) Tryd.func25 (by kernel_rfl)
    (evs_of ⟨?_, ?_, ?_, ?_, ?_, ?_, ?_, trivial⟩) (by simp) (varsOk Ts _ (List.forall_mem_cons.2 ⟨Ts.one, (List.forall_mem_nil _)⟩) (by decide)) hK hG _ (⟨_, _, rfl, rfl, rfl⟩)
  · exact runS_eq hrun (by (have e1 : (r2.set ((31 : Int)).toNat (Go.bits .or .u8 (r2.getD ((31 : Int)).toNat 0) (IntKind.u8.wrap ((IntKind.u8.wrap (Go.bits .and .u64 ((lm x 0 : Nat) : Int) (1 : Int))) * 2 ^ (min ((7 : Int)).toNat IntKind.u8.bits))))) = r := (by rw [par_and, hr2, hr]; unfold encN; rw [if_pos hf]; exact put_or (y_lt hf)); show [SRes.fresh 5 ((r2.set ((31 : Int)).toNat (Go.bits .or .u8 (r2.getD ((31 : Int)).toNat 0) (IntKind.u8.wrap ((IntKind.u8.wrap (Go.bits .and .u64 ((lm x 0 : Nat) : Int) (1 : Int))) * 2 ^ (min ((7 : Int)).toNat IntKind.u8.bits)))))) 0 (((r2.length : Nat) : Int)).toNat true] = _; rw [Int.toNat_natCast, len1, e1, hr, putN_length]))
  · exact eformed_g Ts x y b (by first | assumption | exact Nat.lt_trans (by assumption) PN | decide | decide +kernel) (by first | assumption | exact Nat.lt_trans (by assumption) PN | decide | decide +kernel) hr1
  · (show r1 = true; rw [hr1]; exact hf)
  · exact CallS.g (putl_s y hr2)
  · first | exact dec_lt_t (a := (31 : Int)) (b := ((r2.length : Nat) : Int)) rfl rfl (by omega) | (first | (simp [Ev.holds, Bx.den, cmpD, I.den, I.ldn, envI, envB, envL, envP]; done) | (simp [Ev.holds, Bx.den, cmpD, I.den, I.ldn, envI, envB, envL, envP]; omega))
  · first | exact dec_lt_t (a := (31 : Int)) (b := ((r2.length : Nat) : Int)) rfl rfl (by omega) | (first | (simp [Ev.holds, Bx.den, cmpD, I.den, I.ldn, envI, envB, envL, envP]; done) | (simp [Ev.holds, Bx.den, cmpD, I.den, I.ldn, envI, envB, envL, envP]; omega))
  · first | exact dec_lt_t (a := (31 : Int)) (b := ((r2.length : Nat) : Int)) rfl rfl (by omega) | (first | (simp [Ev.holds, Bx.den, cmpD, I.den, I.ldn, envI, envB, envL, envP]; done) | (simp [Ev.holds, Bx.den, cmpD, I.den, I.ldn, envI, envB, envL, envP]; omega))
  · first | exact dec_lt_t (a := (31 : Int)) (b := ((r2.length : Nat) : Int)) rfl rfl (by omega) | (first | (simp [Ev.holds, Bx.den, cmpD, I.den, I.ldn, envI, envB, envL, envP]; done) | (simp [Ev.holds, Bx.den, cmpD, I.den, I.ldn, envI, envB, envL, envP]; omega))
set_option maxHeartbeats 4000000 in
theorem eenc_no (x y : Nat) (b : Bool) (Ts : TV) (hx : x < N) (hy : y < N) (hf : ¬ formedB x y b = true) (r2 : List Int) (hr2 : r2 = putN 32 1) {r : List Int} (hr : r = putN 32 (encN x y b)) : CallS Tryd.prog (LE Ts) 25 [.val (.agg #[.int .u64 (lm x 0), .int .u64 (lm x 1), .int .u64 (lm x 2), .int .u64 (lm x 3), .int .u64 (lm y 0), .int .u64 (lm y 1), .int .u64 (lm y 2), .int .u64 (lm y 3), .bool b])] [.fresh 5 r 0 r.length true] := by
  refine callS_of Tryd.func25 (by kernel_rfl) (by kernel_rfl) (fun w us hK hG ha => ?_)
  obtain ⟨_, _, rfl, rfl, rfl⟩ := ha
  obtain ⟨r1, hr1⟩ : ∃ r : Bool, r = formedB x y b := ⟨_, rfl⟩
  have len1 : r2.length = 32 := by rw [hr2, putN_length]
  have hrun := calls_of_runS (P := Tryd.prog) (v := ⟨envI [((lm x 0 : Nat) : Int), ((lm x 1 : Nat) : Int), ((lm x 2 : Nat) : Int), ((lm x 3 : Nat) : Int), ((lm y 0 : Nat) : Int), ((lm y 1 : Nat) : Int), ((lm y 2 : Nat) : Int), ((lm y 3 : Nat) : Int)], envB [false, false, false, false, false, false, false, false, b, r1], envL [[], [], [], [], [], [], [], [], [], [], r2], envP [], LE Ts, w⟩) (gs := (edGs Ts [v_one])) (fuel := 3000) (nv := 9) (args := [(.agg [.v 0, .v 1, .v 2, .v 3, .v 4, .v 5, .v 6, .v 7, .bool (.var 8)])]) (ora := [some false]) (sums := []) (r := ⟨[(.fresh 5 (.set (.lvar 10) (.lit 31) (.bit .or .u8 (.get (.lvar 10) (.lit 31)) (.lit 0))) (.lit 0) (.len (.lvar 10)) true)], [.call 12 [(.agg [.v 0, .v 1, .v 2, .v 3, .v 4, .v 5, .v 6, .v 7, .bool (.var 8)])] (.one (.sc (.bool (.var 9)))), .dec (.var 9) false, .callS 52 [(.val (.agg [.n 1, .n 0, .n 0, .n 0]))] [(.fresh 5 (.lvar 10) (.lit 0) (.len (.lvar 10)) true)], .dec (.cmp .lss (.lit 31) (.len (.lvar 10))) true, .dec (.cmp .lss (.lit 31) (.len (.lvar 10))) true, .dec (.cmp .lss (.lit 31) (.len (.lvar 10))) true, .dec (.cmp .lss (.lit 31) (.len (.lvar 10))) true], []⟩) Tryd.func25 (by kernel_rfl)
    (evs_of ⟨?_, ?_, ?_, ?_, ?_, ?_, ?_, trivial⟩) (by simp) (varsOk Ts _ (List.forall_mem_cons.2 ⟨Ts.one, (List.forall_mem_nil _)⟩) (by decide)) hK hG _ (⟨_, _, rfl, rfl, rfl⟩)
  · exact runS_eq hrun (by (have e1 : (r2.set ((31 : Int)).toNat (Go.bits .or .u8 (r2.getD ((31 : Int)).toNat 0) (0 : Int))) = r := (by rw [hr2, hr]; unfold encN; rw [if_neg hf]; decide +kernel); show [SRes.fresh 5 ((r2.set ((31 : Int)).toNat (Go.bits .or .u8 (r2.getD ((31 : Int)).toNat 0) (0 : Int)))) 0 (((r2.length : Nat) : Int)).toNat true] = _; rw [Int.toNat_natCast, len1, e1, hr, putN_length]))
  · exact eformed_g Ts x y b (by first | assumption | exact Nat.lt_trans (by assumption) PN | decide | decide +kernel) (by first | assumption | exact Nat.lt_trans (by assumption) PN | decide | decide +kernel) hr1
  · (show r1 = false; rw [hr1]; exact Bool.eq_false_iff.2 hf)
  · exact CallS.g (putl_s 1 hr2)
  · first | exact dec_lt_t (a := (31 : Int)) (b := ((r2.length : Nat) : Int)) rfl rfl (by omega) | (first | (simp [Ev.holds, Bx.den, cmpD, I.den, I.ldn, envI, envB, envL, envP]; done) | (simp [Ev.holds, Bx.den, cmpD, I.den, I.ldn, envI, envB, envL, envP]; omega))
  · first | exact dec_lt_t (a := (31 : Int)) (b := ((r2.length : Nat) : Int)) rfl rfl (by omega) | (first | (simp [Ev.holds, Bx.den, cmpD, I.den, I.ldn, envI, envB, envL, envP]; done) | (simp [Ev.holds, Bx.den, cmpD, I.den, I.ldn, envI, envB, envL, envP]; omega))
  · first | exact dec_lt_t (a := (31 : Int)) (b := ((r2.length : Nat) : Int)) rfl rfl (by omega) | (first | (simp [Ev.holds, Bx.den, cmpD, I.den, I.ldn, envI, envB, envL, envP]; done) | (simp [Ev.holds, Bx.den, cmpD, I.den, I.ldn, envI, envB, envL, envP]; omega))
  · first | exact dec_lt_t (a := (31 : Int)) (b := ((r2.length : Nat) : Int)) rfl rfl (by omega) | (first | (simp [Ev.holds, Bx.den, cmpD, I.den, I.ldn, envI, envB, envL, envP]; done) | (simp [Ev.holds, Bx.den, cmpD, I.den, I.ldn, envI, envB, envL, envP]; omega))
theorem eencode_g (Ts : TV) (x y : Nat) (b : Bool) (hx : x < N) (hy : y < N) {r : List Int} (hr : r = putN 32 (encN x y b)) : CallS Tryd.prog (LE Ts) 25 [.val (.agg #[.int .u64 (lm x 0), .int .u64 (lm x 1), .int .u64 (lm x 2), .int .u64 (lm x 3), .int .u64 (lm y 0), .int .u64 (lm y 1), .int .u64 (lm y 2), .int .u64 (lm y 3), .bool b])] [.fresh 5 r 0 r.length true] := by
  by_cases hf : formedB x y b = true
  · exact eenc_yes x y b Ts hx hy hf hr
  · exact eenc_no x y b Ts hx hy hf _ rfl hr
end Go.Proofs.YtdgjlcmedkmgbaaDoor
