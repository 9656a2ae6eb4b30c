/- Merged: Sha, ShaV, ShaR, ShaT, ShaT2, ShaC, ShaS, ShaA. -/
import Derived.Test.YtkckmpnkacdchaaDoorBytes
import Derived.Laws.BitsAllLaws
import Derived.Laws.Closers25b
import Derived.Test.YtkckmpnkacdchaaDoorVars
import Derived.Test.YtkckmpnkacdchaaDoorCalls
import Derived.Test.YtkckmpnkacdchaaDoorProg
set_option linter.unusedVariables false
set_option linter.unusedSimpArgs false
set_option maxHeartbeats 4000000
namespace Go.Sha
open Go Go.Num
def addI (x y : Int) : Int := IntKind.u64.wrap (x + y)
def rotI (x : Int) (n : Nat) : Int := Go.bits .or .u64 (Int.fdiv x (2 ^ n)) (IntKind.u64.wrap (x * 2 ^ (64 - n)))
def xorI (x y : Int) : Int := Go.bits .xor .u64 x y
def andI (x y : Int) : Int := Go.bits .and .u64 x y
def sig0 (x : Int) : Int := xorI (xorI (rotI x 1) (rotI x 8)) (Int.fdiv x (2 ^ 7))
def sig1 (x : Int) : Int := xorI (xorI (rotI x 19) (rotI x 61)) (Int.fdiv x (2 ^ 6))
def big0 (x : Int) : Int := xorI (xorI (rotI x 28) (rotI x 34)) (rotI x 39)
def big1 (x : Int) : Int := xorI (xorI (rotI x 14) (rotI x 18)) (rotI x 41)
def ch (e f g : Int) : Int := xorI (andI e f) (andI (xorI 18446744073709551615 e) g)
def maj (a b c : Int) : Int := xorI (xorI (andI a b) (andI a c)) (andI b c)
def newW (W : List Int) (t : Nat) : Int := addI (addI (addI (sig1 (W.getD (t - 2) 0)) (W.getD (t - 7) 0)) (sig0 (W.getD (t - 15) 0))) (W.getD (t - 16) 0)
def sched (W : List Int) (t : Nat) : List Int := W.set t (newW W t)
def schedN (W : List Int) : Nat → List Int
 | 0 => W
 | k + 1 => sched (schedN W k) (16 + k)
structure St where
 a : Int
 b : Int
 c : Int
 d : Int
 e : Int
 f : Int
 g : Int
 h : Int
def t1 (s : St) (k w : Int) : Int := addI (addI (addI (addI s.h (big1 s.e)) (ch s.e s.f s.g)) k) w
def t2 (s : St) : Int := addI (big0 s.a) (maj s.a s.b s.c)
def round (s : St) (k w : Int) : St := ⟨addI (t1 s k w) (t2 s), s.a, s.b, s.c, addI s.d (t1 s k w), s.e, s.f, s.g⟩
def K : List Int := [4794697086780616226, 8158064640168781261, 13096744586834688815, 16840607885511220156, 4131703408338449720, 6480981068601479193, 10538285296894168987, 12329834152419229976, 15566598209576043074, 1334009975649890238, 2608012711638119052, 6128411473006802146, 8268148722764581231, 9286055187155687089, 11230858885718282805, 13951009754708518548, 16472876342353939154, 17275323862435702243, 1135362057144423861, 2597628984639134821, 3308224258029322869, 5365058923640841347, 6679025012923562964, 8573033837759648693, 10970295158949994411, 12119686244451234320, 12683024718118986047, 13788192230050041572, 14330467153632333762, 15395433587784984357, 489312712824947311, 1452737877330783856, 2861767655752347644, 3322285676063803686, 5560940570517711597, 5996557281743188959, 7280758554555802590, 8532644243296465576, 9350256976987008742, 10552545826968843579, 11727347734174303076, 12113106623233404929, 14000437183269869457, 14369950271660146224, 15101387698204529176, 15463397548674623760, 17586052441742319658, 1182934255886127544, 1847814050463011016, 2177327727835720531, 2830643537854262169, 3796741975233480872, 4115178125766777443, 5681478168544905931, 6601373596472566643, 7507060721942968483, 8399075790359081724, 8693463985226723168, 9568029438360202098, 10144078919501101548, 10430055236837252648, 11840083180663258601, 13761210420658862357, 14299343276471374635, 14566680578165727644, 15097957966210449927, 16922976911328602910, 17689382322260857208, 500013540394364858, 748580250866718886, 1242879168328830382, 1977374033974150939, 2944078676154940804, 3659926193048069267, 4368137639120453308, 4836135668995329356, 5532061633213252278, 6448918945643986474, 6902733635092675308, 7801388544844847127]
def rounds (W : List Int) (s : St) : Nat → St
 | 0 => s
 | k + 1 => round (rounds W s k) (K.getD k 0) (W.getD k 0)
def be8 (c0 c1 c2 c3 c4 c5 c6 c7 : Int) : Int := ((((((c0 * 256 + c1) * 256 + c2) * 256 + c3) * 256 + c4) * 256 + c5) * 256 + c6) * 256 + c7
def wd (l : List Int) (j : Nat) : Int := be8 (l.getD (8 * j) 0) (l.getD (8 * j + 1) 0) (l.getD (8 * j + 2) 0) (l.getD (8 * j + 3) 0) (l.getD (8 * j + 4) 0) (l.getD (8 * j + 5) 0) (l.getD (8 * j + 6) 0) (l.getD (8 * j + 7) 0)
def words (l : List Int) : List Int := [wd l 0, wd l 1, wd l 2, wd l 3, wd l 4, wd l 5, wd l 6, wd l 7, wd l 8, wd l 9, wd l 10, wd l 11, wd l 12, wd l 13, wd l 14, wd l 15] ++ List.replicate 64 0
def stAdd (s r : St) : St := ⟨addI s.a r.a, addI s.b r.b, addI s.c r.c, addI s.d r.d, addI s.e r.e, addI s.f r.f, addI s.g r.g, addI s.h r.h⟩
def take (s : St) (l : List Int) : St := stAdd s (rounds (schedN (words l) 64) s 80)
def start : St := ⟨7640891576956012808, 13503953896175478587, 4354685564936845355, 11912009170470909681, 5840696475078001361, 11170449401992604703, 2270897969802886507, 6620516959819538809⟩
def zeros (n : Nat) : Nat := (239 - n % 128) % 128
def lenB (n : Nat) : List Int := [((8 * n / 2 ^ 56 % 256 : Nat) : Int), ((8 * n / 2 ^ 48 % 256 : Nat) : Int), ((8 * n / 2 ^ 40 % 256 : Nat) : Int), ((8 * n / 2 ^ 32 % 256 : Nat) : Int), ((8 * n / 2 ^ 24 % 256 : Nat) : Int), ((8 * n / 2 ^ 16 % 256 : Nat) : Int), ((8 * n / 2 ^ 8 % 256 : Nat) : Int), ((8 * n % 256 : Nat) : Int)]
def pad (m : List Int) : List Int := ((m ++ [128]) ++ List.replicate (zeros m.length) 0) ++ (List.replicate 8 0 ++ lenB m.length)
def blocks (s : St) (l : List Int) : Nat → St
 | 0 => s
 | k + 1 => take (blocks s l k) ((l.drop (128 * k)).take 128)
def byteI (x : Int) (n : Nat) : Int := IntKind.u8.wrap (Int.fdiv x (2 ^ n))
def outW (x : Int) : List Int := [byteI x 56, byteI x 48, byteI x 40, byteI x 32, byteI x 24, byteI x 16, byteI x 8, byteI x 0]
def out (s : St) : List Int := outW s.a ++ outW s.b ++ outW s.c ++ outW s.d ++ outW s.e ++ outW s.f ++ outW s.g ++ outW s.h
def sum (m : List Int) : List Int := out (blocks start (pad m) ((pad m).length / 128))
theorem ofInt_wrap (x : Int) : BitVec.ofInt 64 (IntKind.u64.wrap x) = BitVec.ofInt 64 x := by
 apply BitVec.eq_of_toNat_eq
 rw [BitVec.toNat_ofInt, BitVec.toNat_ofInt, IntKind.wrap_u64]
 congr 1
 omega
theorem bv_nat (X : BitVec 64) : BitVec.ofInt 64 ((X.toNat : Nat) : Int) = X := by
 rw [BitVec.ofInt_natCast, BitVec.ofNat_toNat, BitVec.setWidth_eq]
theorem bits_xor (a b : Int) : Go.bits .xor .u64 a b = IntKind.u64.wrap (((BitVec.ofInt 64 a ^^^ BitVec.ofInt 64 b).toNat : Nat) : Int) := rfl
theorem bits_or (a b : Int) : Go.bits .or .u64 a b = IntKind.u64.wrap (((BitVec.ofInt 64 a ||| BitVec.ofInt 64 b).toNat : Nat) : Int) := rfl
theorem bits_and (a b : Int) : Go.bits .and .u64 a b = IntKind.u64.wrap (((BitVec.ofInt 64 a &&& BitVec.ofInt 64 b).toNat : Nat) : Int) := rfl
theorem bv_xor (a b : Int) : BitVec.ofInt 64 (Go.bits .xor .u64 a b) = BitVec.ofInt 64 a ^^^ BitVec.ofInt 64 b := by rw [bits_xor, ofInt_wrap, bv_nat]
theorem bv_or (a b : Int) : BitVec.ofInt 64 (Go.bits .or .u64 a b) = BitVec.ofInt 64 a ||| BitVec.ofInt 64 b := by rw [bits_or, ofInt_wrap, bv_nat]
theorem bv_and (a b : Int) : BitVec.ofInt 64 (Go.bits .and .u64 a b) = BitVec.ofInt 64 a &&& BitVec.ofInt 64 b := by rw [bits_and, ofInt_wrap, bv_nat]
theorem bv_not (e : Int) : BitVec.ofInt 64 (IntKind.u64.wrap (18446744073709551615 - e)) = BitVec.ofInt 64 18446744073709551615 ^^^ BitVec.ofInt 64 e := by
 rw [ofInt_wrap, show BitVec.ofInt 64 18446744073709551615 = BitVec.allOnes 64 by decide, BitVec.allOnes_xor]
 apply BitVec.eq_of_toNat_eq
 rw [BitVec.toNat_not, BitVec.toNat_ofInt, BitVec.toNat_ofInt]
 omega
theorem or_comm (a b : Int) : Go.bits .or .u64 a b = Go.bits .or .u64 b a := by rw [bits_or, bits_or, BitVec.or_comm]
theorem ch_or (e f g : Int) : Go.bits .or .u64 (Go.bits .and .u64 e f) (Go.bits .and .u64 (IntKind.u64.wrap (18446744073709551615 - e)) g) = ch e f g := by
 unfold ch xorI andI
 rw [bits_or, bits_xor, bv_and, bv_and, bv_and, bv_not, bv_xor]
 refine congrArg (fun (X : BitVec 64) => IntKind.u64.wrap ((X.toNat : Nat) : Int)) ?_
 rw [show BitVec.ofInt 64 18446744073709551615 = BitVec.allOnes 64 by decide, BitVec.allOnes_xor]
 ext i hi
 simp only [BitVec.getElem_or, BitVec.getElem_and, BitVec.getElem_xor, BitVec.getElem_not]
 cases (BitVec.ofInt 64 e)[i] <;> cases (BitVec.ofInt 64 f)[i] <;> cases (BitVec.ofInt 64 g)[i] <;> rfl
theorem maj_or (a b c : Int) : Go.bits .or .u64 (Go.bits .or .u64 (Go.bits .and .u64 a b) (Go.bits .and .u64 a c)) (Go.bits .and .u64 b c) = maj a b c := by
 unfold maj xorI andI
 rw [bits_or, bv_or, bits_xor, bv_xor, bv_and, bv_and, bv_and]
 refine congrArg (fun (X : BitVec 64) => IntKind.u64.wrap ((X.toNat : Nat) : Int)) ?_
 ext i hi
 simp only [BitVec.getElem_or, BitVec.getElem_and, BitVec.getElem_xor]
 cases (BitVec.ofInt 64 a)[i] <;> cases (BitVec.ofInt 64 b)[i] <;> cases (BitVec.ofInt 64 c)[i] <;> rfl
def IsWord (x : Int) : Prop := 0 ≤ x ∧ x < 18446744073709551616
def IsWords (l : List Int) : Prop := ∀ x ∈ l, IsWord x
theorem addI_word (x y : Int) : IsWord (addI x y) := by
 unfold addI IsWord
 rw [IntKind.wrap_u64]
 omega
theorem IsWords.get {l : List Int} (h : IsWords l) (j : Nat) : IsWord (l.getD j 0) := by
 rw [List.getD_eq_getElem?_getD]
 cases e : l[j]? with
 | none => exact ⟨Int.le_refl 0, by decide⟩
 | some x => exact h x (List.mem_of_getElem? e)
theorem IsWords.set {l : List Int} (h : IsWords l) (j : Nat) {x : Int} (hx : IsWord x) : IsWords (l.set j x) := fun y hy => by
 rcases List.mem_or_eq_of_mem_set hy with h1 | h1
 ·exact h y h1
 ·rw [h1]; exact hx
theorem sched_words {W : List Int} (h : IsWords W) (t : Nat) : IsWords (sched W t) := h.set t (addI_word _ _)
theorem schedN_words {W : List Int} (h : IsWords W) : ∀ k, IsWords (schedN W k)
 | 0 => h
 | k + 1 => sched_words (schedN_words h k) _
theorem schedN_length (W : List Int) : ∀ k, (schedN W k).length = W.length
 | 0 => rfl
 | k + 1 => by
  show (sched (schedN W k) (16 + k)).length = _
  unfold sched
  rw [List.length_set, schedN_length W k]
theorem quo_pow {x : Int} (h : IsWord x) (n : Nat) (d : Int) (hd : d = 2 ^ n) (h1 : 1 ≤ d) : IntKind.u64.wrap (Int.tdiv x d) = Int.fdiv x (2 ^ n) := by
 rw [← hd, IntKind.wrap_u64, Int.tdiv_eq_ediv_of_nonneg h.1, Int.fdiv_eq_ediv_of_nonneg _ (by omega)]
 have h2 : 0 ≤ x / d := Int.ediv_nonneg h.1 (by omega)
 have h3 : x / d ≤ x := Int.ediv_le_self _ h.1
 have := h.2
 omega
theorem or_byte {a : Int} {c : Int} (h0 : 0 ≤ a) (h1 : a < 72057594037927936) (hc : 0 ≤ c ∧ c < 256) : Go.bits .or .u64 (IntKind.u64.wrap (a * 2 ^ (min ((8 : Int)).toNat IntKind.u64.bits))) (IntKind.u64.wrap c) = a * 256 + c := by
 have e : (2 : Int) ^ (min ((8 : Int)).toNat IntKind.u64.bits) = 256 := by decide
 rw [e, IntKind.wrap_u64, IntKind.wrap_u64, Int.emod_eq_of_lt (by omega) (by omega), Int.emod_eq_of_lt hc.1 (by omega)]
 obtain ⟨A, rfl⟩ := Int.eq_ofNat_of_zero_le h0
 obtain ⟨C, rfl⟩ := Int.eq_ofNat_of_zero_le hc.1
 have hC : C < 2 ^ 8 := by omega
 rw [show (A : Int) * 256 = ((A * 256 : Nat) : Int) by omega, u64_or_nat _ _ (by omega) (by omega)]
 have : A * 256 ||| C = A * 256 + C := by
  have := Nat.two_pow_add_eq_or_of_lt hC A
  rw [show 2 ^ 8 * A = A * 256 by omega] at this
  exact this.symm
 rw [this]
 omega
theorem add_byte {a : Int} {c : Int} (h0 : 0 ≤ a) (h1 : a < 72057594037927936) (hc : 0 ≤ c ∧ c < 256) : IntKind.u64.wrap (IntKind.u64.wrap (a * 256) + IntKind.u64.wrap c) = a * 256 + c := by
 rw [IntKind.wrap_u64, IntKind.wrap_u64, IntKind.wrap_u64]
 omega
theorem or_be8 {c0 c1 c2 c3 c4 c5 c6 c7 : Int} (h0 : 0 ≤ c0 ∧ c0 < 256) (h1 : 0 ≤ c1 ∧ c1 < 256) (h2 : 0 ≤ c2 ∧ c2 < 256) (h3 : 0 ≤ c3 ∧ c3 < 256) (h4 : 0 ≤ c4 ∧ c4 < 256) (h5 : 0 ≤ c5 ∧ c5 < 256) (h6 : 0 ≤ c6 ∧ c6 < 256) (h7 : 0 ≤ c7 ∧ c7 < 256) (f : Int → Int → Int)
  (hf : ∀ a c : Int, 0 ≤ a → a < 72057594037927936 → 0 ≤ c ∧ c < 256 → f a c = a * 256 + c) : f (f (f (f (f (f (f (f 0 c0) c1) c2) c3) c4) c5) c6) c7 = be8 c0 c1 c2 c3 c4 c5 c6 c7 ∧ IsWord (be8 c0 c1 c2 c3 c4 c5 c6 c7) := by
 unfold be8 IsWord
 rw [hf 0 c0 (by omega) (by omega) h0, hf (0 * 256 + c0) c1 (by omega) (by omega) h1, hf _ c2 (by omega) (by omega) h2, hf _ c3 (by omega) (by omega) h3, hf _ c4 (by omega) (by omega) h4, hf _ c5 (by omega) (by omega) h5, hf _ c6 (by omega) (by omega) h6, hf _ c7 (by omega) (by omega) h7]
 refine ⟨?_, ?_, ?_⟩ <;> omega
theorem wd_word {l : List Int} (h : IsBytes l) (hl : l.length = 128) {j : Nat} (hj : j < 16) : IsWord (wd l j) :=
 (or_be8 (h.get (by omega)) (h.get (by omega)) (h.get (by omega)) (h.get (by omega)) (h.get (by omega)) (h.get (by omega)) (h.get (by omega)) (h.get (by omega)) (fun a c => a * 256 + c) (fun _ _ _ _ _ => rfl)).2
def orB (a c : Int) : Int := Go.bits .or .u64 (IntKind.u64.wrap (a * 2 ^ (min ((8 : Int)).toNat IntKind.u64.bits))) (IntKind.u64.wrap c)
def adB (a c : Int) : Int := IntKind.u64.wrap (IntKind.u64.wrap (a * 256) + IntKind.u64.wrap c)
def wdF (f : Int → Int → Int) (l : List Int) (j : Nat) : Int := f (f (f (f (f (f (f (f 0 (l.getD (8 * j) 0)) (l.getD (8 * j + 1) 0)) (l.getD (8 * j + 2) 0)) (l.getD (8 * j + 3) 0)) (l.getD (8 * j + 4) 0)) (l.getD (8 * j + 5) 0)) (l.getD (8 * j + 6) 0)) (l.getD (8 * j + 7) 0)
def wordsF (f : Int → Int → Int) (l : List Int) : List Int := [wdF f l 0, wdF f l 1, wdF f l 2, wdF f l 3, wdF f l 4, wdF f l 5, wdF f l 6, wdF f l 7, wdF f l 8, wdF f l 9, wdF f l 10, wdF f l 11, wdF f l 12, wdF f l 13, wdF f l 14, wdF f l 15] ++ List.replicate 64 0
theorem wordsF_eq {l : List Int} (h : IsBytes l) (hl : l.length = 128) (f : Int → Int → Int) (hf : ∀ a c : Int, 0 ≤ a → a < 72057594037927936 → 0 ≤ c ∧ c < 256 → f a c = a * 256 + c) : wordsF f l = words l := by
 have e : ∀ j, j < 16 → wdF f l j = wd l j := fun j hj => (or_be8 (h.get (by omega)) (h.get (by omega)) (h.get (by omega)) (h.get (by omega)) (h.get (by omega)) (h.get (by omega)) (h.get (by omega)) (h.get (by omega)) f hf).1
 unfold wordsF words
 rw [e 0 (by decide), e 1 (by decide), e 2 (by decide), e 3 (by decide), e 4 (by decide), e 5 (by decide), e 6 (by decide), e 7 (by decide), e 8 (by decide), e 9 (by decide), e 10 (by decide), e 11 (by decide), e 12 (by decide), e 13 (by decide), e 14 (by decide), e 15 (by decide)]
theorem wordsO_eq {l : List Int} (h : IsBytes l) (hl : l.length = 128) : wordsF orB l = words l := wordsF_eq h hl orB fun _ _ h0 h1 hc => or_byte h0 h1 hc
theorem wordsA_eq {l : List Int} (h : IsBytes l) (hl : l.length = 128) : wordsF adB l = words l := wordsF_eq h hl adB fun _ _ h0 h1 hc => add_byte h0 h1 hc
theorem words_words {l : List Int} (h : IsBytes l) (hl : l.length = 128) : IsWords (words l) := fun x hx => by
 unfold words at hx
 rcases List.mem_append.1 hx with hx | hx
 ·simp only [List.mem_cons, List.not_mem_nil, or_false] at hx
  rcases hx with rfl | rfl | rfl | rfl | rfl | rfl | rfl | rfl | rfl | rfl | rfl | rfl | rfl | rfl | rfl | rfl <;> exact wd_word h hl (by decide)
 ·rw [List.eq_of_mem_replicate hx]; exact ⟨Int.le_refl 0, by decide⟩
theorem list128 {l : List Int} (h : l.length = 128) : l = (List.range 128).map fun i => l.getD i 0 := by
 apply List.ext_getElem?
 intro i
 simp only [List.getElem?_map, List.getD_eq_getElem?_getD]
 by_cases hi : i < 128
 ·rw [List.getElem?_range hi, Option.map_some, List.getElem?_eq_getElem (show i < l.length by omega), Option.getD_some]
 ·rw [List.getElem?_eq_none (by omega), List.getElem?_eq_none (by simp; omega)]; rfl
theorem list80 {l : List Int} (h : l.length = 80) : l = (List.range 80).map fun i => l.getD i 0 := by
 apply List.ext_getElem?
 intro i
 simp only [List.getElem?_map, List.getD_eq_getElem?_getD]
 by_cases hi : i < 80
 ·rw [List.getElem?_range hi, Option.map_some, List.getElem?_eq_getElem (show i < l.length by omega), Option.getD_some]
 ·rw [List.getElem?_eq_none (by omega), List.getElem?_eq_none (by simp; omega)]; rfl
theorem zeros_not {n k : Nat} (h : k < zeros n) : ¬ (n + 1 + k) % 128 = 112 := by
 unfold zeros at h
 omega
theorem zeros_is (n : Nat) : (n + 1 + zeros n) % 128 = 112 := by
 unfold zeros
 omega
theorem zeros_lt (n : Nat) : zeros n < 128 := by
 unfold zeros
 omega
def pad1 (m : List Int) : List Int := (m ++ [128]) ++ List.replicate (zeros m.length) 0
theorem pad1_length (m : List Int) : (pad1 m).length = m.length + 1 + zeros m.length := by
 unfold pad1
 rw [List.length_append, List.length_append, List.length_replicate]
 rfl
theorem pad_eq (m : List Int) : pad m = pad1 m ++ (List.replicate 8 0 ++ lenB m.length) := rfl
theorem pad_length (m : List Int) : (pad m).length = m.length + 1 + zeros m.length + 16 := by
 rw [pad_eq, List.length_append, pad1_length]
 rfl
theorem pad_128 (m : List Int) : (pad m).length % 128 = 0 := by
 have := zeros_is m.length
 rw [pad_length]
 omega
theorem lenB_bytes (n : Nat) : IsBytes (lenB n) := by
 intro x hx
 unfold lenB at hx
 simp only [List.mem_cons, List.not_mem_nil, or_false] at hx
 rcases hx with rfl | rfl | rfl | rfl | rfl | rfl | rfl | rfl <;> exact ⟨Int.natCast_nonneg _, by omega⟩
theorem pad_bytes {m : List Int} (h : IsBytes m) : IsBytes (pad m) := by
 have hz : ∀ n, IsBytes (List.replicate n (0 : Int)) := fun n x hx => by rw [List.eq_of_mem_replicate hx]; exact ⟨Int.le_refl 0, by decide⟩
 exact ((h.append (IsBytes.cons ⟨by decide, by decide⟩ IsBytes.nil)).append (hz _)).append ((hz 8).append (lenB_bytes _))
theorem lenP {n : Nat} (hn : n ≤ 1099511627776) (k : Nat) (hk : k ≤ 56) : IntKind.u8.wrap (Int.fdiv (IntKind.u64.wrap (8 * IntKind.u64.wrap (n : Int))) (2 ^ k)) = ((8 * n / 2 ^ k % 256 : Nat) : Int) := by
 have e : IntKind.u64.wrap (8 * IntKind.u64.wrap (n : Int)) = ((8 * n : Nat) : Int) := by rw [IntKind.wrap_u64, IntKind.wrap_u64]; omega
 rw [e, IntKind.wrap_u8, Int.fdiv_eq_ediv_of_nonneg _ (Int.pow_nonneg (by decide)), show (2 : Int) ^ k = ((2 ^ k : Nat) : Int) by rw [Int.natCast_pow]; rfl, ← Int.natCast_ediv]
 omega
def sh8 (x : Int) : Nat → Int
 | 0 => x
 | k + 1 => IntKind.u64.wrap (sh8 x k * 2 ^ (min ((8 : Int)).toNat IntKind.u64.bits))
theorem sh8_eq (x : Nat) (hx : x < 18446744073709551616) : ∀ k, sh8 (x : Int) k = ((x * 256 ^ k % 18446744073709551616 : Nat) : Int)
 | 0 => by
  show (x : Int) = _
  rw [Nat.pow_zero, Nat.mul_one, Nat.mod_eq_of_lt hx]
 | k + 1 => by
  show IntKind.u64.wrap (sh8 (x : Int) k * 2 ^ (min ((8 : Int)).toNat IntKind.u64.bits)) = _
  rw [sh8_eq x hx k, show (2 : Int) ^ (min ((8 : Int)).toNat IntKind.u64.bits) = 256 by decide, IntKind.wrap_u64, Nat.pow_succ, ← Nat.mul_assoc]
  generalize x * 256 ^ k = y
  omega
theorem lenR {n : Nat} (hn : n ≤ 1099511627776) (k : Nat) (hk : k < 8) : IntKind.u8.wrap (Int.fdiv (sh8 (IntKind.u64.wrap (8 * IntKind.u64.wrap (n : Int))) k) (2 ^ 56)) = ((8 * n / 2 ^ (56 - 8 * k) % 256 : Nat) : Int) := by
 have e : IntKind.u64.wrap (8 * IntKind.u64.wrap (n : Int)) = ((8 * n : Nat) : Int) := by rw [IntKind.wrap_u64, IntKind.wrap_u64]; omega
 rw [e, sh8_eq _ (by omega), IntKind.wrap_u8, Int.fdiv_eq_ediv_of_nonneg _ (by decide)]
 obtain rfl | rfl | rfl | rfl | rfl | rfl | rfl | rfl : k = 0 ∨ k = 1 ∨ k = 2 ∨ k = 3 ∨ k = 4 ∨ k = 5 ∨ k = 6 ∨ k = 7 := by omega
 all_goals simp only [Nat.reducePow, Nat.reduceMul, Nat.reduceSub, Int.reducePow]
 all_goals omega
theorem pad_steps (m : List Int) {b0 b1 b2 b3 b4 b5 b6 b7 : Int} (hn : m.length ≤ 1099511627776) (f : Nat → Int) (h : [b0, b1, b2, b3, b4, b5, b6, b7] = lenB m.length) : (((((((((pad1 m ++ List.replicate 8 0) ++ [b0]) ++ [b1]) ++ [b2]) ++ [b3]) ++ [b4]) ++ [b5]) ++ [b6]) ++ [b7]) = pad m := by
 rw [pad_eq, ← h]
 simp only [List.append_assoc, List.cons_append, List.nil_append]
theorem lenB_P {n : Nat} (hn : n ≤ 1099511627776) : [IntKind.u8.wrap (Int.fdiv (IntKind.u64.wrap (8 * IntKind.u64.wrap (n : Int))) (2 ^ 56)), IntKind.u8.wrap (Int.fdiv (IntKind.u64.wrap (8 * IntKind.u64.wrap (n : Int))) (2 ^ 48)), IntKind.u8.wrap (Int.fdiv (IntKind.u64.wrap (8 * IntKind.u64.wrap (n : Int))) (2 ^ 40)), IntKind.u8.wrap (Int.fdiv (IntKind.u64.wrap (8 * IntKind.u64.wrap (n : Int))) (2 ^ 32)), IntKind.u8.wrap (Int.fdiv (IntKind.u64.wrap (8 * IntKind.u64.wrap (n : Int))) (2 ^ 24)), IntKind.u8.wrap (Int.fdiv (IntKind.u64.wrap (8 * IntKind.u64.wrap (n : Int))) (2 ^ 16)), IntKind.u8.wrap (Int.fdiv (IntKind.u64.wrap (8 * IntKind.u64.wrap (n : Int))) (2 ^ 8)), IntKind.u8.wrap (Int.fdiv (IntKind.u64.wrap (8 * IntKind.u64.wrap (n : Int))) (2 ^ 0))] = lenB n := by
 rw [lenP hn 56 (by decide), lenP hn 48 (by decide), lenP hn 40 (by decide), lenP hn 32 (by decide), lenP hn 24 (by decide), lenP hn 16 (by decide), lenP hn 8 (by decide), lenP hn 0 (by decide)]
 unfold lenB
 rw [Nat.pow_zero, Nat.div_one]
theorem lenB_R {n : Nat} (hn : n ≤ 1099511627776) {x : Int} (hx : x = IntKind.u64.wrap (8 * IntKind.u64.wrap (n : Int))) : [IntKind.u8.wrap (Int.fdiv (sh8 x 0) (2 ^ 56)), IntKind.u8.wrap (Int.fdiv (sh8 x 1) (2 ^ 56)), IntKind.u8.wrap (Int.fdiv (sh8 x 2) (2 ^ 56)), IntKind.u8.wrap (Int.fdiv (sh8 x 3) (2 ^ 56)), IntKind.u8.wrap (Int.fdiv (sh8 x 4) (2 ^ 56)), IntKind.u8.wrap (Int.fdiv (sh8 x 5) (2 ^ 56)), IntKind.u8.wrap (Int.fdiv (sh8 x 6) (2 ^ 56)), IntKind.u8.wrap (Int.fdiv (sh8 x 7) (2 ^ 56))] = lenB n := by
 rw [hx, lenR hn 0 (by decide), lenR hn 1 (by decide), lenR hn 2 (by decide), lenR hn 3 (by decide), lenR hn 4 (by decide), lenR hn 5 (by decide), lenR hn 6 (by decide), lenR hn 7 (by decide)]
 unfold lenB
 rw [show 56 - 8 * 7 = 0 from rfl, Nat.pow_zero, Nat.div_one]
theorem out_bytes (s : St) : IsBytes (out s) := by
 have hb : ∀ x n, 0 ≤ byteI x n ∧ byteI x n < 256 := fun x n => by unfold byteI; rw [IntKind.wrap_u8]; omega
 have hw : ∀ x, IsBytes (outW x) := fun x y hy => by
  unfold outW at hy
  simp only [List.mem_cons, List.not_mem_nil, or_false] at hy
  rcases hy with rfl | rfl | rfl | rfl | rfl | rfl | rfl | rfl <;> exact hb _ _
 exact (((((((hw _).append (hw _)).append (hw _)).append (hw _)).append (hw _)).append (hw _)).append (hw _)).append (hw _)
theorem sum_length (m : List Int) : (sum m).length = 64 := rfl
theorem sum_bytes (m : List Int) : IsBytes (sum m) := out_bytes _
theorem list64 {l : List Int} (h : l.length = 64) : l = (List.range 64).map fun i => l.getD i 0 := by
 apply List.ext_getElem?
 intro i
 simp only [List.getElem?_map, List.getD_eq_getElem?_getD]
 by_cases hi : i < 64
 ·rw [List.getElem?_range hi, Option.map_some, List.getElem?_eq_getElem (show i < l.length by omega), Option.getD_some]
 ·rw [List.getElem?_eq_none (by omega), List.getElem?_eq_none (by simp; omega)]; rfl
theorem and63 : ∀ k : Fin 64, 1 ≤ k.val → Go.bits .and .u64 (IntKind.u64.wrap (IntKind.i64.wrap (0 - ((k.val : Nat) : Int)))) 63 = ((64 - k.val : Nat) : Int) := by decide +kernel
end Go.Sha
namespace Go.Proofs.YtkckmpnkacdchaaDoor
open Go.RowKit Go.Num Go.Sx
abbrev JB0 : Blk := ⟨63, [(.sc (.int .u8 (.lit 0))), (.sc (.int .u8 (.lit 0))), (.sc (.int .u8 (.lit 0))), (.sc (.int .u8 (.lit 0))), (.sc (.int .u8 (.lit 0))), (.sc (.int .u8 (.lit 0))), (.sc (.int .u8 (.lit 0))), (.sc (.int .u8 (.lit 0))), (.sc (.int .u8 (.lit 0))), (.sc (.int .u8 (.lit 0))), (.sc (.int .u8 (.lit 0))), (.sc (.int .u8 (.lit 0))), (.sc (.int .u8 (.lit 0))), (.sc (.int .u8 (.lit 0))), (.sc (.int .u8 (.lit 0))), (.sc (.int .u8 (.lit 0))), (.sc (.int .u8 (.lit 0))), (.sc (.int .u8 (.lit 0))), (.sc (.int .u8 (.lit 0))), (.sc (.int .u8 (.lit 0))), (.sc (.int .u8 (.lit 0))), (.sc (.int .u8 (.lit 0))), (.sc (.int .u8 (.lit 0))), (.sc (.int .u8 (.lit 0))), (.sc (.int .u8 (.lit 0))), (.sc (.int .u8 (.lit 0))), (.sc (.int .u8 (.lit 0))), (.sc (.int .u8 (.lit 0))), (.sc (.int .u8 (.lit 0))), (.sc (.int .u8 (.lit 0))), (.sc (.int .u8 (.lit 0))), (.sc (.int .u8 (.lit 0))), (.sc (.int .u8 (.lit 0))), (.sc (.int .u8 (.lit 0))), (.sc (.int .u8 (.lit 0))), (.sc (.int .u8 (.lit 0))), (.sc (.int .u8 (.lit 0))), (.sc (.int .u8 (.lit 0))), (.sc (.int .u8 (.lit 0))), (.sc (.int .u8 (.lit 0))), (.sc (.int .u8 (.lit 0))), (.sc (.int .u8 (.lit 0))), (.sc (.int .u8 (.lit 0))), (.sc (.int .u8 (.lit 0))), (.sc (.int .u8 (.lit 0))), (.sc (.int .u8 (.lit 0))), (.sc (.int .u8 (.lit 0))), (.sc (.int .u8 (.lit 0))), (.sc (.int .u8 (.lit 0))), (.sc (.int .u8 (.lit 0))), (.sc (.int .u8 (.lit 0))), (.sc (.int .u8 (.lit 0))), (.sc (.int .u8 (.lit 0))), (.sc (.int .u8 (.lit 0))), (.sc (.int .u8 (.lit 0))), (.sc (.int .u8 (.lit 0))), (.sc (.int .u8 (.lit 0))), (.sc (.int .u8 (.lit 0))), (.sc (.int .u8 (.lit 0))), (.sc (.int .u8 (.lit 0))), (.sc (.int .u8 (.lit 0))), (.sc (.int .u8 (.lit 0))), (.sc (.int .u8 (.lit 0))), (.sc (.int .u8 (.lit 0)))], false, true, false, none⟩
abbrev JB1 : I := .app (.app (.app (.app (.app (.lvar 2) (.cons (.lit 0) (.cons (.lit 0) (.cons (.lit 0) (.cons (.lit 0) (.cons (.lit 0) (.cons (.lit 0) (.cons (.lit 0) (.cons (.lit 0) .nil))))))))) (.cons (.conv .u8 (.shr .u64 (.mul .u64 (.lit 8) (.conv .u64 (.len (.lvar 1)))) (.lit 56))) .nil)) (.cons (.conv .u8 (.shr .u64 (.mul .u64 (.lit 8) (.conv .u64 (.len (.lvar 1)))) (.lit 48))) .nil)) (.cons (.conv .u8 (.shr .u64 (.mul .u64 (.lit 8) (.conv .u64 (.len (.lvar 1)))) (.lit 40))) .nil)) (.cons (.conv .u8 (.shr .u64 (.mul .u64 (.lit 8) (.conv .u64 (.len (.lvar 1)))) (.lit 32))) .nil)
abbrev JB2 : I := .bit .or .u64 (.shl .u64 (.bit .or .u64 (.shl .u64 (.bit .or .u64 (.shl .u64 (.bit .or .u64 (.shl .u64 (.bit .or .u64 (.shl .u64 (.bit .or .u64 (.shl .u64 (.bit .or .u64 (.lit 0) (.conv .u64 (.var 120))) (.lit 8)) (.conv .u64 (.var 121))) (.lit 8)) (.conv .u64 (.var 122))) (.lit 8)) (.conv .u64 (.var 123))) (.lit 8)) (.conv .u64 (.var 124))) (.lit 8)) (.conv .u64 (.var 125))) (.lit 8)) (.conv .u64 (.var 126))
abbrev JB3 : I := .mul .u64 (.lit 8) (.conv .u64 (.len (.lvar 1)))
abbrev JB4 : I := .app (.lvar 2) (.cons (.lit 0) (.cons (.lit 0) (.cons (.lit 0) (.cons (.lit 0) (.cons (.lit 0) (.cons (.lit 0) (.cons (.lit 0) (.cons (.lit 0) .nil))))))))
abbrev JB5 : I := .add .u64 (.add .u64 (.var 145) (.bit .xor .u64 (.bit .xor .u64 (.var 147) (.var 148)) (.var 149))) (.bit .xor .u64 (.bit .and .u64 (.var 142) (.var 143)) (.bit .and .u64 (.bit .xor .u64 (.lit 18446744073709551615) (.var 142)) (.var 144)))
abbrev JB6 : List A := [(.sc (.n 7640891576956012808)), (.sc (.n 13503953896175478587)), (.sc (.n 4354685564936845355)), (.sc (.n 11912009170470909681)), (.sc (.n 5840696475078001361)), (.sc (.n 11170449401992604703)), (.sc (.n 2270897969802886507)), (.sc (.n 6620516959819538809))]
abbrev JB7 : I := .sum (.sum (.sum (.sum (.sum (.sum (.sum (.sum (.len (.lvar 2)) (.lit 8)) (.lit 1)) (.lit 1)) (.lit 1)) (.lit 1)) (.lit 1)) (.lit 1)) (.lit 1)
abbrev JB8 : I := .cons (.var 120) (.cons (.var 121) (.cons (.var 122) (.cons (.var 123) (.cons (.var 124) (.cons (.var 125) (.cons (.var 126) (.cons (.var 127) .nil)))))))
abbrev JB9 : I := .app (.app JB1 (.cons (.conv .u8 (.shr .u64 JB3 (.lit 24))) .nil)) (.cons (.conv .u8 (.shr .u64 JB3 (.lit 16))) .nil)
abbrev JB10 : Blk := ⟨96, [(.sc (.v 128)), (.sc (.v 129)), (.sc (.v 130)), (.sc (.v 131)), (.sc (.v 132)), (.sc (.v 133)), (.sc (.v 134)), (.sc (.v 135))], false, true, false, none⟩
abbrev JB11 : A := .sc (.int .i64 (.lit 15))
abbrev JB12 : Blk := ⟨96, [(.sc (.n 0)), (.sc (.n 0)), (.sc (.n 0)), (.sc (.n 0)), (.sc (.n 0)), (.sc (.n 0)), (.sc (.n 0)), (.sc (.n 0))], false, true, false, none⟩
abbrev JB13 : I := .add .u64 (.bit .xor .u64 (.bit .xor .u64 (.var 150) (.var 151)) (.var 152)) (.bit .xor .u64 (.bit .xor .u64 (.bit .and .u64 (.var 138) (.var 139)) (.bit .and .u64 (.var 138) (.var 140))) (.bit .and .u64 (.var 139) (.var 140)))
abbrev JB14 : A := .sc (.int .u64 (.conv .u64 (.len (.lvar 1))))
abbrev JB15 : A := .bsl 2 (.lit 0) (.len (.lvar 1)) true
abbrev JB16 : I := .app (.app JB4 (.cons (.conv .u8 (.shr .u64 JB3 (.lit 56))) .nil)) (.cons (.conv .u8 (.shr .u64 JB3 (.lit 48))) .nil)
abbrev JB17 : A := .agg [.n 7640891576956012808, .n 13503953896175478587, .n 4354685564936845355, .n 11912009170470909681, .n 5840696475078001361, .n 11170449401992604703, .n 2270897969802886507, .n 6620516959819538809]
abbrev JB18 : A := .sc (.int .i64 (.lit 8))
abbrev JB19 : I := .add .u64 (.add .u64 (.bit .xor .u64 (.bit .xor .u64 (.var 138) (.var 139)) (.shr .u64 (.get (.lvar 136) (.sub .i64 (.var 137) (.lit 2))) (.lit 6))) (.get (.lvar 136) (.sub .i64 (.var 137) (.lit 7)))) (.bit .xor .u64 (.bit .xor .u64 (.var 140) (.var 141)) (.shr .u64 (.get (.lvar 136) (.sub .i64 (.var 137) (.lit 15))) (.lit 7)))
abbrev JB20 : A := .sc (.int .u64 (.bit .or .u64 (.shl .u64 JB2 (.lit 8)) (.conv .u64 (.var 127))))
abbrev JB21 : A := .sc (.bool (.lit false))
abbrev JB22 : I := .cons (.conv .u8 (.shr .u64 JB3 (.lit 8))) .nil
abbrev JB23 : A := .agg [.v 128, .v 129, .v 130, .v 131, .v 132, .v 133, .v 134, .v 135]
abbrev JB24 : A := .sc (.int .u8 (.var 127))
abbrev JB25 : List (Option Nat) := [(some 0), (some 1), (some 2), (some 3), (some 4), (some 5), (some 6), (some 7), (some 8), (some 9), (some 10), (some 11), (some 12), (some 13), (some 14), (some 15), (some 16), (some 17), (some 18), (some 19), (some 20), (some 21), (some 22)]
abbrev JB26 : Blk := ⟨5, [], true, true, false, (some (.u8, (.cons (.lit 128) .nil)))⟩
abbrev JB27 : I := .get (.lvar 136) (.sub .i64 (.var 137) (.lit 2))
abbrev JB28 : A := .sc (.int .u64 (.get (.lvar 136) (.sub .i64 (.var 137) (.lit 15))))
abbrev JB29 : I := .conv .u8 (.shr .u64 JB3 (.lit 0))
abbrev JB30 : A := .sc (.int .i64 (.lit 16))
abbrev JB31 : A := .sc (.int .i64 (.lit 120))
abbrev JB32 : Blk := ⟨5, [], true, true, true, (some (.u8, (.lvar 1)))⟩
abbrev JB33 : Blk := ⟨105, [], false, true, false, (some (.u64, (.lvar 136)))⟩
abbrev JB34 : A := .sc (.int .i64 (.var 137))
abbrev JB35 : I := .cons (.conv .u8 (.shr .u64 JB3 (.lit 56))) .nil
abbrev JB36 : I := .cons (.conv .u8 (.shr .u64 JB3 (.lit 40))) .nil
abbrev JB37 : I := .cons (.conv .u8 (.shr .u64 JB3 (.lit 24))) .nil
abbrev JB38 : A := .bsl 4 (.lit 0) (.len (.lvar 2)) true
abbrev JB39 : A := .sc (.int .i64 (.var 1))
abbrev JB40 : Blk := ⟨96, [(.sc (.v 3)), (.sc (.v 4)), (.sc (.v 5)), (.sc (.v 6)), (.sc (.v 7)), (.sc (.v 8)), (.sc (.v 9)), (.sc (.v 10))], false, true, false, none⟩
abbrev JB41 : I := .sum (.len (.lvar 2)) (.lit 8)
abbrev JB42 : Blk := ⟨5, [], true, true, false, (some (.u8, (.cons (.conv .u8 (.shr .u64 JB3 (.lit 48))) .nil)))⟩
abbrev JB43 : Blk := ⟨5, [], true, true, false, (some (.u8, (.cons (.conv .u8 (.shr .u64 JB3 (.lit 32))) .nil)))⟩
abbrev JB44 : Blk := ⟨5, [], true, true, false, (some (.u8, (.cons (.conv .u8 (.shr .u64 JB3 (.lit 16))) .nil)))⟩
abbrev JB45 : A := .sc (.int .u64 (.shl .u64 JB2 (.lit 8)))
abbrev JB46 : A := .sc (.int .u64 (.conv .u64 (.var 127)))
abbrev JB47 : A := .sc (.int .i64 (.plen 0))
abbrev JB48 : Blk := ⟨5, [], true, true, false, (some (.u8, (.app (.app JB9 JB22) (.cons JB29 .nil))))⟩
abbrev JB49 : A := .sc (.int .i64 (.lit 7))
abbrev JB50 : A := .sc (.int .i64 (.len (.lvar 1)))
abbrev JB51 : I := .get (.lvar 136) (.var 146)
abbrev JB52 : Blk := ⟨5, [], true, true, true, (some (.u8, (.lvar 2)))⟩
abbrev JB53 : I := .sub .i64 (.var 137) (.lit 16)
abbrev JB54 : A := .bsl 3 (.lit 0) (.lit 1) true
abbrev JB55 : A := .bsl 21 (.var 11) (.var 12) false
abbrev JB56 : List (Option Nat) := [(some 0), (some 1), (some 2), (some 3)]
abbrev JB57 : Blk := ⟨5, [], true, true, false, (some (.u8, (.cons JB29 .nil)))⟩
abbrev JB58 : Blk := ⟨5, [], true, true, true, (some (.u8, (.app JB16 JB36)))⟩
abbrev JB59 : A := .sc (.int .i64 (.lit 128))
abbrev JB60 : I := .sub .i64 (.var 137) (.lit 15)
abbrev JB61 : Blk := ⟨5, [], true, true, true, (some (.u8, (.app JB9 JB22)))⟩
abbrev JB62 : Blk := ⟨5, [], true, true, true, (some (.u8, (.app JB4 JB35)))⟩
abbrev JB63 : Blk := ⟨5, [], true, true, true, (some (.u8, (.app JB1 JB37)))⟩
abbrev JB64 : I := .sub .i64 (.var 137) (.lit 7)
abbrev JB65 : A := .bsl 21 (.lit 0) (.sum JB7 (.lit 1)) true
abbrev JB66 : A := .sc (.int .i64 (.lit 0))
abbrev JB67 : A := .sc (.int .i64 (.var 146))
abbrev JB68 : I := .sum (.sum (.sum JB41 (.lit 1)) (.lit 1)) (.lit 1)
abbrev JB69 : Blk := ⟨5, [], true, true, false, (some (.u8, JB37))⟩
abbrev JB70 : Blk := ⟨5, [], true, true, false, (some (.u8, JB36))⟩
abbrev JB71 : Blk := ⟨5, [], true, true, false, (some (.u8, JB35))⟩
abbrev JB72 : Blk := ⟨5, [], true, true, false, (some (.u8, JB22))⟩
abbrev JB73 : Blk := ⟨5, [], true, true, true, (some (.u8, JB16))⟩
abbrev JB74 : A := .sc (.int .i64 (.var 2))
abbrev JB75 : Blk := ⟨5, [], true, true, true, (some (.u8, JB9))⟩
abbrev JB76 : Blk := ⟨5, [], true, true, true, (some (.u8, JB4))⟩
abbrev JB77 : Blk := ⟨5, [], true, true, true, (some (.u8, JB1))⟩
abbrev JB78 : I := .bit .and .u64 (.conv .u64 (.var 1)) (.lit 63)
abbrev JB79 : I := .add .i64 (.var 1) (.len (.item 0 (.var 2)))
abbrev JB80 : A := .sc (.int .u64 (.shr .u64 JB3 (.lit 0)))
abbrev JB81 : Bx := .cmp .lss (.var 146) (.lit 80)
abbrev JB82 : A := .sc (.int .u64 JB27)
abbrev JB83 : I := .sub .i64 (.var 137) (.lit 2)
abbrev JB84 : A := .sc (.bool (.lit true))
abbrev JB85 : A := .bsl 0 (.lit 0) (.len (.lvar 4)) true
abbrev JB86 : Blk := ⟨5, [], true, true, false, (some (.u8, (.lvar 4)))⟩
abbrev JB87 : Blk := ⟨5, [], true, true, false, (some (.u8, (.lvar 2)))⟩
abbrev JB88 : I := .bit .xor .u64 (.lit 18446744073709551615) (.var 142)
abbrev JB89 : I := .sub .i64 (.var 0) (.lit 0)
abbrev JB90 : I := .rem (.len (.lvar 2)) (.lit 128)
abbrev JB91 : I := .sum (.len (.lvar 4)) (.len (.item 0 (.var 5)))
abbrev JB92 : I := .bit .xor .u64 (.bit .and .u64 (.var 138) (.var 139)) (.bit .and .u64 (.var 138) (.var 140))
abbrev JB93 : A := .bsl 20 (.lit 0) (.lit 1) true
abbrev JB94 : I := .bit .xor .u64 (.bit .xor .u64 (.var 138) (.var 139)) (.shr .u64 JB27 (.lit 6))
abbrev JB95 : A := .sc (.int .i64 (.lit 56))
abbrev JB96 : A := .bsl 5 (.lit 0) JB41 true
abbrev JB97 : A := .bsl 19 (.lit 0) JB7 true
abbrev JB98 : I := .bit .xor .u64 (.var 147) (.var 148)
abbrev JB99 : A := .bsl 21 (.sum (.var 11) (.lit 128)) (.dif (.var 12) (.lit 128)) false
abbrev JB100 : A := .agg [.v 13, .v 14, .v 15, .v 16, .v 17, .v 18, .v 19, .v 20]
abbrev JB101 : I := .sum (.len (.lvar 2)) (.lit 1)
abbrev JB102 : I := .sum (.len (.lvar 1)) (.lit 1)
abbrev JB103 : Bx := .cmp .lss (.var 137) (.lit 80)
abbrev JB104 : A := .imm (.item 0 (.var 5)) none
abbrev JB105 : A := .imm (.item 0 (.var 2)) none
abbrev JB106 : Bx := .cmp .lss (.var 5) (.plen 0)
abbrev JB107 : Bx := .cmp .lss (.var 2) (.plen 0)
abbrev JB108 : A := .agg [.v 3, .v 4, .v 5, .v 6, .v 7, .v 8, .v 9, .v 10]
abbrev JB109 : List (Option Nat) := [(some 0), (some 1), (some 2), (some 3), (some 4)]
abbrev JB110 : A := .sc (.int .i64 (.add .i64 (.var 146) (.lit 1)))
abbrev JB111 : A := .sc (.int .i64 (.add .i64 (.var 137) (.lit 1)))
abbrev JB112 : A := .sc (.int .i64 (.var 5))
abbrev JB113 : A := .sc (.int .i64 (.add .i64 (.var 5) (.lit 1)))
abbrev JB114 : A := .sc (.int .i64 (.add .i64 (.var 2) (.lit 1)))
def v_first : Nat × List Int := (3, [7640891576956012808, 13503953896175478587, 4354685564936845355, 11912009170470909681, 5840696475078001361, 11170449401992604703, 2270897969802886507, 6620516959819538809])
def v_constants : Nat × List Int := (7, Sha.K)
abbrev envT (l r : List Int) (n : Nat) : Int := if n < 128 then l.getD n 0 else r.getD (n - 128) 0
def envS : List (Nat × List Int) → Nat → Int
 | [], _ => 0
 | (c, l) :: r, n => if n < c then l.getD n 0 else envS r (n - c)
abbrev arrW (W : List Int) : Value := .agg (W.map (Value.int .u64)).toArray
structure TS where
 ty : Nat → TypeId
 vs : List (Nat × List Int)
 first : v_first ∈ vs
 constants : v_constants ∈ vs
def LS (Ts : TS) : Laid := LV Ts.ty Ts.vs
abbrev shGs (Ts : TS) (l : List (Nat × List Int)) : List (Nat × Blk) := gsV Ts.ty l
theorem varsOkS (Ts : TS) (l : List (Nat × List Int)) (hs : ∀ x ∈ l, x ∈ Ts.vs) (hn : (l.map (·.1)).Nodup) : GsOk (LS Ts) (shGs Ts l) := varsOkV Ts.ty Ts.vs l hs hn
end Go.Proofs.YtkckmpnkacdchaaDoor
namespace Go.Proofs.YtkckmpnkacdchaaDoor
open Go.RowKit Go.Num Go.Sx
theorem rotl_run (x : Int) (m : Int) (k : Nat) (h1 : 1 ≤ k) (h2 : k ≤ 63) (hm : m = IntKind.i64.wrap (0 - (k : Int))) {r : Int} (hr : r = Sha.rotI x k) (w : World) : Calls Tryd.prog 103 #[.int .u64 x, .int .i64 m] w fun e w' => e = .returned (.int .u64 r) ∧ Below w.heap.size w w' := by
 have q1 : (Go.bits .and .u64 (IntKind.u64.wrap m) (63 : Int)) = ((64 - k : Nat) : Int) := by rw [hm]; exact Sha.and63 ⟨k, by omega⟩ h1
 have q2 : IntKind.u64.wrap (64 - ((64 - k : Nat) : Int)) = (k : Int) := by rw [IntKind.wrap_u64]; omega
 have hrun := calls_of_runG (P := Tryd.prog) (v := ⟨envI [x, m], envB [], envL [], envP [], L0, w⟩) (gs := []) (fuel := 3000) (nv := 2) (args := [(.sc (.v 0)), JB39]) (ora := []) (sums := []) (res := [(.sc (.int .u64 (.bit .or .u64 (.shl .u64 (.var 0) JB78) (.shr .u64 (.var 0) (.sub .u64 (.lit 64) JB78)))))]) (ev := [.dec (.cmp .lss JB78 (.lit 0)) false, .dec (.cmp .lss (.sub .u64 (.lit 64) JB78) (.lit 0)) false]) (lev := []) Tryd.func103 (by kernel_rfl) (by kernel_rfl)
  (evs_of ⟨?_, ?_, trivial⟩) (by simp) (GsOk.nil _) (Nat.zero_le _) trivial
 ·(refine calls_eq hrun ?_; rw [hr]; refine congrArg (Value.int .u64) ?_; show (Go.bits .or .u64 (IntKind.u64.wrap (x * 2 ^ (min ((Go.bits .and .u64 (IntKind.u64.wrap m) (63 : Int))).toNat IntKind.u64.bits))) (Int.fdiv x (2 ^ (min ((IntKind.u64.wrap ((64 : Int) - (Go.bits .and .u64 (IntKind.u64.wrap m) (63 : Int))))).toNat IntKind.u64.bits)))) = _; rw [q1, q2, Int.toNat_natCast, Int.toNat_natCast, Nat.min_eq_left (show 64 - k ≤ IntKind.u64.bits by show 64 - k ≤ 64; omega), Nat.min_eq_left (show k ≤ IntKind.u64.bits by show k ≤ 64; omega)]; exact Sha.or_comm _ _)
 ·(show decide ((Go.bits .and .u64 (IntKind.u64.wrap m) (63 : Int)) < 0) = false; rw [q1]; exact decide_eq_false (by omega))
 ·(show decide (IntKind.u64.wrap (64 - (Go.bits .and .u64 (IntKind.u64.wrap m) (63 : Int))) < 0) = false; rw [q1, q2]; exact decide_eq_false (by omega))
theorem rotl_c (x m : Int) (k : Nat) (h1 : 1 ≤ k) (h2 : k ≤ 63) (hm : m = IntKind.i64.wrap (0 - (k : Int))) {r : Int} (hr : r = Sha.rotI x k) : CallP Tryd.prog 103 #[.int .u64 x, .int .i64 m] (.int .u64 r) :=
 callP_of Tryd.func103 (by kernel_rfl) (by kernel_rfl) (fun w => rotl_run x m k h1 h2 hm hr w)
theorem right_run (x : Int) (n : Nat) (h1 : 1 ≤ n) (h2 : n ≤ 63) {r : Int} (hr : r = Sha.rotI x n) (w : World) : Calls Tryd.prog 96 #[.int .u64 x, .int .i64 (n : Nat)] w fun e w' => e = .returned (.int .u64 r) ∧ Below w.heap.size w w' := by
 have hrun := calls_of_runG (P := Tryd.prog) (v := ⟨envI [x, ((n : Nat) : Int), r], envB [], envL [], envP [], L0, w⟩) (gs := []) (fuel := 3000) (nv := 2) (args := [(.sc (.v 0)), JB39]) (ora := []) (sums := []) (res := [(.sc (.v 2))]) (ev := [.call 103 [(.sc (.v 0)), (.sc (.int .i64 (.sub .i64 (.lit 0) (.var 1))))] (.one (.sc (.v 2)))]) (lev := []) Tryd.func96 (by kernel_rfl) (by kernel_rfl)
  (evs_of ⟨?_, trivial⟩) (by simp) (GsOk.nil _) (Nat.zero_le _) trivial
 ·exact hrun
 ·exact CallP.g (rotl_c x _ n h1 h2 rfl hr)
theorem right_c (x : Int) (n : Nat) (h1 : 1 ≤ n) (h2 : n ≤ 63) {r : Int} (hr : r = Sha.rotI x n) : CallP Tryd.prog 96 #[.int .u64 x, .int .i64 (n : Nat)] (.int .u64 r) :=
 callP_of Tryd.func96 (by kernel_rfl) (by kernel_rfl) (fun w => right_run x n h1 h2 hr w)
theorem turned_run (x : Int) (n : Nat) (h1 : 1 ≤ n) (h2 : n ≤ 63) {r : Int} (hr : r = Sha.rotI x n) (w : World) : Calls Tryd.prog 102 #[.int .u64 x, .int .u64 (n : Nat)] w fun e w' => e = .returned (.int .u64 r) ∧ Below w.heap.size w w' := by
 have q2 : IntKind.u64.wrap ((64 : Int) - (n : Int)) = ((64 - n : Nat) : Int) := by rw [IntKind.wrap_u64]; omega
 have hrun := calls_of_runG (P := Tryd.prog) (v := ⟨envI [x, ((n : Nat) : Int)], envB [], envL [], envP [], L0, w⟩) (gs := []) (fuel := 3000) (nv := 2) (args := [(.sc (.v 0)), (.sc (.v 1))]) (ora := []) (sums := []) (res := [(.sc (.int .u64 (.bit .or .u64 (.shr .u64 (.var 0) (.var 1)) (.shl .u64 (.var 0) (.sub .u64 (.lit 64) (.var 1))))))]) (ev := [.dec (.cmp .lss (.var 1) (.lit 0)) false, .dec (.cmp .lss (.sub .u64 (.lit 64) (.var 1)) (.lit 0)) false]) (lev := []) Tryd.func102 (by kernel_rfl) (by kernel_rfl)
  (evs_of ⟨?_, ?_, trivial⟩) (by simp) (GsOk.nil _) (Nat.zero_le _) trivial
 ·(refine calls_eq hrun ?_; rw [hr]; refine congrArg (Value.int .u64) ?_; show (Go.bits .or .u64 (Int.fdiv x (2 ^ (min (((n : Nat) : Int)).toNat IntKind.u64.bits))) (IntKind.u64.wrap (x * 2 ^ (min ((IntKind.u64.wrap ((64 : Int) - ((n : Nat) : Int)))).toNat IntKind.u64.bits)))) = _; rw [q2, Int.toNat_natCast, Int.toNat_natCast, Nat.min_eq_left (show 64 - n ≤ IntKind.u64.bits by show 64 - n ≤ 64; omega), Nat.min_eq_left (show n ≤ IntKind.u64.bits by show n ≤ 64; omega)]; rfl)
 ·(show decide ((n : Int) < 0) = false; exact decide_eq_false (by omega))
 ·(show decide (IntKind.u64.wrap (64 - (n : Int)) < 0) = false; rw [q2]; exact decide_eq_false (by omega))
theorem turned_c (x : Int) (n : Nat) (h1 : 1 ≤ n) (h2 : n ≤ 63) {r : Int} (hr : r = Sha.rotI x n) : CallP Tryd.prog 102 #[.int .u64 x, .int .u64 (n : Nat)] (.int .u64 r) :=
 callP_of Tryd.func102 (by kernel_rfl) (by kernel_rfl) (fun w => turned_run x n h1 h2 hr w)
theorem rstart_run   (w : World) : Calls Tryd.prog 91 #[] w fun e w' => e = .returned (.agg #[.int .u64 Sha.start.a, .int .u64 Sha.start.b, .int .u64 Sha.start.c, .int .u64 Sha.start.d, .int .u64 Sha.start.e, .int .u64 Sha.start.f, .int .u64 Sha.start.g, .int .u64 Sha.start.h]) ∧ Below w.heap.size w w' := by
 have hrun := calls_of_runG (P := Tryd.prog) (v := ⟨envI [], envB [], envL [], envP [], L0, w⟩) (gs := []) (fuel := 3000) (nv := 0) (args := []) (ora := []) (sums := []) (res := [JB17]) (ev := []) (lev := []) Tryd.func91 (by kernel_rfl) (by kernel_rfl)
  (by simp) (by simp) (GsOk.nil _) (Nat.zero_le _) trivial
 ·(exact hrun)
theorem rstart_c {s : Sha.St} (hs : s = Sha.start) : CallP Tryd.prog 91 #[] (.agg #[.int .u64 s.a, .int .u64 s.b, .int .u64 s.c, .int .u64 s.d, .int .u64 s.e, .int .u64 s.f, .int .u64 s.g, .int .u64 s.h]) := by
 subst hs
 exact callP_of Tryd.func91 (by kernel_rfl) (by kernel_rfl) (fun w => rstart_run w)
theorem rk_run   (w : World) : Calls Tryd.prog 101 #[] w fun e w' => e = .returned (.agg (Sha.K.map (Value.int .u64)).toArray) ∧ Below w.heap.size w w' := by
 have hrun := calls_of_runG (P := Tryd.prog) (v := ⟨envI [], envB [], envL [], envP [], L0, w⟩) (gs := []) (fuel := 3000) (nv := 0) (args := []) (ora := []) (sums := []) (res := [(.agg [.n 4794697086780616226, .n 8158064640168781261, .n 13096744586834688815, .n 16840607885511220156, .n 4131703408338449720, .n 6480981068601479193, .n 10538285296894168987, .n 12329834152419229976, .n 15566598209576043074, .n 1334009975649890238, .n 2608012711638119052, .n 6128411473006802146, .n 8268148722764581231, .n 9286055187155687089, .n 11230858885718282805, .n 13951009754708518548, .n 16472876342353939154, .n 17275323862435702243, .n 1135362057144423861, .n 2597628984639134821, .n 3308224258029322869, .n 5365058923640841347, .n 6679025012923562964, .n 8573033837759648693, .n 10970295158949994411, .n 12119686244451234320, .n 12683024718118986047, .n 13788192230050041572, .n 14330467153632333762, .n 15395433587784984357, .n 489312712824947311, .n 1452737877330783856, .n 2861767655752347644, .n 3322285676063803686, .n 5560940570517711597, .n 5996557281743188959, .n 7280758554555802590, .n 8532644243296465576, .n 9350256976987008742, .n 10552545826968843579, .n 11727347734174303076, .n 12113106623233404929, .n 14000437183269869457, .n 14369950271660146224, .n 15101387698204529176, .n 15463397548674623760, .n 17586052441742319658, .n 1182934255886127544, .n 1847814050463011016, .n 2177327727835720531, .n 2830643537854262169, .n 3796741975233480872, .n 4115178125766777443, .n 5681478168544905931, .n 6601373596472566643, .n 7507060721942968483, .n 8399075790359081724, .n 8693463985226723168, .n 9568029438360202098, .n 10144078919501101548, .n 10430055236837252648, .n 11840083180663258601, .n 13761210420658862357, .n 14299343276471374635, .n 14566680578165727644, .n 15097957966210449927, .n 16922976911328602910, .n 17689382322260857208, .n 500013540394364858, .n 748580250866718886, .n 1242879168328830382, .n 1977374033974150939, .n 2944078676154940804, .n 3659926193048069267, .n 4368137639120453308, .n 4836135668995329356, .n 5532061633213252278, .n 6448918945643986474, .n 6902733635092675308, .n 7801388544844847127])]) (ev := []) (lev := []) Tryd.func101 (by kernel_rfl) (by kernel_rfl)
  (by simp) (by simp) (GsOk.nil _) (Nat.zero_le _) trivial
 ·(exact calls_eq hrun (by kernel_rfl))
theorem rk_c : CallP Tryd.prog 101 #[] (.agg (Sha.K.map (Value.int .u64)).toArray) := callP_of Tryd.func101 (by kernel_rfl) (by kernel_rfl) (fun w => rk_run w)
end Go.Proofs.YtkckmpnkacdchaaDoor
namespace Go.Proofs.YtkckmpnkacdchaaDoor
open Go.RowKit Go.Num Go.Sx
abbrev B128 : I := (.cons (.var 0)  (.cons (.var 1) (.cons (.var 2) (.cons (.var 3) (.cons (.var 4) (.cons (.var 5) (.cons (.var 6) (.cons (.var 7) (.cons (.var 8) (.cons (.var 9) (.cons (.var 10) (.cons (.var 11) (.cons (.var 12) (.cons (.var 13) (.cons (.var 14) (.cons (.var 15) (.cons (.var 16) (.cons (.var 17) (.cons (.var 18) (.cons (.var 19) (.cons (.var 20) (.cons (.var 21) (.cons (.var 22) (.cons (.var 23) (.cons (.var 24) (.cons (.var 25) (.cons (.var 26) (.cons (.var 27) (.cons (.var 28) (.cons (.var 29) (.cons (.var 30) (.cons (.var 31) (.cons (.var 32) (.cons (.var 33) (.cons (.var 34) (.cons (.var 35) (.cons (.var 36) (.cons (.var 37) (.cons (.var 38) (.cons (.var 39) (.cons (.var 40) (.cons (.var 41) (.cons (.var 42) (.cons (.var 43) (.cons (.var 44) (.cons (.var 45) (.cons (.var 46) (.cons (.var 47) (.cons (.var 48) (.cons (.var 49) (.cons (.var 50) (.cons (.var 51) (.cons (.var 52) (.cons (.var 53) (.cons (.var 54) (.cons (.var 55) (.cons (.var 56) (.cons (.var 57) (.cons (.var 58) (.cons (.var 59) (.cons (.var 60) (.cons (.var 61) (.cons (.var 62) (.cons (.var 63) (.cons (.var 64) (.cons (.var 65) (.cons (.var 66) (.cons (.var 67) (.cons (.var 68) (.cons (.var 69) (.cons (.var 70) (.cons (.var 71) (.cons (.var 72) (.cons (.var 73) (.cons (.var 74) (.cons (.var 75) (.cons (.var 76) (.cons (.var 77) (.cons (.var 78) (.cons (.var 79) (.cons (.var 80) (.cons (.var 81) (.cons (.var 82) (.cons (.var 83) (.cons (.var 84) (.cons (.var 85) (.cons (.var 86) (.cons (.var 87) (.cons (.var 88) (.cons (.var 89) (.cons (.var 90) (.cons (.var 91) (.cons (.var 92) (.cons (.var 93) (.cons (.var 94) (.cons (.var 95) (.cons (.var 96) (.cons (.var 97) (.cons (.var 98) (.cons (.var 99) (.cons (.var 100) (.cons (.var 101) (.cons (.var 102) (.cons (.var 103) (.cons (.var 104) (.cons (.var 105) (.cons (.var 106) (.cons (.var 107) (.cons (.var 108) (.cons (.var 109) (.cons (.var 110) (.cons (.var 111) (.cons (.var 112) (.cons (.var 113) (.cons (.var 114) (.cons (.var 115) (.cons (.var 116) (.cons (.var 117) (.cons (.var 118) (.cons (.var 119) JB8))))))))))))))))))))))))))))))))))))))))))))))))))))))))))))))))))))))))))))))))))))))))))))))))))))))))))))))))))))))))
abbrev K80 : I := (.cons (.lit 4794697086780616226)  (.cons (.lit 8158064640168781261) (.cons (.lit 13096744586834688815) (.cons (.lit 16840607885511220156) (.cons (.lit 4131703408338449720) (.cons (.lit 6480981068601479193) (.cons (.lit 10538285296894168987) (.cons (.lit 12329834152419229976) (.cons (.lit 15566598209576043074) (.cons (.lit 1334009975649890238) (.cons (.lit 2608012711638119052) (.cons (.lit 6128411473006802146) (.cons (.lit 8268148722764581231) (.cons (.lit 9286055187155687089) (.cons (.lit 11230858885718282805) (.cons (.lit 13951009754708518548) (.cons (.lit 16472876342353939154) (.cons (.lit 17275323862435702243) (.cons (.lit 1135362057144423861) (.cons (.lit 2597628984639134821) (.cons (.lit 3308224258029322869) (.cons (.lit 5365058923640841347) (.cons (.lit 6679025012923562964) (.cons (.lit 8573033837759648693) (.cons (.lit 10970295158949994411) (.cons (.lit 12119686244451234320) (.cons (.lit 12683024718118986047) (.cons (.lit 13788192230050041572) (.cons (.lit 14330467153632333762) (.cons (.lit 15395433587784984357) (.cons (.lit 489312712824947311) (.cons (.lit 1452737877330783856) (.cons (.lit 2861767655752347644) (.cons (.lit 3322285676063803686) (.cons (.lit 5560940570517711597) (.cons (.lit 5996557281743188959) (.cons (.lit 7280758554555802590) (.cons (.lit 8532644243296465576) (.cons (.lit 9350256976987008742) (.cons (.lit 10552545826968843579) (.cons (.lit 11727347734174303076) (.cons (.lit 12113106623233404929) (.cons (.lit 14000437183269869457) (.cons (.lit 14369950271660146224) (.cons (.lit 15101387698204529176) (.cons (.lit 15463397548674623760) (.cons (.lit 17586052441742319658) (.cons (.lit 1182934255886127544) (.cons (.lit 1847814050463011016) (.cons (.lit 2177327727835720531) (.cons (.lit 2830643537854262169) (.cons (.lit 3796741975233480872) (.cons (.lit 4115178125766777443) (.cons (.lit 5681478168544905931) (.cons (.lit 6601373596472566643) (.cons (.lit 7507060721942968483) (.cons (.lit 8399075790359081724) (.cons (.lit 8693463985226723168) (.cons (.lit 9568029438360202098) (.cons (.lit 10144078919501101548) (.cons (.lit 10430055236837252648) (.cons (.lit 11840083180663258601) (.cons (.lit 13761210420658862357) (.cons (.lit 14299343276471374635) (.cons (.lit 14566680578165727644) (.cons (.lit 15097957966210449927) (.cons (.lit 16922976911328602910) (.cons (.lit 17689382322260857208) (.cons (.lit 500013540394364858) (.cons (.lit 748580250866718886) (.cons (.lit 1242879168328830382) (.cons (.lit 1977374033974150939) (.cons (.lit 2944078676154940804) (.cons (.lit 3659926193048069267) (.cons (.lit 4368137639120453308) (.cons (.lit 4836135668995329356) (.cons (.lit 5532061633213252278) (.cons (.lit 6448918945643986474) (.cons (.lit 6902733635092675308) (.cons (.lit 7801388544844847127) .nil))))))))))))))))))))))))))))))))))))))))))))))))))))))))))))))))))))))))))))))))
abbrev KC : List A := [ (.sc (.n 4794697086780616226)), (.sc (.n 8158064640168781261)), (.sc (.n 13096744586834688815)), (.sc (.n 16840607885511220156)), (.sc (.n 4131703408338449720)), (.sc (.n 6480981068601479193)), (.sc (.n 10538285296894168987)), (.sc (.n 12329834152419229976)), (.sc (.n 15566598209576043074)), (.sc (.n 1334009975649890238)), (.sc (.n 2608012711638119052)), (.sc (.n 6128411473006802146)), (.sc (.n 8268148722764581231)), (.sc (.n 9286055187155687089)), (.sc (.n 11230858885718282805)), (.sc (.n 13951009754708518548)), (.sc (.n 16472876342353939154)), (.sc (.n 17275323862435702243)), (.sc (.n 1135362057144423861)), (.sc (.n 2597628984639134821)), (.sc (.n 3308224258029322869)), (.sc (.n 5365058923640841347)), (.sc (.n 6679025012923562964)), (.sc (.n 8573033837759648693)), (.sc (.n 10970295158949994411)), (.sc (.n 12119686244451234320)), (.sc (.n 12683024718118986047)), (.sc (.n 13788192230050041572)), (.sc (.n 14330467153632333762)), (.sc (.n 15395433587784984357)), (.sc (.n 489312712824947311)), (.sc (.n 1452737877330783856)), (.sc (.n 2861767655752347644)), (.sc (.n 3322285676063803686)), (.sc (.n 5560940570517711597)), (.sc (.n 5996557281743188959)), (.sc (.n 7280758554555802590)), (.sc (.n 8532644243296465576)), (.sc (.n 9350256976987008742)), (.sc (.n 10552545826968843579)), (.sc (.n 11727347734174303076)), (.sc (.n 12113106623233404929)), (.sc (.n 14000437183269869457)), (.sc (.n 14369950271660146224)), (.sc (.n 15101387698204529176)), (.sc (.n 15463397548674623760)), (.sc (.n 17586052441742319658)), (.sc (.n 1182934255886127544)), (.sc (.n 1847814050463011016)), (.sc (.n 2177327727835720531)), (.sc (.n 2830643537854262169)), (.sc (.n 3796741975233480872)), (.sc (.n 4115178125766777443)), (.sc (.n 5681478168544905931)), (.sc (.n 6601373596472566643)), (.sc (.n 7507060721942968483)), (.sc (.n 8399075790359081724)), (.sc (.n 8693463985226723168)), (.sc (.n 9568029438360202098)), (.sc (.n 10144078919501101548)), (.sc (.n 10430055236837252648)), (.sc (.n 11840083180663258601)), (.sc (.n 13761210420658862357)), (.sc (.n 14299343276471374635)), (.sc (.n 14566680578165727644)), (.sc (.n 15097957966210449927)), (.sc (.n 16922976911328602910)), (.sc (.n 17689382322260857208)), (.sc (.n 500013540394364858)), (.sc (.n 748580250866718886)), (.sc (.n 1242879168328830382)), (.sc (.n 1977374033974150939)), (.sc (.n 2944078676154940804)), (.sc (.n 3659926193048069267)), (.sc (.n 4368137639120453308)), (.sc (.n 4836135668995329356)), (.sc (.n 5532061633213252278)), (.sc (.n 6448918945643986474)), (.sc (.n 6902733635092675308)), (.sc (.n 7801388544844847127))]
abbrev sched_env (Ts : TS) (w : World) (s : Sha.St) (l : List Int) (W : List Int) (t : Int) : Env := ⟨envT l ([s.a, s.b, s.c, s.d, s.e, s.f, s.g, s.h, 0, t] : List Int), fun n => ([] : List Bool).getD n false, fun n => ([W] : List (List Int)).getD (n - 136) [], fun n => ([] : List (List (List Int))).getD n [], LS Ts, w⟩
abbrev sched_head (Ts : TS) : Fm := ⟨[(.one JB23), (.one (.imm B128 none)), (.one (.ptr 1 0)), .undef, (.one (.ptr 2 0)), (.one (.ptr 3 0)), (.one JB11), .undef, (.one JB24), (.one JB34), .undef, .undef, .undef, .undef, .undef, .undef, .undef, .undef, .undef, .undef, .undef, .undef, .undef, (.one JB30), (.one JB21), (.one JB11), (.one (.imm B128 none)), (.one JB11), (.one JB31), (.one JB11), (.one JB31), (.one JB59), (.one (.imm JB8 none)), (.one JB18), (.one JB18), (.one JB21), (.one (.immp (.var 127))), (.one JB24), (.one JB11), (.one JB11), (.one (.ptr 3 15)), (.one (.sc (.int .u64 JB2))), (.one JB45), (.one JB24), (.one JB46), (.one JB20), (.one (.ptr 3 15)), (.one JB18), (.one JB30), .undef, .undef, .undef, .undef, .undef, .undef, .undef, .undef, .undef, .undef, .undef, .undef, .undef, .undef, .undef, .undef, .undef, .undef, .undef, .undef, .undef, .undef, .undef, .undef, .undef, .undef, .undef, .undef, .undef, .undef, .undef, .undef, .undef, .undef, .undef, .undef, .undef, .undef, .undef, .undef, .undef, .undef, .undef, .undef, .undef, .undef, .undef, .undef, .undef, .undef, .undef, .undef, .undef, .undef, .undef, .undef, .undef, .undef, .undef, .undef, .undef, .undef, .undef, .undef, .undef, .undef, .undef, .undef, .undef, .undef, .undef, .undef, .undef, .undef, .undef, .undef, .undef, .undef, .undef, .undef, .undef, .undef, .undef, .undef, .undef, .undef, .undef, .undef, .undef, .undef, .undef, .undef, .undef, .undef, .undef, .undef, .undef, .undef, .undef, .undef, .undef, .undef, .undef, .undef, .undef, .undef, .undef, .undef, .undef, .undef, .undef, .undef, .undef, .undef, .undef, .undef, .undef, .undef, .undef, .undef, .undef, .undef, .undef, .undef, .undef, .undef, .undef, .undef, .undef, .undef, .undef, .undef, .undef, .undef, .undef, .undef, .undef, .undef, .undef, .undef, .undef, .undef, .undef, .undef, .undef, .undef, .undef, .undef, .undef, .undef, .undef, .undef, .undef], [⟨Ts.ty 7, KC, false, false, false, none⟩, JB10, JB12, JB33], [(7, 0)]⟩
abbrev sched_pre (Ts : TS) : Fm := ⟨[(.one JB23), (.one (.imm B128 none)), (.one (.ptr 1 0)), .undef, (.one (.ptr 2 0)), (.one (.ptr 3 0)), (.one JB11), .undef, (.one JB24), (.one JB30), .undef, .undef, .undef, .undef, .undef, .undef, .undef, .undef, .undef, .undef, .undef, .undef, .undef, (.one JB30), (.one JB21), (.one JB11), (.one (.imm B128 none)), (.one JB11), (.one JB31), (.one JB11), (.one JB31), (.one JB59), (.one (.imm JB8 none)), (.one JB18), (.one JB18), (.one JB21), (.one (.immp (.var 127))), (.one JB24), (.one JB11), (.one JB11), (.one (.ptr 3 15)), (.one (.sc (.int .u64 JB2))), (.one JB45), (.one JB24), (.one JB46), (.one JB20), (.one (.ptr 3 15)), (.one JB18), (.one JB30), .undef, .undef, .undef, .undef, .undef, .undef, .undef, .undef, .undef, .undef, .undef, .undef, .undef, .undef, .undef, .undef, .undef, .undef, .undef, .undef, .undef, .undef, .undef, .undef, .undef, .undef, .undef, .undef, .undef, .undef, .undef, .undef, .undef, .undef, .undef, .undef, .undef, .undef, .undef, .undef, .undef, .undef, .undef, .undef, .undef, .undef, .undef, .undef, .undef, .undef, .undef, .undef, .undef, .undef, .undef, .undef, .undef, .undef, .undef, .undef, .undef, .undef, .undef, .undef, .undef, .undef, .undef, .undef, .undef, .undef, .undef, .undef, .undef, .undef, .undef, .undef, .undef, .undef, .undef, .undef, .undef, .undef, .undef, .undef, .undef, .undef, .undef, .undef, .undef, .undef, .undef, .undef, .undef, .undef, .undef, .undef, .undef, .undef, .undef, .undef, .undef, .undef, .undef, .undef, .undef, .undef, .undef, .undef, .undef, .undef, .undef, .undef, .undef, .undef, .undef, .undef, .undef, .undef, .undef, .undef, .undef, .undef, .undef, .undef, .undef, .undef, .undef, .undef, .undef, .undef, .undef, .undef, .undef, .undef, .undef, .undef, .undef, .undef, .undef, .undef, .undef, .undef, .undef, .undef, .undef, .undef, .undef, .undef, .undef, .undef, .undef, .undef, .undef], [⟨Ts.ty 7, KC, false, false, false, none⟩, JB10, JB12, ⟨105, [(.sc (.int .u64 (.bit .or .u64 (.shl .u64 (.bit .or .u64 (.shl .u64 (.bit .or .u64 (.shl .u64 (.bit .or .u64 (.shl .u64 (.bit .or .u64 (.shl .u64 (.bit .or .u64 (.shl .u64 (.bit .or .u64 (.shl .u64 (.bit .or .u64 (.lit 0) (.conv .u64 (.var 0))) (.lit 8)) (.conv .u64 (.var 1))) (.lit 8)) (.conv .u64 (.var 2))) (.lit 8)) (.conv .u64 (.var 3))) (.lit 8)) (.conv .u64 (.var 4))) (.lit 8)) (.conv .u64 (.var 5))) (.lit 8)) (.conv .u64 (.var 6))) (.lit 8)) (.conv .u64 (.var 7))))), (.sc (.int .u64 (.bit .or .u64 (.shl .u64 (.bit .or .u64 (.shl .u64 (.bit .or .u64 (.shl .u64 (.bit .or .u64 (.shl .u64 (.bit .or .u64 (.shl .u64 (.bit .or .u64 (.shl .u64 (.bit .or .u64 (.shl .u64 (.bit .or .u64 (.lit 0) (.conv .u64 (.var 8))) (.lit 8)) (.conv .u64 (.var 9))) (.lit 8)) (.conv .u64 (.var 10))) (.lit 8)) (.conv .u64 (.var 11))) (.lit 8)) (.conv .u64 (.var 12))) (.lit 8)) (.conv .u64 (.var 13))) (.lit 8)) (.conv .u64 (.var 14))) (.lit 8)) (.conv .u64 (.var 15))))), (.sc (.int .u64 (.bit .or .u64 (.shl .u64 (.bit .or .u64 (.shl .u64 (.bit .or .u64 (.shl .u64 (.bit .or .u64 (.shl .u64 (.bit .or .u64 (.shl .u64 (.bit .or .u64 (.shl .u64 (.bit .or .u64 (.shl .u64 (.bit .or .u64 (.lit 0) (.conv .u64 (.var 16))) (.lit 8)) (.conv .u64 (.var 17))) (.lit 8)) (.conv .u64 (.var 18))) (.lit 8)) (.conv .u64 (.var 19))) (.lit 8)) (.conv .u64 (.var 20))) (.lit 8)) (.conv .u64 (.var 21))) (.lit 8)) (.conv .u64 (.var 22))) (.lit 8)) (.conv .u64 (.var 23))))), (.sc (.int .u64 (.bit .or .u64 (.shl .u64 (.bit .or .u64 (.shl .u64 (.bit .or .u64 (.shl .u64 (.bit .or .u64 (.shl .u64 (.bit .or .u64 (.shl .u64 (.bit .or .u64 (.shl .u64 (.bit .or .u64 (.shl .u64 (.bit .or .u64 (.lit 0) (.conv .u64 (.var 24))) (.lit 8)) (.conv .u64 (.var 25))) (.lit 8)) (.conv .u64 (.var 26))) (.lit 8)) (.conv .u64 (.var 27))) (.lit 8)) (.conv .u64 (.var 28))) (.lit 8)) (.conv .u64 (.var 29))) (.lit 8)) (.conv .u64 (.var 30))) (.lit 8)) (.conv .u64 (.var 31))))), (.sc (.int .u64 (.bit .or .u64 (.shl .u64 (.bit .or .u64 (.shl .u64 (.bit .or .u64 (.shl .u64 (.bit .or .u64 (.shl .u64 (.bit .or .u64 (.shl .u64 (.bit .or .u64 (.shl .u64 (.bit .or .u64 (.shl .u64 (.bit .or .u64 (.lit 0) (.conv .u64 (.var 32))) (.lit 8)) (.conv .u64 (.var 33))) (.lit 8)) (.conv .u64 (.var 34))) (.lit 8)) (.conv .u64 (.var 35))) (.lit 8)) (.conv .u64 (.var 36))) (.lit 8)) (.conv .u64 (.var 37))) (.lit 8)) (.conv .u64 (.var 38))) (.lit 8)) (.conv .u64 (.var 39))))), (.sc (.int .u64 (.bit .or .u64 (.shl .u64 (.bit .or .u64 (.shl .u64 (.bit .or .u64 (.shl .u64 (.bit .or .u64 (.shl .u64 (.bit .or .u64 (.shl .u64 (.bit .or .u64 (.shl .u64 (.bit .or .u64 (.shl .u64 (.bit .or .u64 (.lit 0) (.conv .u64 (.var 40))) (.lit 8)) (.conv .u64 (.var 41))) (.lit 8)) (.conv .u64 (.var 42))) (.lit 8)) (.conv .u64 (.var 43))) (.lit 8)) (.conv .u64 (.var 44))) (.lit 8)) (.conv .u64 (.var 45))) (.lit 8)) (.conv .u64 (.var 46))) (.lit 8)) (.conv .u64 (.var 47))))), (.sc (.int .u64 (.bit .or .u64 (.shl .u64 (.bit .or .u64 (.shl .u64 (.bit .or .u64 (.shl .u64 (.bit .or .u64 (.shl .u64 (.bit .or .u64 (.shl .u64 (.bit .or .u64 (.shl .u64 (.bit .or .u64 (.shl .u64 (.bit .or .u64 (.lit 0) (.conv .u64 (.var 48))) (.lit 8)) (.conv .u64 (.var 49))) (.lit 8)) (.conv .u64 (.var 50))) (.lit 8)) (.conv .u64 (.var 51))) (.lit 8)) (.conv .u64 (.var 52))) (.lit 8)) (.conv .u64 (.var 53))) (.lit 8)) (.conv .u64 (.var 54))) (.lit 8)) (.conv .u64 (.var 55))))), (.sc (.int .u64 (.bit .or .u64 (.shl .u64 (.bit .or .u64 (.shl .u64 (.bit .or .u64 (.shl .u64 (.bit .or .u64 (.shl .u64 (.bit .or .u64 (.shl .u64 (.bit .or .u64 (.shl .u64 (.bit .or .u64 (.shl .u64 (.bit .or .u64 (.lit 0) (.conv .u64 (.var 56))) (.lit 8)) (.conv .u64 (.var 57))) (.lit 8)) (.conv .u64 (.var 58))) (.lit 8)) (.conv .u64 (.var 59))) (.lit 8)) (.conv .u64 (.var 60))) (.lit 8)) (.conv .u64 (.var 61))) (.lit 8)) (.conv .u64 (.var 62))) (.lit 8)) (.conv .u64 (.var 63))))), (.sc (.int .u64 (.bit .or .u64 (.shl .u64 (.bit .or .u64 (.shl .u64 (.bit .or .u64 (.shl .u64 (.bit .or .u64 (.shl .u64 (.bit .or .u64 (.shl .u64 (.bit .or .u64 (.shl .u64 (.bit .or .u64 (.shl .u64 (.bit .or .u64 (.lit 0) (.conv .u64 (.var 64))) (.lit 8)) (.conv .u64 (.var 65))) (.lit 8)) (.conv .u64 (.var 66))) (.lit 8)) (.conv .u64 (.var 67))) (.lit 8)) (.conv .u64 (.var 68))) (.lit 8)) (.conv .u64 (.var 69))) (.lit 8)) (.conv .u64 (.var 70))) (.lit 8)) (.conv .u64 (.var 71))))), (.sc (.int .u64 (.bit .or .u64 (.shl .u64 (.bit .or .u64 (.shl .u64 (.bit .or .u64 (.shl .u64 (.bit .or .u64 (.shl .u64 (.bit .or .u64 (.shl .u64 (.bit .or .u64 (.shl .u64 (.bit .or .u64 (.shl .u64 (.bit .or .u64 (.lit 0) (.conv .u64 (.var 72))) (.lit 8)) (.conv .u64 (.var 73))) (.lit 8)) (.conv .u64 (.var 74))) (.lit 8)) (.conv .u64 (.var 75))) (.lit 8)) (.conv .u64 (.var 76))) (.lit 8)) (.conv .u64 (.var 77))) (.lit 8)) (.conv .u64 (.var 78))) (.lit 8)) (.conv .u64 (.var 79))))), (.sc (.int .u64 (.bit .or .u64 (.shl .u64 (.bit .or .u64 (.shl .u64 (.bit .or .u64 (.shl .u64 (.bit .or .u64 (.shl .u64 (.bit .or .u64 (.shl .u64 (.bit .or .u64 (.shl .u64 (.bit .or .u64 (.shl .u64 (.bit .or .u64 (.lit 0) (.conv .u64 (.var 80))) (.lit 8)) (.conv .u64 (.var 81))) (.lit 8)) (.conv .u64 (.var 82))) (.lit 8)) (.conv .u64 (.var 83))) (.lit 8)) (.conv .u64 (.var 84))) (.lit 8)) (.conv .u64 (.var 85))) (.lit 8)) (.conv .u64 (.var 86))) (.lit 8)) (.conv .u64 (.var 87))))), (.sc (.int .u64 (.bit .or .u64 (.shl .u64 (.bit .or .u64 (.shl .u64 (.bit .or .u64 (.shl .u64 (.bit .or .u64 (.shl .u64 (.bit .or .u64 (.shl .u64 (.bit .or .u64 (.shl .u64 (.bit .or .u64 (.shl .u64 (.bit .or .u64 (.lit 0) (.conv .u64 (.var 88))) (.lit 8)) (.conv .u64 (.var 89))) (.lit 8)) (.conv .u64 (.var 90))) (.lit 8)) (.conv .u64 (.var 91))) (.lit 8)) (.conv .u64 (.var 92))) (.lit 8)) (.conv .u64 (.var 93))) (.lit 8)) (.conv .u64 (.var 94))) (.lit 8)) (.conv .u64 (.var 95))))), (.sc (.int .u64 (.bit .or .u64 (.shl .u64 (.bit .or .u64 (.shl .u64 (.bit .or .u64 (.shl .u64 (.bit .or .u64 (.shl .u64 (.bit .or .u64 (.shl .u64 (.bit .or .u64 (.shl .u64 (.bit .or .u64 (.shl .u64 (.bit .or .u64 (.lit 0) (.conv .u64 (.var 96))) (.lit 8)) (.conv .u64 (.var 97))) (.lit 8)) (.conv .u64 (.var 98))) (.lit 8)) (.conv .u64 (.var 99))) (.lit 8)) (.conv .u64 (.var 100))) (.lit 8)) (.conv .u64 (.var 101))) (.lit 8)) (.conv .u64 (.var 102))) (.lit 8)) (.conv .u64 (.var 103))))), (.sc (.int .u64 (.bit .or .u64 (.shl .u64 (.bit .or .u64 (.shl .u64 (.bit .or .u64 (.shl .u64 (.bit .or .u64 (.shl .u64 (.bit .or .u64 (.shl .u64 (.bit .or .u64 (.shl .u64 (.bit .or .u64 (.shl .u64 (.bit .or .u64 (.lit 0) (.conv .u64 (.var 104))) (.lit 8)) (.conv .u64 (.var 105))) (.lit 8)) (.conv .u64 (.var 106))) (.lit 8)) (.conv .u64 (.var 107))) (.lit 8)) (.conv .u64 (.var 108))) (.lit 8)) (.conv .u64 (.var 109))) (.lit 8)) (.conv .u64 (.var 110))) (.lit 8)) (.conv .u64 (.var 111))))), (.sc (.int .u64 (.bit .or .u64 (.shl .u64 (.bit .or .u64 (.shl .u64 (.bit .or .u64 (.shl .u64 (.bit .or .u64 (.shl .u64 (.bit .or .u64 (.shl .u64 (.bit .or .u64 (.shl .u64 (.bit .or .u64 (.shl .u64 (.bit .or .u64 (.lit 0) (.conv .u64 (.var 112))) (.lit 8)) (.conv .u64 (.var 113))) (.lit 8)) (.conv .u64 (.var 114))) (.lit 8)) (.conv .u64 (.var 115))) (.lit 8)) (.conv .u64 (.var 116))) (.lit 8)) (.conv .u64 (.var 117))) (.lit 8)) (.conv .u64 (.var 118))) (.lit 8)) (.conv .u64 (.var 119))))), JB20, (.sc (.n 0)), (.sc (.n 0)), (.sc (.n 0)), (.sc (.n 0)), (.sc (.n 0)), (.sc (.n 0)), (.sc (.n 0)), (.sc (.n 0)), (.sc (.n 0)), (.sc (.n 0)), (.sc (.n 0)), (.sc (.n 0)), (.sc (.n 0)), (.sc (.n 0)), (.sc (.n 0)), (.sc (.n 0)), (.sc (.n 0)), (.sc (.n 0)), (.sc (.n 0)), (.sc (.n 0)), (.sc (.n 0)), (.sc (.n 0)), (.sc (.n 0)), (.sc (.n 0)), (.sc (.n 0)), (.sc (.n 0)), (.sc (.n 0)), (.sc (.n 0)), (.sc (.n 0)), (.sc (.n 0)), (.sc (.n 0)), (.sc (.n 0)), (.sc (.n 0)), (.sc (.n 0)), (.sc (.n 0)), (.sc (.n 0)), (.sc (.n 0)), (.sc (.n 0)), (.sc (.n 0)), (.sc (.n 0)), (.sc (.n 0)), (.sc (.n 0)), (.sc (.n 0)), (.sc (.n 0)), (.sc (.n 0)), (.sc (.n 0)), (.sc (.n 0)), (.sc (.n 0)), (.sc (.n 0)), (.sc (.n 0)), (.sc (.n 0)), (.sc (.n 0)), (.sc (.n 0)), (.sc (.n 0)), (.sc (.n 0)), (.sc (.n 0)), (.sc (.n 0)), (.sc (.n 0)), (.sc (.n 0)), (.sc (.n 0)), (.sc (.n 0)), (.sc (.n 0)), (.sc (.n 0)), (.sc (.n 0))], false, true, false, none⟩], [(7, 0)]⟩
theorem sched_more (w : World) (s : Sha.St) (l : List Int) (Ts : TS) (W : List Int) (t : Int) (h0 : 16 ≤ t) (h1 : t < 80) (hW : W.length = 80) : Round Tryd.prog (loopOf Tryd.f85 2) (sched_head Ts) (sched_env Ts w s l W t) .normal (sched_head Ts) (sched_env Ts w s l (Sha.sched W t.toNat) (t + 1)) := by
 obtain ⟨r1, hr1⟩ : ∃ r : Int, r = Sha.rotI (W.getD ((IntKind.i64.wrap (t - (2 : Int)))).toNat 0) 19 := ⟨_, rfl⟩
 obtain ⟨r2, hr2⟩ : ∃ r : Int, r = Sha.rotI (W.getD ((IntKind.i64.wrap (t - (2 : Int)))).toNat 0) 61 := ⟨_, rfl⟩
 obtain ⟨r3, hr3⟩ : ∃ r : Int, r = Sha.rotI (W.getD ((IntKind.i64.wrap (t - (15 : Int)))).toNat 0) 1 := ⟨_, rfl⟩
 obtain ⟨r4, hr4⟩ : ∃ r : Int, r = Sha.rotI (W.getD ((IntKind.i64.wrap (t - (15 : Int)))).toNat 0) 8 := ⟨_, rfl⟩
 have q2 : IntKind.i64.wrap (t - 2) = t - 2 := by rw [IntKind.wrap_i64]; omega
 have n2 : (IntKind.i64.wrap (t - 2)).toNat = t.toNat - 2 := by rw [q2]; omega
 have q7 : IntKind.i64.wrap (t - 7) = t - 7 := by rw [IntKind.wrap_i64]; omega
 have n7 : (IntKind.i64.wrap (t - 7)).toNat = t.toNat - 7 := by rw [q7]; omega
 have q15 : IntKind.i64.wrap (t - 15) = t - 15 := by rw [IntKind.wrap_i64]; omega
 have n15 : (IntKind.i64.wrap (t - 15)).toNat = t.toNat - 15 := by rw [q15]; omega
 have q16 : IntKind.i64.wrap (t - 16) = t - 16 := by rw [IntKind.wrap_i64]; omega
 have n16 : (IntKind.i64.wrap (t - 16)).toNat = t.toNat - 16 := by rw [q16]; omega
 refine Round.mk (⟨envT l ([s.a, s.b, s.c, s.d, s.e, s.f, s.g, s.h, 0, t, r1, r2, r3, r4] : List Int), fun n => ([] : List Bool).getD n false, fun n => ([W] : List (List Int)).getD (n - 136) [], fun n => ([] : List (List (List Int))).getD n [], LS Ts, w⟩) [some 0, some 1, some 2, some 3] JB56 3000 138 [some true] [] ⟨⟨[(.one JB23), (.one (.imm B128 none)), (.one (.ptr 1 0)), .undef, (.one (.ptr 2 0)), (.one (.ptr 3 0)), (.one JB11), .undef, (.one JB24), (.one JB111), (.one JB28), (.one JB82), .undef, .undef, .undef, .undef, .undef, .undef, .undef, .undef, .undef, .undef, .undef, (.one JB30), (.one JB21), (.one JB11), (.one (.imm B128 none)), (.one JB11), (.one JB31), (.one JB11), (.one JB31), (.one JB59), (.one (.imm JB8 none)), (.one JB18), (.one JB18), (.one JB21), (.one (.immp (.var 127))), (.one JB24), (.one JB11), (.one JB11), (.one (.ptr 3 15)), (.one (.sc (.int .u64 JB2))), (.one JB45), (.one JB24), (.one JB46), (.one JB20), (.one (.ptr 3 15)), (.one JB18), (.one JB30), (.one JB34), (.one JB84), (.one JB34), (.one JB111), (.one JB34), (.one (.sc (.int .i64 JB60))), (.one (.bptr 3 JB60)), (.one JB28), (.one JB34), (.one (.sc (.int .i64 JB83))), (.one (.bptr 3 JB83)), (.one JB82), (.one JB34), (.one JB82), (.one (.sc (.v 138))), (.one JB82), (.one (.sc (.v 139))), (.one (.sc (.int .u64 (.bit .xor .u64 (.var 138) (.var 139))))), (.one JB82), (.one (.sc (.int .u64 (.shr .u64 JB27 (.lit 6))))), (.one (.sc (.int .u64 JB94))), (.one JB34), (.one (.sc (.int .i64 JB64))), (.one (.bptr 3 JB64)), (.one (.sc (.int .u64 (.get (.lvar 136) JB64)))), (.one (.sc (.int .u64 (.add .u64 JB94 (.get (.lvar 136) JB64))))), (.one JB28), (.one (.sc (.v 140))), (.one JB28), (.one (.sc (.v 141))), (.one (.sc (.int .u64 (.bit .xor .u64 (.var 140) (.var 141))))), (.one JB28), (.one (.sc (.int .u64 (.shr .u64 (.get (.lvar 136) JB60) (.lit 7))))), (.one (.sc (.int .u64 (.bit .xor .u64 (.bit .xor .u64 (.var 140) (.var 141)) (.shr .u64 (.get (.lvar 136) JB60) (.lit 7)))))), (.one (.sc (.int .u64 JB19))), (.one JB34), (.one (.sc (.int .i64 JB53))), (.one (.bptr 3 JB53)), (.one (.sc (.int .u64 (.get (.lvar 136) JB53)))), (.one (.sc (.int .u64 (.add .u64 JB19 (.get (.lvar 136) JB53))))), (.one (.bptr 3 (.var 137))), .undef, .undef, .undef, .undef, .undef, .undef, .undef, .undef, .undef, .undef, .undef, .undef, .undef, .undef, .undef, .undef, .undef, .undef, .undef, .undef, .undef, .undef, .undef, .undef, .undef, .undef, .undef, .undef, .undef, .undef, .undef, .undef, .undef, .undef, .undef, .undef, .undef, .undef, .undef, .undef, .undef, .undef, .undef, .undef, .undef, .undef, .undef, .undef, .undef, .undef, .undef, .undef, .undef, .undef, .undef, .undef, .undef, .undef, .undef, .undef, .undef, .undef, .undef, .undef, .undef, .undef, .undef, .undef, .undef, .undef, .undef, .undef, .undef, .undef, .undef, .undef, .undef, .undef, .undef, .undef, .undef, .undef, .undef, .undef, .undef, .undef, .undef, .undef, .undef, .undef, .undef, .undef, .undef, .undef, .undef, .undef, .undef, .undef, .undef, .undef, .undef, .undef, .undef, .undef, .undef, .undef, .undef, .undef, .undef, .undef, .undef, .undef], [⟨Ts.ty 7, KC, false, false, false, none⟩, JB10, JB12, ⟨105, [], false, true, false, (some (.u64, (.set (.lvar 136) (.var 137) (.add .u64 JB19 (.get (.lvar 136) JB53)))))⟩], [(7, 0)]⟩, 142, [], [], [.dec JB103 true, .dec (.cmp .leq (.lit 0) JB60) true, .dec (.cmp .lss JB60 (.lit 80)) true, .dec (.cmp .lss JB60 (.len (.lvar 136))) true, .dec (.cmp .leq (.lit 0) JB83) true, .dec (.cmp .lss JB83 (.lit 80)) true, .dec (.cmp .lss JB83 (.len (.lvar 136))) true, .call 96 [JB82, (.sc (.int .i64 (.lit 19)))] (.one (.sc (.v 138))), .call 96 [JB82, (.sc (.int .i64 (.lit 61)))] (.one (.sc (.v 139))), .dec (.cmp .leq (.lit 0) JB64) true, .dec (.cmp .lss JB64 (.lit 80)) true, .dec (.cmp .lss JB64 (.len (.lvar 136))) true, .call 96 [JB28, (.sc (.int .i64 (.lit 1)))] (.one (.sc (.v 140))), .call 96 [JB28, JB18] (.one (.sc (.v 141))), .dec (.cmp .leq (.lit 0) JB53) true, .dec (.cmp .lss JB53 (.lit 80)) true, .dec (.cmp .lss JB53 (.len (.lvar 136))) true, .dec (.cmp .leq (.lit 0) (.var 137)) true, .dec JB103 true, .dec (.cmp .lss (.var 137) (.len (.lvar 136))) true], []⟩ (by (refine ⟨?_, ?_, rfl, by first | decide | rfl, rfl, rfl⟩ <;> (repeat' (first | exact trivial | with_reducible rfl | apply And.intro | (show rn _ _ _; exact rfl) | (intro h; first | exact rfl | exact h) | simp only [I.den, I.ldn, Bx.den, envI, envB, envL, envP, List.getD_cons_succ, List.getD_cons_zero, List.getD_nil] | exact rfl)))) (by kernel_rfl) ⟨evs_of ⟨?_, ?_, ?_, ?_, ?_, ?_, ?_, ?_, ?_, ?_, ?_, ?_, ?_, ?_, ?_, ?_, ?_, ?_, ?_, ?_, trivial⟩, by simp⟩ ?_
 ·exact dec_lt_t (a := t) (b := 80) rfl rfl (by (try simp only [q2, q7, q15, q16]); omega)
 ·exact dec_le_t (a := 0) (b := (IntKind.i64.wrap (t - (15 : Int)))) rfl rfl (by (try simp only [q2, q7, q15, q16]); omega)
 ·exact dec_lt_t (a := (IntKind.i64.wrap (t - (15 : Int)))) (b := 80) rfl rfl (by (try simp only [q2, q7, q15, q16]); omega)
 ·exact dec_lt_t (a := (IntKind.i64.wrap (t - (15 : Int)))) (b := W.length) rfl rfl (by (try simp only [q2, q7, q15, q16]); omega)
 ·exact dec_le_t (a := 0) (b := (IntKind.i64.wrap (t - (2 : Int)))) rfl rfl (by (try simp only [q2, q7, q15, q16]); omega)
 ·exact dec_lt_t (a := (IntKind.i64.wrap (t - (2 : Int)))) (b := 80) rfl rfl (by (try simp only [q2, q7, q15, q16]); omega)
 ·exact dec_lt_t (a := (IntKind.i64.wrap (t - (2 : Int)))) (b := W.length) rfl rfl (by (try simp only [q2, q7, q15, q16]); omega)
 ·exact CallP.g (right_c (W.getD ((IntKind.i64.wrap (t - (2 : Int)))).toNat 0) 19 (by decide) (by decide) hr1)
 ·exact CallP.g (right_c (W.getD ((IntKind.i64.wrap (t - (2 : Int)))).toNat 0) 61 (by decide) (by decide) hr2)
 ·exact dec_le_t (a := 0) (b := (IntKind.i64.wrap (t - (7 : Int)))) rfl rfl (by (try simp only [q2, q7, q15, q16]); omega)
 ·exact dec_lt_t (a := (IntKind.i64.wrap (t - (7 : Int)))) (b := 80) rfl rfl (by (try simp only [q2, q7, q15, q16]); omega)
 ·exact dec_lt_t (a := (IntKind.i64.wrap (t - (7 : Int)))) (b := W.length) rfl rfl (by (try simp only [q2, q7, q15, q16]); omega)
 ·exact CallP.g (right_c (W.getD ((IntKind.i64.wrap (t - (15 : Int)))).toNat 0) 1 (by decide) (by decide) hr3)
 ·exact CallP.g (right_c (W.getD ((IntKind.i64.wrap (t - (15 : Int)))).toNat 0) 8 (by decide) (by decide) hr4)
 ·exact dec_le_t (a := 0) (b := (IntKind.i64.wrap (t - (16 : Int)))) rfl rfl (by (try simp only [q2, q7, q15, q16]); omega)
 ·exact dec_lt_t (a := (IntKind.i64.wrap (t - (16 : Int)))) (b := 80) rfl rfl (by (try simp only [q2, q7, q15, q16]); omega)
 ·exact dec_lt_t (a := (IntKind.i64.wrap (t - (16 : Int)))) (b := W.length) rfl rfl (by (try simp only [q2, q7, q15, q16]); omega)
 ·exact dec_le_t (a := 0) (b := t) rfl rfl (by (try simp only [q2, q7, q15, q16]); omega)
 ·exact dec_lt_t (a := t) (b := 80) rfl rfl (by (try simp only [q2, q7, q15, q16]); omega)
 ·exact dec_lt_t (a := t) (b := W.length) rfl rfl (by (try simp only [q2, q7, q15, q16]); omega)
 ·(refine ⟨?_, ?_, rfl, by first | decide | rfl, rfl, rfl⟩ <;> (repeat' (first | exact trivial | with_reducible rfl | apply And.intro | (show rn _ _ _; exact rfl) | (intro h; first | exact rfl | exact h) | simp only [I.den, I.ldn, Bx.den, envI, envB, envL, envP, List.getD_cons_succ, List.getD_cons_zero, List.getD_nil] | exact rfl)))
  all_goals first | (show IntKind.i64.wrap (t + 1) = t + 1; rw [IntKind.wrap_i64]; omega) | (show W.set t.toNat (Sha.addI (Sha.addI (Sha.addI (Go.bits .xor .u64 (Go.bits .xor .u64 r1 r2) (Int.fdiv (W.getD (IntKind.i64.wrap (t - 2)).toNat 0) (2 ^ 6))) (W.getD (IntKind.i64.wrap (t - 7)).toNat 0)) (Go.bits .xor .u64 (Go.bits .xor .u64 r3 r4) (Int.fdiv (W.getD (IntKind.i64.wrap (t - 15)).toNat 0) (2 ^ 7)))) (W.getD (IntKind.i64.wrap (t - 16)).toNat 0)) = Sha.sched W t.toNat; rw [hr1, hr2, hr3, hr4, n2, n7, n15, n16]; rfl)
theorem sched_last (w : World) (s : Sha.St) (l : List Int) (Ts : TS) (W : List Int) (t : Int) (h0 : 80 ≤ t) : Round Tryd.prog (loopOf Tryd.f85 2) (sched_head Ts) (sched_env Ts w s l W t) (.exit 4) (sched_head Ts) (sched_env Ts w s l W t) := by
 refine Round.mk (⟨envT l ([s.a, s.b, s.c, s.d, s.e, s.f, s.g, s.h, 0, t] : List Int), fun n => ([] : List Bool).getD n false, fun n => ([W] : List (List Int)).getD (n - 136) [], fun n => ([] : List (List (List Int))).getD n [], LS Ts, w⟩) [some 0, some 1, some 2, some 3] JB56 3000 138 [some false] [] ⟨⟨[(.one JB23), (.one (.imm B128 none)), (.one (.ptr 1 0)), .undef, (.one (.ptr 2 0)), (.one (.ptr 3 0)), (.one JB11), .undef, (.one JB24), (.one JB34), .undef, .undef, .undef, .undef, .undef, .undef, .undef, .undef, .undef, .undef, .undef, .undef, .undef, (.one JB30), (.one JB21), (.one JB11), (.one (.imm B128 none)), (.one JB11), (.one JB31), (.one JB11), (.one JB31), (.one JB59), (.one (.imm JB8 none)), (.one JB18), (.one JB18), (.one JB21), (.one (.immp (.var 127))), (.one JB24), (.one JB11), (.one JB11), (.one (.ptr 3 15)), (.one (.sc (.int .u64 JB2))), (.one JB45), (.one JB24), (.one JB46), (.one JB20), (.one (.ptr 3 15)), (.one JB18), (.one JB30), (.one JB34), (.one JB21), .undef, .undef, .undef, .undef, .undef, .undef, .undef, .undef, .undef, .undef, .undef, .undef, .undef, .undef, .undef, .undef, .undef, .undef, .undef, .undef, .undef, .undef, .undef, .undef, .undef, .undef, .undef, .undef, .undef, .undef, .undef, .undef, .undef, .undef, .undef, .undef, .undef, .undef, .undef, .undef, .undef, .undef, .undef, .undef, .undef, .undef, .undef, .undef, .undef, .undef, .undef, .undef, .undef, .undef, .undef, .undef, .undef, .undef, .undef, .undef, .undef, .undef, .undef, .undef, .undef, .undef, .undef, .undef, .undef, .undef, .undef, .undef, .undef, .undef, .undef, .undef, .undef, .undef, .undef, .undef, .undef, .undef, .undef, .undef, .undef, .undef, .undef, .undef, .undef, .undef, .undef, .undef, .undef, .undef, .undef, .undef, .undef, .undef, .undef, .undef, .undef, .undef, .undef, .undef, .undef, .undef, .undef, .undef, .undef, .undef, .undef, .undef, .undef, .undef, .undef, .undef, .undef, .undef, .undef, .undef, .undef, .undef, .undef, .undef, .undef, .undef, .undef, .undef, .undef, .undef, .undef, .undef, .undef, .undef, .undef, .undef, .undef, .undef, .undef, .undef, .undef, .undef, .undef, .undef, .undef, .undef, .undef, .undef, .undef, .undef, .undef], [⟨Ts.ty 7, KC, false, false, false, none⟩, JB10, JB12, JB33], [(7, 0)]⟩, 138, [], [], [.dec JB103 false], []⟩ (by (refine ⟨?_, ?_, rfl, by first | decide | rfl, rfl, rfl⟩ <;> (repeat' (first | exact trivial | with_reducible rfl | apply And.intro | (show rn _ _ _; exact rfl) | (intro h; first | exact rfl | exact h) | simp only [I.den, I.ldn, Bx.den, envI, envB, envL, envP, List.getD_cons_succ, List.getD_cons_zero, List.getD_nil] | exact rfl)))) (by kernel_rfl) ⟨evs_of ⟨?_, trivial⟩, by simp⟩ ?_
 ·exact dec_lt_f (a := t) (b := 80) rfl rfl (by omega)
 ·(refine ⟨?_, ?_, rfl, by first | decide | rfl, rfl, rfl⟩ <;> (repeat' (first | exact trivial | with_reducible rfl | apply And.intro | (show rn _ _ _; exact rfl) | (intro h; first | exact rfl | exact h) | simp only [I.den, I.ldn, Bx.den, envI, envB, envL, envP, List.getD_cons_succ, List.getD_cons_zero, List.getD_nil] | exact rfl)))
theorem sched_rounds (Ts : TS) (w : World) (s : Sha.St) (l W0 W : List Int) (hW : W0.length = 80) (hWe : W = Sha.schedN W0 64) (v : Env) {r0 r1 : List (Option Nat)} (start : Fm.to v (sched_env Ts w s l W0 16) r0 (sched_pre Ts) (sched_head Ts)) (fin : Fm.to (sched_env Ts w s l W 80) v r1 (sched_head Ts) (sched_head Ts)) :
  LEv.holds Tryd.prog v ⟨loopOf Tryd.f85 2, sched_pre Ts, sched_head Ts, (.exit 4)⟩ := by
 rw [hWe] at fin
 refine loop_rounds (r0 := r0) (n := 64) (head := sched_head Ts) (fun k => sched_env Ts w s l (Sha.schedN W0 k) (16 + (k : Int))) ?_ ?_ (sched_env Ts w s l (Sha.schedN W0 64) 80) ?_ fin (by decide)
 ·show Fm.to v (sched_env Ts w s l W0 (16 + ((0 : Nat) : Int))) _ _ _
  rw [show (16 : Int) + ((0 : Nat) : Int) = 16 from rfl]
  exact start
 ·intro k hk
  have h := sched_more w s l Ts (Sha.schedN W0 k) (16 + (k : Int)) (by omega) (by omega) (by rw [Sha.schedN_length]; exact hW)
  rw [show (16 + (k : Int)).toNat = 16 + k by omega] at h
  show Round _ _ _ _ _ _ (sched_env Ts w s l (Sha.sched (Sha.schedN W0 k) (16 + k)) (16 + ((k + 1 : Nat) : Int)))
  rw [show 16 + ((k + 1 : Nat) : Int) = 16 + (k : Int) + 1 by omega]
  exact h
 ·exact sched_last w s l Ts _ _ (by omega)
abbrev rnd_env (Ts : TS) (w : World) (s : Sha.St) (l : List Int) (W : List Int) (q : Sha.St) (t : Int) : Env := ⟨envT l ([s.a, s.b, s.c, s.d, s.e, s.f, s.g, s.h, 0, (80 : Int), q.a, q.b, q.c, q.d, q.e, q.f, q.g, q.h, t] : List Int), fun n => ([] : List Bool).getD n false, fun n => ([W] : List (List Int)).getD (n - 136) [], fun n => ([] : List (List (List Int))).getD n [], LS Ts, w⟩
abbrev rnd_head (Ts : TS) : Fm := ⟨[(.one JB23), (.one (.imm B128 none)), (.one (.ptr 1 0)), .undef, (.one (.ptr 2 0)), (.one (.ptr 3 0)), (.one JB11), .undef, (.one JB24), (.one JB34), .undef, .undef, (.one (.sc (.v 138))), (.one (.sc (.v 139))), (.one (.sc (.v 140))), (.one (.sc (.v 141))), (.one (.sc (.v 142))), (.one (.sc (.v 143))), (.one (.sc (.v 144))), (.one (.sc (.v 145))), .undef, .undef, .undef, (.one JB30), (.one JB21), (.one JB11), (.one (.imm B128 none)), (.one JB11), (.one JB31), (.one JB11), (.one JB31), (.one JB59), (.one (.imm JB8 none)), (.one JB18), (.one JB18), (.one JB21), (.one (.immp (.var 127))), (.one JB24), (.one JB11), (.one JB11), (.one (.ptr 3 15)), (.one (.sc (.int .u64 JB2))), (.one JB45), (.one JB24), (.one JB46), (.one JB20), (.one (.ptr 3 15)), (.one JB18), (.one JB30), .undef, .undef, .undef, .undef, .undef, .undef, .undef, .undef, .undef, .undef, .undef, .undef, .undef, .undef, .undef, .undef, .undef, .undef, .undef, .undef, .undef, .undef, .undef, .undef, .undef, .undef, .undef, .undef, .undef, .undef, .undef, .undef, .undef, .undef, .undef, .undef, .undef, .undef, .undef, .undef, .undef, (.one (.ptr 1 0)), (.one (.sc (.v 128))), (.one (.ptr 1 1)), (.one (.sc (.v 129))), (.one (.ptr 1 2)), (.one (.sc (.v 130))), (.one (.ptr 1 3)), (.one (.sc (.v 131))), (.one (.ptr 1 4)), (.one (.sc (.v 132))), (.one (.ptr 1 5)), (.one (.sc (.v 133))), (.one (.ptr 1 6)), (.one (.sc (.v 134))), (.one (.ptr 1 7)), (.one (.sc (.v 135))), (.one JB67), .undef, .undef, .undef, .undef, .undef, .undef, .undef, .undef, .undef, .undef, .undef, .undef, .undef, .undef, .undef, .undef, .undef, .undef, .undef, .undef, .undef, .undef, .undef, .undef, .undef, .undef, .undef, .undef, .undef, .undef, .undef, .undef, .undef, .undef, .undef, .undef, .undef, .undef, .undef, .undef, .undef, .undef, .undef, .undef, .undef, .undef, .undef, .undef, .undef, .undef, .undef, .undef, .undef, .undef, .undef, .undef, .undef, .undef, .undef, .undef, .undef, .undef, .undef, .undef, .undef, .undef, .undef, .undef, .undef, .undef, .undef, .undef, .undef, .undef, .undef, .undef, .undef, .undef, .undef, .undef, .undef, .undef, .undef, .undef, .undef, .undef, .undef, .undef, .undef, .undef, .undef, .undef, .undef, .undef, .undef], [⟨Ts.ty 7, KC, false, false, false, none⟩, JB10, JB12, JB33], [(7, 0)]⟩
abbrev rnd_pre (Ts : TS) : Fm := ⟨[(.one JB23), (.one (.imm B128 none)), (.one (.ptr 1 0)), .undef, (.one (.ptr 2 0)), (.one (.ptr 3 0)), (.one JB11), .undef, (.one JB24), (.one JB34), .undef, .undef, (.one (.sc (.v 128))), (.one (.sc (.v 129))), (.one (.sc (.v 130))), (.one (.sc (.v 131))), (.one (.sc (.v 132))), (.one (.sc (.v 133))), (.one (.sc (.v 134))), (.one (.sc (.v 135))), .undef, .undef, .undef, (.one JB30), (.one JB21), (.one JB11), (.one (.imm B128 none)), (.one JB11), (.one JB31), (.one JB11), (.one JB31), (.one JB59), (.one (.imm JB8 none)), (.one JB18), (.one JB18), (.one JB21), (.one (.immp (.var 127))), (.one JB24), (.one JB11), (.one JB11), (.one (.ptr 3 15)), (.one (.sc (.int .u64 JB2))), (.one JB45), (.one JB24), (.one JB46), (.one JB20), (.one (.ptr 3 15)), (.one JB18), (.one JB30), .undef, .undef, .undef, .undef, .undef, .undef, .undef, .undef, .undef, .undef, .undef, .undef, .undef, .undef, .undef, .undef, .undef, .undef, .undef, .undef, .undef, .undef, .undef, .undef, .undef, .undef, .undef, .undef, .undef, .undef, .undef, .undef, .undef, .undef, .undef, .undef, .undef, .undef, .undef, .undef, .undef, (.one (.ptr 1 0)), (.one (.sc (.v 128))), (.one (.ptr 1 1)), (.one (.sc (.v 129))), (.one (.ptr 1 2)), (.one (.sc (.v 130))), (.one (.ptr 1 3)), (.one (.sc (.v 131))), (.one (.ptr 1 4)), (.one (.sc (.v 132))), (.one (.ptr 1 5)), (.one (.sc (.v 133))), (.one (.ptr 1 6)), (.one (.sc (.v 134))), (.one (.ptr 1 7)), (.one (.sc (.v 135))), (.one JB66), .undef, .undef, .undef, .undef, .undef, .undef, .undef, .undef, .undef, .undef, .undef, .undef, .undef, .undef, .undef, .undef, .undef, .undef, .undef, .undef, .undef, .undef, .undef, .undef, .undef, .undef, .undef, .undef, .undef, .undef, .undef, .undef, .undef, .undef, .undef, .undef, .undef, .undef, .undef, .undef, .undef, .undef, .undef, .undef, .undef, .undef, .undef, .undef, .undef, .undef, .undef, .undef, .undef, .undef, .undef, .undef, .undef, .undef, .undef, .undef, .undef, .undef, .undef, .undef, .undef, .undef, .undef, .undef, .undef, .undef, .undef, .undef, .undef, .undef, .undef, .undef, .undef, .undef, .undef, .undef, .undef, .undef, .undef, .undef, .undef, .undef, .undef, .undef, .undef, .undef, .undef, .undef, .undef, .undef, .undef], [⟨Ts.ty 7, KC, false, false, false, none⟩, JB10, JB12, JB33], [(7, 0)]⟩
theorem rnd_more (w : World) (s : Sha.St) (l : List Int) (W : List Int) (Ts : TS) (q : Sha.St) (t : Int) (h0 : 0 ≤ t) (h1 : t < 80) (hW : W.length = 80) : Round Tryd.prog (loopOf Tryd.f85 3) (rnd_head Ts) (rnd_env Ts w s l W q t) .normal (rnd_head Ts) (rnd_env Ts w s l W (Sha.round q (Sha.K.getD t.toNat 0) (W.getD t.toNat 0)) (t + 1)) := by
 obtain ⟨r1, hr1⟩ : ∃ r : Int, r = Sha.rotI q.e 14 := ⟨_, rfl⟩
 obtain ⟨r2, hr2⟩ : ∃ r : Int, r = Sha.rotI q.e 18 := ⟨_, rfl⟩
 obtain ⟨r3, hr3⟩ : ∃ r : Int, r = Sha.rotI q.e 41 := ⟨_, rfl⟩
 obtain ⟨r4, hr4⟩ : ∃ r : Int, r = Sha.rotI q.a 28 := ⟨_, rfl⟩
 obtain ⟨r5, hr5⟩ : ∃ r : Int, r = Sha.rotI q.a 34 := ⟨_, rfl⟩
 obtain ⟨r6, hr6⟩ : ∃ r : Int, r = Sha.rotI q.a 39 := ⟨_, rfl⟩
 have hK : Sha.K.length = 80 := rfl
 refine Round.mk (⟨envT l ([s.a, s.b, s.c, s.d, s.e, s.f, s.g, s.h, 0, (80 : Int), q.a, q.b, q.c, q.d, q.e, q.f, q.g, q.h, t, r1, r2, r3, r4, r5, r6] : List Int), fun n => ([] : List Bool).getD n false, fun n => ([W] : List (List Int)).getD (n - 136) [], fun n => ([] : List (List (List Int))).getD n [], LS Ts, w⟩) [some 0, some 1, some 2, some 3] JB56 3000 147 [some true] [] ⟨⟨[(.one JB23), (.one (.imm B128 none)), (.one (.ptr 1 0)), .undef, (.one (.ptr 2 0)), (.one (.ptr 3 0)), (.one JB11), .undef, (.one JB24), (.one JB34), .undef, .undef, (.one (.sc (.int .u64 (.add .u64 (.add .u64 (.add .u64 JB5 (.get K80 (.var 146))) JB51) JB13)))), (.one (.sc (.v 138))), (.one (.sc (.v 139))), (.one (.sc (.v 140))), (.one (.sc (.int .u64 (.add .u64 (.var 141) (.add .u64 (.add .u64 JB5 (.get K80 (.var 146))) JB51))))), (.one (.sc (.v 142))), (.one (.sc (.v 143))), (.one (.sc (.v 144))), (.one JB67), (.one (.sc (.int .u64 (.add .u64 (.add .u64 JB5 (.get K80 (.var 146))) JB51)))), (.one (.sc (.int .u64 JB13))), (.one JB30), (.one JB21), (.one JB11), (.one (.imm B128 none)), (.one JB11), (.one JB31), (.one JB11), (.one JB31), (.one JB59), (.one (.imm JB8 none)), (.one JB18), (.one JB18), (.one JB21), (.one (.immp (.var 127))), (.one JB24), (.one JB11), (.one JB11), (.one (.ptr 3 15)), (.one (.sc (.int .u64 JB2))), (.one JB45), (.one JB24), (.one JB46), (.one JB20), (.one (.ptr 3 15)), (.one JB18), (.one JB30), .undef, .undef, .undef, .undef, .undef, .undef, .undef, .undef, .undef, .undef, .undef, .undef, .undef, .undef, .undef, .undef, .undef, .undef, .undef, .undef, .undef, .undef, .undef, .undef, .undef, .undef, .undef, .undef, .undef, .undef, .undef, .undef, .undef, .undef, .undef, .undef, .undef, .undef, .undef, .undef, .undef, (.one (.ptr 1 0)), (.one (.sc (.v 128))), (.one (.ptr 1 1)), (.one (.sc (.v 129))), (.one (.ptr 1 2)), (.one (.sc (.v 130))), (.one (.ptr 1 3)), (.one (.sc (.v 131))), (.one (.ptr 1 4)), (.one (.sc (.v 132))), (.one (.ptr 1 5)), (.one (.sc (.v 133))), (.one (.ptr 1 6)), (.one (.sc (.v 134))), (.one (.ptr 1 7)), (.one (.sc (.v 135))), (.one JB110), (.one JB84), (.one JB67), (.one (.sc (.v 145))), (.one (.sc (.v 142))), (.one (.sc (.v 147))), (.one (.sc (.v 142))), (.one (.sc (.v 148))), (.one (.sc (.int .u64 JB98))), (.one (.sc (.v 142))), (.one (.sc (.v 149))), (.one (.sc (.int .u64 (.bit .xor .u64 JB98 (.var 149))))), (.one (.sc (.int .u64 (.add .u64 (.var 145) (.bit .xor .u64 JB98 (.var 149)))))), (.one (.sc (.v 142))), (.one (.sc (.v 143))), (.one (.sc (.int .u64 (.bit .and .u64 (.var 142) (.var 143))))), (.one (.sc (.v 142))), (.one (.sc (.int .u64 JB88))), (.one (.sc (.v 144))), (.one (.sc (.int .u64 (.bit .and .u64 JB88 (.var 144))))), (.one (.sc (.int .u64 (.bit .xor .u64 (.bit .and .u64 (.var 142) (.var 143)) (.bit .and .u64 JB88 (.var 144)))))), (.one (.sc (.int .u64 JB5))), (.one JB67), (.one (.bptr 0 (.var 146))), (.one (.sc (.int .u64 (.get K80 (.var 146))))), (.one (.sc (.int .u64 (.add .u64 JB5 (.get K80 (.var 146)))))), (.one JB67), (.one (.bptr 3 (.var 146))), (.one (.sc (.int .u64 JB51))), (.one (.sc (.int .u64 (.add .u64 (.add .u64 JB5 (.get K80 (.var 146))) JB51)))), (.one (.sc (.v 138))), (.one (.sc (.v 150))), (.one (.sc (.v 138))), (.one (.sc (.v 151))), (.one (.sc (.int .u64 (.bit .xor .u64 (.var 150) (.var 151))))), (.one (.sc (.v 138))), (.one (.sc (.v 152))), (.one (.sc (.int .u64 (.bit .xor .u64 (.bit .xor .u64 (.var 150) (.var 151)) (.var 152))))), (.one (.sc (.v 138))), (.one (.sc (.v 139))), (.one (.sc (.int .u64 (.bit .and .u64 (.var 138) (.var 139))))), (.one (.sc (.v 138))), (.one (.sc (.v 140))), (.one (.sc (.int .u64 (.bit .and .u64 (.var 138) (.var 140))))), (.one (.sc (.int .u64 JB92))), (.one (.sc (.v 139))), (.one (.sc (.v 140))), (.one (.sc (.int .u64 (.bit .and .u64 (.var 139) (.var 140))))), (.one (.sc (.int .u64 (.bit .xor .u64 JB92 (.bit .and .u64 (.var 139) (.var 140)))))), (.one (.sc (.int .u64 JB13))), (.one (.sc (.v 144))), (.one (.sc (.v 143))), (.one (.sc (.v 142))), (.one (.sc (.v 141))), (.one (.sc (.int .u64 (.add .u64 (.add .u64 JB5 (.get K80 (.var 146))) JB51)))), (.one (.sc (.int .u64 (.add .u64 (.var 141) (.add .u64 (.add .u64 JB5 (.get K80 (.var 146))) JB51))))), (.one (.sc (.v 140))), (.one (.sc (.v 139))), (.one (.sc (.v 138))), (.one (.sc (.int .u64 (.add .u64 (.add .u64 JB5 (.get K80 (.var 146))) JB51)))), (.one (.sc (.int .u64 JB13))), (.one (.sc (.int .u64 (.add .u64 (.add .u64 (.add .u64 JB5 (.get K80 (.var 146))) JB51) JB13)))), (.one JB110), .undef, .undef, .undef, .undef, .undef, .undef, .undef, .undef, .undef, .undef, .undef, .undef, .undef, .undef, .undef, .undef, .undef, .undef, .undef, .undef, .undef, .undef, .undef, .undef, .undef, .undef, .undef, .undef, .undef, .undef, .undef, .undef, .undef], [⟨Ts.ty 7, KC, false, false, false, none⟩, JB10, JB12, JB33], [(7, 0)]⟩, 153, [], [], [.dec JB81 true, .call 96 [(.sc (.v 142)), (.sc (.int .i64 (.lit 14)))] (.one (.sc (.v 147))), .call 96 [(.sc (.v 142)), (.sc (.int .i64 (.lit 18)))] (.one (.sc (.v 148))), .call 96 [(.sc (.v 142)), (.sc (.int .i64 (.lit 41)))] (.one (.sc (.v 149))), .dec (.cmp .leq (.lit 0) (.var 146)) true, .dec JB81 true, .dec JB81 true, .dec (.cmp .leq (.lit 0) (.var 146)) true, .dec JB81 true, .dec (.cmp .lss (.var 146) (.len (.lvar 136))) true, .call 96 [(.sc (.v 138)), (.sc (.int .i64 (.lit 28)))] (.one (.sc (.v 150))), .call 96 [(.sc (.v 138)), (.sc (.int .i64 (.lit 34)))] (.one (.sc (.v 151))), .call 96 [(.sc (.v 138)), (.sc (.int .i64 (.lit 39)))] (.one (.sc (.v 152)))], []⟩ (by (refine ⟨?_, ?_, rfl, by first | decide | rfl, rfl, rfl⟩ <;> (repeat' (first | exact trivial | with_reducible rfl | apply And.intro | (show rn _ _ _; exact rfl) | (intro h; first | exact rfl | exact h) | simp only [I.den, I.ldn, Bx.den, envI, envB, envL, envP, List.getD_cons_succ, List.getD_cons_zero, List.getD_nil] | exact rfl)))) (by kernel_rfl) ⟨evs_of ⟨?_, ?_, ?_, ?_, ?_, ?_, ?_, ?_, ?_, ?_, ?_, ?_, ?_, trivial⟩, by simp⟩ ?_
 ·exact dec_lt_t (a := t) (b := 80) rfl rfl (by (try simp only [List.length_cons, List.length_nil]); omega)
 ·exact CallP.g (right_c q.e 14 (by decide) (by decide) hr1)
 ·exact CallP.g (right_c q.e 18 (by decide) (by decide) hr2)
 ·exact CallP.g (right_c q.e 41 (by decide) (by decide) hr3)
 ·exact dec_le_t (a := 0) (b := t) rfl rfl (by (try simp only [List.length_cons, List.length_nil]); omega)
 ·exact dec_lt_t (a := t) (b := 80) rfl rfl (by (try simp only [List.length_cons, List.length_nil]); omega)
 ·exact dec_lt_t (a := t) (b := 80) rfl rfl (by (try simp only [List.length_cons, List.length_nil]); omega)
 ·exact dec_le_t (a := 0) (b := t) rfl rfl (by (try simp only [List.length_cons, List.length_nil]); omega)
 ·exact dec_lt_t (a := t) (b := 80) rfl rfl (by (try simp only [List.length_cons, List.length_nil]); omega)
 ·exact dec_lt_t (a := t) (b := W.length) rfl rfl (by (try simp only [List.length_cons, List.length_nil]); omega)
 ·exact CallP.g (right_c q.a 28 (by decide) (by decide) hr4)
 ·exact CallP.g (right_c q.a 34 (by decide) (by decide) hr5)
 ·exact CallP.g (right_c q.a 39 (by decide) (by decide) hr6)
 ·(refine ⟨?_, ?_, rfl, by first | decide | rfl, rfl, rfl⟩ <;> (repeat' (first | exact trivial | with_reducible rfl | apply And.intro | (show rn _ _ _; exact rfl) | (intro h; first | exact rfl | exact h) | simp only [I.den, I.ldn, Bx.den, envI, envB, envL, envP, List.getD_cons_succ, List.getD_cons_zero, List.getD_nil] | exact rfl)))
  all_goals first | (show IntKind.i64.wrap (t + 1) = t + 1; rw [IntKind.wrap_i64]; omega) | (rw [hr1, hr2, hr3, hr4, hr5, hr6]; rfl)
theorem rnd_last (w : World) (s : Sha.St) (l : List Int) (W : List Int) (Ts : TS) (q : Sha.St) (t : Int) (h0 : 80 ≤ t) : Round Tryd.prog (loopOf Tryd.f85 3) (rnd_head Ts) (rnd_env Ts w s l W q t) (.exit 6) (rnd_head Ts) (rnd_env Ts w s l W q t) := by
 refine Round.mk (⟨envT l ([s.a, s.b, s.c, s.d, s.e, s.f, s.g, s.h, 0, (80 : Int), q.a, q.b, q.c, q.d, q.e, q.f, q.g, q.h, t] : List Int), fun n => ([] : List Bool).getD n false, fun n => ([W] : List (List Int)).getD (n - 136) [], fun n => ([] : List (List (List Int))).getD n [], LS Ts, w⟩) [some 0, some 1, some 2, some 3] JB56 3000 147 [some false] [] ⟨⟨[(.one JB23), (.one (.imm B128 none)), (.one (.ptr 1 0)), .undef, (.one (.ptr 2 0)), (.one (.ptr 3 0)), (.one JB11), .undef, (.one JB24), (.one JB34), .undef, .undef, (.one (.sc (.v 138))), (.one (.sc (.v 139))), (.one (.sc (.v 140))), (.one (.sc (.v 141))), (.one (.sc (.v 142))), (.one (.sc (.v 143))), (.one (.sc (.v 144))), (.one (.sc (.v 145))), .undef, .undef, .undef, (.one JB30), (.one JB21), (.one JB11), (.one (.imm B128 none)), (.one JB11), (.one JB31), (.one JB11), (.one JB31), (.one JB59), (.one (.imm JB8 none)), (.one JB18), (.one JB18), (.one JB21), (.one (.immp (.var 127))), (.one JB24), (.one JB11), (.one JB11), (.one (.ptr 3 15)), (.one (.sc (.int .u64 JB2))), (.one JB45), (.one JB24), (.one JB46), (.one JB20), (.one (.ptr 3 15)), (.one JB18), (.one JB30), .undef, .undef, .undef, .undef, .undef, .undef, .undef, .undef, .undef, .undef, .undef, .undef, .undef, .undef, .undef, .undef, .undef, .undef, .undef, .undef, .undef, .undef, .undef, .undef, .undef, .undef, .undef, .undef, .undef, .undef, .undef, .undef, .undef, .undef, .undef, .undef, .undef, .undef, .undef, .undef, .undef, (.one (.ptr 1 0)), (.one (.sc (.v 128))), (.one (.ptr 1 1)), (.one (.sc (.v 129))), (.one (.ptr 1 2)), (.one (.sc (.v 130))), (.one (.ptr 1 3)), (.one (.sc (.v 131))), (.one (.ptr 1 4)), (.one (.sc (.v 132))), (.one (.ptr 1 5)), (.one (.sc (.v 133))), (.one (.ptr 1 6)), (.one (.sc (.v 134))), (.one (.ptr 1 7)), (.one (.sc (.v 135))), (.one JB67), (.one JB21), .undef, .undef, .undef, .undef, .undef, .undef, .undef, .undef, .undef, .undef, .undef, .undef, .undef, .undef, .undef, .undef, .undef, .undef, .undef, .undef, .undef, .undef, .undef, .undef, .undef, .undef, .undef, .undef, .undef, .undef, .undef, .undef, .undef, .undef, .undef, .undef, .undef, .undef, .undef, .undef, .undef, .undef, .undef, .undef, .undef, .undef, .undef, .undef, .undef, .undef, .undef, .undef, .undef, .undef, .undef, .undef, .undef, .undef, .undef, .undef, .undef, .undef, .undef, .undef, .undef, .undef, .undef, .undef, .undef, .undef, .undef, .undef, .undef, .undef, .undef, .undef, .undef, .undef, .undef, .undef, .undef, .undef, .undef, .undef, .undef, .undef, .undef, .undef, .undef, .undef, .undef, .undef, .undef, .undef], [⟨Ts.ty 7, KC, false, false, false, none⟩, JB10, JB12, JB33], [(7, 0)]⟩, 147, [], [], [.dec JB81 false], []⟩ (by (refine ⟨?_, ?_, rfl, by first | decide | rfl, rfl, rfl⟩ <;> (repeat' (first | exact trivial | with_reducible rfl | apply And.intro | (show rn _ _ _; exact rfl) | (intro h; first | exact rfl | exact h) | simp only [I.den, I.ldn, Bx.den, envI, envB, envL, envP, List.getD_cons_succ, List.getD_cons_zero, List.getD_nil] | exact rfl)))) (by kernel_rfl) ⟨evs_of ⟨?_, trivial⟩, by simp⟩ ?_
 ·exact dec_lt_f (a := t) (b := 80) rfl rfl (by omega)
 ·(refine ⟨?_, ?_, rfl, by first | decide | rfl, rfl, rfl⟩ <;> (repeat' (first | exact trivial | with_reducible rfl | apply And.intro | (show rn _ _ _; exact rfl) | (intro h; first | exact rfl | exact h) | simp only [I.den, I.ldn, Bx.den, envI, envB, envL, envP, List.getD_cons_succ, List.getD_cons_zero, List.getD_nil] | exact rfl)))
theorem rnd_rounds (Ts : TS) (w : World) (s : Sha.St) (l W : List Int) (hW : W.length = 80) (q : Sha.St) (hq : q = Sha.rounds W s 80) (v : Env) {r0 r1 : List (Option Nat)} (start : Fm.to v (rnd_env Ts w s l W s 0) r0 (rnd_pre Ts) (rnd_head Ts)) (fin : Fm.to (rnd_env Ts w s l W q 80) v r1 (rnd_head Ts) (rnd_head Ts)) :
  LEv.holds Tryd.prog v ⟨loopOf Tryd.f85 3, rnd_pre Ts, rnd_head Ts, (.exit 6)⟩ := by
 rw [hq] at fin
 refine loop_rounds (r0 := r0) (n := 80) (head := rnd_head Ts) (fun k => rnd_env Ts w s l W (Sha.rounds W s k) (k : Int)) ?_ ?_ (rnd_env Ts w s l W (Sha.rounds W s 80) 80) ?_ fin (by decide)
 ·show Fm.to v (rnd_env Ts w s l W s ((0 : Nat) : Int)) _ _ _
  exact start
 ·intro k hk
  have h := rnd_more w s l W Ts (Sha.rounds W s k) (k : Int) (by omega) (by omega) hW
  rw [Int.toNat_natCast] at h
  show Round _ _ _ _ _ _ (rnd_env Ts w s l W (Sha.round (Sha.rounds W s k) (Sha.K.getD k 0) (W.getD k 0)) ((k + 1 : Nat) : Int))
  rw [show ((k + 1 : Nat) : Int) = (k : Int) + 1 by omega]
  exact h
 ·exact rnd_last w s l W Ts _ _ (by omega)
end Go.Proofs.YtkckmpnkacdchaaDoor
namespace Go.Proofs.YtkckmpnkacdchaaDoor
open Go.RowKit Go.Num Go.Sx
set_option maxRecDepth 100000 in
theorem takes_run (s : Sha.St) (l : List Int) (Ts : TS) (hb : IsBytes l) (hl : l.length = 128) (W : List Int) (hW : W = Sha.schedN (Sha.wordsF Sha.orB l) 64) (q : Sha.St) (hq : q = Sha.rounds W s 80) (r : Sha.St) (hr : r = Sha.stAdd s q) : CallS Tryd.prog (LS Ts) 85 [.val (.agg #[.int .u64 s.a, .int .u64 s.b, .int .u64 s.c, .int .u64 s.d, .int .u64 s.e, .int .u64 s.f, .int .u64 s.g, .int .u64 s.h]), .bytes l] [.val (.agg #[.int .u64 r.a, .int .u64 r.b, .int .u64 r.c, .int .u64 r.d, .int .u64 r.e, .int .u64 r.f, .int .u64 r.g, .int .u64 r.h])] := by
 refine callS_of Tryd.func85 (by kernel_rfl) (by kernel_rfl) (fun w us hK hG ha => ?_)
 obtain ⟨_, _, rfl, rfl, u1, _, rfl, hu1, rfl⟩ := ha
 rw [Sha.list128 hl] at hu1
 have hWl : W.length = 80 := by rw [hW, Sha.schedN_length]; rfl
 have hrun := calls_of_runS (P := Tryd.prog) (v := ⟨envT l ([s.a, s.b, s.c, s.d, s.e, s.f, s.g, s.h, 0, (80 : Int), q.a, q.b, q.c, q.d, q.e, q.f, q.g, q.h, (80 : Int)] : List Int), fun n => ([] : List Bool).getD n false, fun n => ([W] : List (List Int)).getD (n - 136) [], fun n => ([] : List (List (List Int))).getD n [], LS Ts, w⟩) (gs := (shGs Ts [v_constants])) (fuel := 3000) (nv := 136) (args := [JB23, (.imm B128 none)]) (ora := []) (sums := [none, none, none, none, none, none, none, none, none, none, none, none, none, none, none, none, none, some ⟨[(9, (.one JB34))], [(3, JB33)], 138, (.exit 4)⟩, some ⟨[(12, (.one (.sc (.v 138)))), (13, (.one (.sc (.v 139)))), (14, (.one (.sc (.v 140)))), (15, (.one (.sc (.v 141)))), (16, (.one (.sc (.v 142)))), (17, (.one (.sc (.v 143)))), (18, (.one (.sc (.v 144)))), (19, (.one (.sc (.v 145)))), (106, (.one JB67))], [], 147, (.exit 6)⟩]) (r := ⟨[(.val (.agg [.int .u64 (.add .u64 (.var 128) (.var 138)), .int .u64 (.add .u64 (.var 129) (.var 139)), .int .u64 (.add .u64 (.var 130) (.var 140)), .int .u64 (.add .u64 (.var 131) (.var 141)), .int .u64 (.add .u64 (.var 132) (.var 142)), .int .u64 (.add .u64 (.var 133) (.var 143)), .int .u64 (.add .u64 (.var 134) (.var 144)), .int .u64 (.add .u64 (.var 135) (.var 145))]))], [], [⟨loopOf Tryd.f85 2, sched_pre Ts, sched_head Ts, (.exit 4)⟩, ⟨loopOf Tryd.f85 3, rnd_pre Ts, rnd_head Ts, (.exit 6)⟩]⟩) Tryd.func85 (by kernel_rfl)
  (by simp) (levs_of ⟨?_, ?_, trivial⟩) (varsOkS Ts _ (List.forall_mem_cons.2 ⟨Ts.constants, (List.forall_mem_nil _)⟩) (by decide)) hK hG _ (⟨_, _, rfl, rfl, u1, _, rfl, ⟨hu1, fun b hb => by cases hb⟩, rfl⟩)
 ·exact runS_eq hrun (by (rw [hr]; rfl))
 ·(refine sched_rounds Ts w s l (Sha.wordsF Sha.orB l) W rfl hW _ (r0 := JB56) (r1 := [some 0, some 1, some 2, some 3]) ?_ ?_ <;> clear hW hq hr hb hl <;> (refine ⟨?_, ?_, rfl, by first | decide | rfl, rfl, rfl⟩ <;> (repeat' (first | exact trivial | with_reducible rfl | apply And.intro | (show rn _ _ _; exact rfl) | (intro h; first | exact rfl | exact h) | kernel_rfl))))
 ·(refine rnd_rounds Ts w s l W hWl q hq _ (r0 := JB56) (r1 := [some 0, some 1, some 2, some 3]) ?_ ?_ <;> clear hW hq hr <;> (refine ⟨?_, ?_, rfl, by first | decide | rfl, rfl, rfl⟩ <;> (repeat' (first | exact trivial | with_reducible rfl | apply And.intro | (show rn _ _ _; exact rfl) | (intro h; first | exact rfl | exact h) | simp only [I.den, I.ldn, Bx.den, envI, envB, envL, envP, List.getD_cons_succ, List.getD_cons_zero, List.getD_nil] | exact rfl))))
theorem takes_g (Ts : TS) (s : Sha.St) (l : List Int) (hb : IsBytes l) (hl : l.length = 128) {r : Sha.St} (hr : r = Sha.take s l) : CallS Tryd.prog (LS Ts) 85 [.val (.agg #[.int .u64 s.a, .int .u64 s.b, .int .u64 s.c, .int .u64 s.d, .int .u64 s.e, .int .u64 s.f, .int .u64 s.g, .int .u64 s.h]), .bytes l] [.val (.agg #[.int .u64 r.a, .int .u64 r.b, .int .u64 r.c, .int .u64 r.d, .int .u64 r.e, .int .u64 r.f, .int .u64 r.g, .int .u64 r.h])] :=
 takes_run s l Ts hb hl _ rfl _ rfl r (by rw [hr, Sha.wordsO_eq hb hl]; rfl)
end Go.Proofs.YtkckmpnkacdchaaDoor
namespace Go.Proofs.YtkckmpnkacdchaaDoor
open Go.RowKit Go.Num Go.Sx
theorem grow_some (n : Int) (h0 : 0 < n) (h1 : n ≤ 1099511627776) : CallS Tryd.prog (L0) 57 [.val (.slice none 0 0), .val (.int .i64 n)] [.fresh 5 [] 0 0 true] := by
 refine callS_of Tryd.func57 (by kernel_rfl) (by kernel_rfl) (fun w us hK hG ha => ?_)
 obtain ⟨_, _, rfl, rfl, _, _, rfl, rfl, rfl⟩ := ha
 have q0 : IntKind.i64.wrap (n - 0) = n := by rw [IntKind.wrap_i64]; omega
 have hrun := calls_of_runS (P := Tryd.prog) (v := ⟨envI [n], envB [], envL [], envP [], L0, w⟩) (gs := []) (fuel := 3000) (nv := 1) (args := [.nils, (.sc (.int .i64 (.var 0)))]) (ora := [some false, some true]) (sums := []) (r := ⟨[(.fresh 5 (.part (.rep JB89) (.lit 0) (.lit 0)) (.lit 0) (.lit 0) true)], [.dec (.cmp .lss (.var 0) (.lit 0)) false, .dec (.cmp .gtr JB89 (.lit 0)) true, .dec (.cmp .leq (.lit 0) JB89) true, .dec (.cmp .leq (.len (.rep JB89)) (.lit 1099511627776)) true], []⟩) Tryd.func57 (by kernel_rfl)
  (evs_of ⟨?_, ?_, ?_, ?_, trivial⟩) (by simp) (GsOk.nil _) hK hG _ (⟨_, _, rfl, rfl, _, _, rfl, rfl, rfl⟩)
 ·exact runS_eq hrun (by (show [SRes.fresh 5 (((List.replicate (IntKind.i64.wrap (n - 0)).toNat (0 : Int)).drop 0).take 0) 0 0 true] = _; rw [List.take_zero]))
 ·exact dec_lt_f (a := n) (b := 0) rfl rfl (by omega)
 ·exact dec_gt_t (a := (IntKind.i64.wrap (n - (0 : Int)))) (b := 0) rfl rfl (by (try simp only [q0]); omega)
 ·exact dec_le_t (a := 0) (b := (IntKind.i64.wrap (n - (0 : Int)))) rfl rfl (by (try simp only [q0]); omega)
 ·exact dec_le_t (a := (((List.replicate ((IntKind.i64.wrap (n - (0 : Int)))).toNat (0 : Int)).length : Nat) : Int)) (b := 1099511627776) rfl rfl (by (try simp only [q0, List.length_replicate]); omega)
theorem grow_none (n : Int) (h0 : n = 0) : CallS Tryd.prog (L0) 57 [.val (.slice none 0 0), .val (.int .i64 n)] [.fresh 5 [] 0 0 true] := by
 refine callS_of Tryd.func57 (by kernel_rfl) (by kernel_rfl) (fun w us hK hG ha => ?_)
 obtain ⟨_, _, rfl, rfl, _, _, rfl, rfl, rfl⟩ := ha
 have q0 : IntKind.i64.wrap (n - 0) = n := by rw [IntKind.wrap_i64]; omega
 have hrun := calls_of_runS (P := Tryd.prog) (v := ⟨envI [n], envB [], envL [], envP [], L0, w⟩) (gs := []) (fuel := 3000) (nv := 1) (args := [.nils, (.sc (.int .i64 (.var 0)))]) (ora := [some false, some false]) (sums := []) (r := ⟨[(.fresh 5 .nil (.lit 0) (.lit 0) true)], [.dec (.cmp .lss (.var 0) (.lit 0)) false, .dec (.cmp .gtr JB89 (.lit 0)) false], []⟩) Tryd.func57 (by kernel_rfl)
  (evs_of ⟨?_, ?_, trivial⟩) (by simp) (GsOk.nil _) hK hG _ (⟨_, _, rfl, rfl, _, _, rfl, rfl, rfl⟩)
 ·exact runS_eq hrun (by rfl)
 ·exact dec_lt_f (a := n) (b := 0) rfl rfl (by omega)
 ·exact dec_gt_f (a := (IntKind.i64.wrap (n - (0 : Int)))) (b := 0) rfl rfl (by (try simp only [q0]); omega)
theorem grow_s (n : Int) (h0 : 0 ≤ n) (h1 : n ≤ 1099511627776) : CallS Tryd.prog L0 57 [.val (.slice none 0 0), .val (.int .i64 n)] [.fresh 5 [] 0 0 true] := by
 by_cases h : 0 < n
 ·exact grow_some n h h1
 ·exact grow_none n (by omega)
abbrev cc1_env (w : World) (ps : List (List Int)) (z : Int) (i : Int) : Env := ⟨envI [0, z, i], envB [], envL [], envP [ps], L0, w⟩
abbrev cc1_head : Fm := ⟨[(.one (.immP 0)), .undef, (.one .nils), (.one JB39), .undef, .undef, .undef, .undef, .undef, (.one (.immP 0)), (.one JB47), (.one JB74), .undef, .undef, .undef, .undef, .undef, .undef, .undef, .undef, .undef, .undef, .undef, .undef, .undef, .undef, .undef, .undef, .undef, .undef, .undef, .undef, .undef, .undef, .undef, .undef], [], []⟩
abbrev cc1_pre : Fm := ⟨[(.one (.immP 0)), .undef, (.one .nils), (.one JB66), .undef, .undef, .undef, .undef, .undef, (.one (.immP 0)), (.one JB47), (.one JB66), .undef, .undef, .undef, .undef, .undef, .undef, .undef, .undef, .undef, .undef, .undef, .undef, .undef, .undef, .undef, .undef, .undef, .undef, .undef, .undef, .undef, .undef, .undef, .undef], [], []⟩
theorem cc1_more (w : World) (ps : List (List Int))  (z : Int) (i : Int) (hp : ps.length ≤ 1099511627776) (h0 : 0 ≤ i) (h1 : i < ps.length) (h2 : 0 ≤ z) (h3 : z + ((ps.getD i.toNat []).length : Nat) ≤ 1099511627776) : Round Tryd.prog (loopOf Tryd.f27 0) cc1_head (cc1_env w ps z i) .normal cc1_head (cc1_env w ps (z + (((ps.getD i.toNat []).length : Nat) : Int)) (i + 1)) := by
 have q0 : IntKind.i64.wrap (z + (((ps.getD i.toNat []).length : Nat) : Int)) = z + (((ps.getD i.toNat []).length : Nat) : Int) := by rw [IntKind.wrap_i64]; omega
 refine Round.mk (⟨envI [0, z, i], envB [], envL [], envP [ps], L0, w⟩) [] [] 3000 3 [some true, some false] [] ⟨⟨[(.one (.immP 0)), .undef, (.one .nils), (.one (.sc (.int .i64 JB79))), .undef, (.one JB105), .undef, .undef, .undef, (.one (.immP 0)), (.one JB47), (.one JB114), (.one JB84), (.one (.immPp 0 (.var 2))), (.one JB105), (.one JB39), (.one JB105), (.one (.sc (.int .i64 (.len (.item 0 (.var 2)))))), (.one (.sc (.int .i64 JB79))), (.one (.sc (.int .i64 JB79))), (.one JB21), .undef, (.one JB114), .undef, .undef, .undef, .undef, .undef, .undef, .undef, .undef, .undef, .undef, .undef, .undef, .undef], [], []⟩, 3, [], [], [.dec JB107 true, .dec (.cmp .leq (.lit 0) (.var 2)) true, .dec JB107 true, .dec (.cmp .lss JB79 (.lit 0)) false], []⟩ (by (refine ⟨?_, ?_, rfl, by first | decide | rfl, rfl, rfl⟩ <;> (repeat' (first | exact trivial | with_reducible rfl | apply And.intro | (show rn _ _ _; exact rfl) | (intro h; first | exact rfl | exact h) | simp only [I.den, I.ldn, Bx.den, envI, envB, envL, envP, List.getD_cons_succ, List.getD_cons_zero, List.getD_nil] | exact rfl)))) (by kernel_rfl) ⟨evs_of ⟨?_, ?_, ?_, ?_, trivial⟩, by simp⟩ ?_
 ·exact dec_lt_t (a := i) (b := ps.length) rfl rfl (by (try simp only [q0]); omega)
 ·exact dec_le_t (a := 0) (b := i) rfl rfl (by (try simp only [q0]); omega)
 ·exact dec_lt_t (a := i) (b := ps.length) rfl rfl (by (try simp only [q0]); omega)
 ·exact dec_lt_f (a := (IntKind.i64.wrap (z + (((ps.getD (i).toNat []).length : Nat) : Int)))) (b := 0) rfl rfl (by (try simp only [q0]); omega)
 ·(refine ⟨?_, ?_, rfl, by first | decide | rfl, rfl, rfl⟩ <;> (repeat' (first | exact trivial | with_reducible rfl | apply And.intro | (show rn _ _ _; exact rfl) | (intro h; first | exact rfl | exact h) | simp only [I.den, I.ldn, Bx.den, envI, envB, envL, envP, List.getD_cons_succ, List.getD_cons_zero, List.getD_nil] | exact rfl)))
  all_goals first | (show IntKind.i64.wrap (i + 1) = i + 1; rw [IntKind.wrap_i64]; omega) | exact q0
theorem cc1_last (w : World) (ps : List (List Int))  (z : Int) (i : Int) (h0 : (ps.length : Int) ≤ i) : Round Tryd.prog (loopOf Tryd.f27 0) cc1_head (cc1_env w ps z i) (.exit 0) cc1_head (cc1_env w ps z i) := by
 refine Round.mk (⟨envI [0, z, i], envB [], envL [], envP [ps], L0, w⟩) [] [] 3000 3 [some false] [] ⟨⟨[(.one (.immP 0)), .undef, (.one .nils), (.one JB39), .undef, .undef, .undef, .undef, .undef, (.one (.immP 0)), (.one JB47), (.one JB74), (.one JB21), .undef, .undef, .undef, .undef, .undef, .undef, .undef, .undef, .undef, .undef, .undef, .undef, .undef, .undef, .undef, .undef, .undef, .undef, .undef, .undef, .undef, .undef, .undef], [], []⟩, 3, [], [], [.dec JB107 false], []⟩ (by (refine ⟨?_, ?_, rfl, by first | decide | rfl, rfl, rfl⟩ <;> (repeat' (first | exact trivial | with_reducible rfl | apply And.intro | (show rn _ _ _; exact rfl) | (intro h; first | exact rfl | exact h) | simp only [I.den, I.ldn, Bx.den, envI, envB, envL, envP, List.getD_cons_succ, List.getD_cons_zero, List.getD_nil] | exact rfl)))) (by kernel_rfl) ⟨evs_of ⟨?_, trivial⟩, by simp⟩ ?_
 ·exact dec_lt_f (a := i) (b := ps.length) rfl rfl (by omega)
 ·(refine ⟨?_, ?_, rfl, by first | decide | rfl, rfl, rfl⟩ <;> (repeat' (first | exact trivial | with_reducible rfl | apply And.intro | (show rn _ _ _; exact rfl) | (intro h; first | exact rfl | exact h) | simp only [I.den, I.ldn, Bx.den, envI, envB, envL, envP, List.getD_cons_succ, List.getD_cons_zero, List.getD_nil] | exact rfl)))
theorem flat_take (ps : List (List Int)) (k : Nat) (hk : k < ps.length) : (ps.take (k + 1)).flatten = (ps.take k).flatten ++ ps.getD k [] := by
 rw [List.take_succ_eq_append_getElem hk, List.flatten_append, List.getD_eq_getElem?_getD, List.getElem?_eq_getElem hk, Option.getD_some]
 simp
theorem flat_le (ps : List (List Int)) (k : Nat) : (ps.take k).flatten.length ≤ ps.flatten.length := by
 conv => rhs; rw [← List.take_append_drop k ps, List.flatten_append, List.length_append]
 omega
theorem cc1_rounds (w : World) (ps : List (List Int)) (hl : ps.flatten.length ≤ 1099511627776) (hp : ps.length ≤ 1099511627776) (z : Int) (hz : z = ((ps.flatten.length : Nat) : Int)) (v : Env) {r0 r1 : List (Option Nat)} (start : Fm.to v (cc1_env w ps 0 0) r0 cc1_pre cc1_head) (fin : Fm.to (cc1_env w ps z ((ps.length : Nat) : Int)) v r1 cc1_head cc1_head) :
  LEv.holds Tryd.prog v ⟨loopOf Tryd.f27 0, cc1_pre, cc1_head, (.exit 0)⟩ := by
 rw [hz] at fin
 refine loop_rounds (r0 := r0) (n := ps.length) (head := cc1_head) (fun k => cc1_env w ps (((ps.take k).flatten.length : Nat) : Int) (k : Int)) ?_ ?_ (cc1_env w ps ((ps.flatten.length : Nat) : Int) ((ps.length : Nat) : Int)) ?_ fin (by decide)
 ·exact start
 ·intro k hk
  have h1 := flat_take ps k hk
  have h2 := flat_le ps (k + 1)
  rw [h1, List.length_append] at h2
  have h := cc1_more w ps (((ps.take k).flatten.length : Nat) : Int) (k : Int) hp (by omega) (by omega) (by omega) (by rw [Int.toNat_natCast]; omega)
  rw [Int.toNat_natCast] at h
  show Round _ _ _ _ _ _ (cc1_env w ps (((ps.take (k + 1)).flatten.length : Nat) : Int) ((k + 1 : Nat) : Int))
  rw [h1, List.length_append, show (((ps.take k).flatten.length + (ps.getD k []).length : Nat) : Int) = (((ps.take k).flatten.length : Nat) : Int) + (((ps.getD k []).length : Nat) : Int) by omega, show ((k + 1 : Nat) : Int) = (k : Int) + 1 by omega]
  exact h
 ·show Round _ _ _ (cc1_env w ps (((ps.take ps.length).flatten.length : Nat) : Int) ((ps.length : Nat) : Int)) _ _ _
  rw [List.take_length]
  exact cc1_last w ps _ _ (by omega)
abbrev cc2_env (w : World) (ps : List (List Int)) (z : Int) (acc : List Int) (i : Int) : Env := ⟨envI [0, z, ((ps.length : Nat) : Int), 0, 0, i], envB [], envL [[], [], [], ([] : List Int), acc], envP [ps], L0, w⟩
abbrev cc2_head : Fm := ⟨[(.one (.immP 0)), .undef, (.one .nils), (.one JB39), .undef, .undef, (.one JB85), .undef, .undef, (.one (.immP 0)), (.one JB47), (.one JB74), .undef, .undef, .undef, .undef, .undef, .undef, .undef, .undef, .undef, .undef, .undef, (.one JB39), .undef, (.one (.immP 0)), (.one JB47), (.one JB112), .undef, .undef, .undef, .undef, .undef, .undef, .undef, .undef], [JB86], []⟩
abbrev cc2_pre : Fm := ⟨[(.one (.immP 0)), .undef, (.one .nils), (.one JB39), .undef, .undef, (.one (.bsl 0 (.lit 0) (.len (.lvar 3)) true)), .undef, .undef, (.one (.immP 0)), (.one JB47), (.one JB74), .undef, .undef, .undef, .undef, .undef, .undef, .undef, .undef, .undef, .undef, .undef, (.one JB39), (.one (.bsl 0 (.lit 0) (.len (.lvar 3)) true)), (.one (.immP 0)), (.one JB47), (.one JB66), .undef, .undef, .undef, .undef, .undef, .undef, .undef, .undef], [⟨5, [], true, true, false, (some (.u8, (.lvar 3)))⟩], []⟩
theorem cc2_more (w : World) (ps : List (List Int)) (z : Int)  (acc : List Int) (i : Int) (hp : ps.length ≤ 1099511627776) (h0 : 0 ≤ i) (h1 : i < ps.length) (h3 : ((acc.length : Nat) : Int) + ((ps.getD i.toNat []).length : Nat) ≤ 1099511627776) : Round Tryd.prog (loopOf Tryd.f27 1) cc2_head (cc2_env w ps z acc i) .normal cc2_head (cc2_env w ps z (acc ++ (ps.getD i.toNat [])) (i + 1)) := by
 refine Round.mk (⟨envI [0, z, ((ps.length : Nat) : Int), 0, 0, i], envB [], envL [[], [], [], ([] : List Int), acc], envP [ps], L0, w⟩) [some 0] [(some 1)] 3000 6 [some true] [] ⟨⟨[(.one (.immP 0)), .undef, (.one .nils), (.one JB39), .undef, .undef, (.one (.bsl 1 (.lit 0) JB91 true)), .undef, (.one JB104), (.one (.immP 0)), (.one JB47), (.one JB74), .undef, .undef, .undef, .undef, .undef, .undef, .undef, .undef, .undef, .undef, .undef, (.one JB39), .undef, (.one (.immP 0)), (.one JB47), (.one JB113), (.one JB84), (.one (.immPp 0 (.var 5))), (.one JB104), (.one JB85), (.one JB104), (.one (.bsl 1 (.lit 0) JB91 true)), (.one JB113), .undef], [⟨5, [], true, true, true, (some (.u8, (.lvar 4)))⟩, ⟨5, [], true, true, false, (some (.u8, (.app (.lvar 4) (.item 0 (.var 5)))))⟩], []⟩, 6, [], [], [.dec JB106 true, .dec (.cmp .leq (.lit 0) (.var 5)) true, .dec JB106 true, .dec (.cmp .leq JB91 (.lit 1099511627776)) true], []⟩ (by (refine ⟨?_, ?_, rfl, by first | decide | rfl, rfl, rfl⟩ <;> (repeat' (first | exact trivial | with_reducible rfl | apply And.intro | (show rn _ _ _; exact rfl) | (intro h; first | exact rfl | exact h) | simp only [I.den, I.ldn, Bx.den, envI, envB, envL, envP, List.getD_cons_succ, List.getD_cons_zero, List.getD_nil] | exact rfl)))) (by kernel_rfl) ⟨evs_of ⟨?_, ?_, ?_, ?_, trivial⟩, by simp⟩ ?_
 ·exact dec_lt_t (a := i) (b := ps.length) rfl rfl (by (try simp only [List.length_append]); omega)
 ·exact dec_le_t (a := 0) (b := i) rfl rfl (by (try simp only [List.length_append]); omega)
 ·exact dec_lt_t (a := i) (b := ps.length) rfl rfl (by (try simp only [List.length_append]); omega)
 ·exact dec_le_t (a := (((acc.length : Nat) : Int) + (((ps.getD (i).toNat []).length : Nat) : Int))) (b := 1099511627776) rfl rfl (by (try simp only [List.length_append]); omega)
 ·(refine ⟨?_, ?_, rfl, by first | decide | rfl, rfl, rfl⟩ <;> (repeat' (first | exact trivial | with_reducible rfl | apply And.intro | (show rn _ _ _; exact rfl) | (intro h; first | exact rfl | exact h) | simp only [I.den, I.ldn, Bx.den, envI, envB, envL, envP, List.getD_cons_succ, List.getD_cons_zero, List.getD_nil] | exact rfl)))
  all_goals first | (show IntKind.i64.wrap (i + 1) = i + 1; rw [IntKind.wrap_i64]; omega) | rfl | (simp; done) | (simp; omega)
theorem cc2_last (w : World) (ps : List (List Int)) (z : Int)  (acc : List Int) (i : Int) (h0 : (ps.length : Int) ≤ i) : Round Tryd.prog (loopOf Tryd.f27 1) cc2_head (cc2_env w ps z acc i) (.exit 2) cc2_head (cc2_env w ps z acc i) := by
 refine Round.mk (⟨envI [0, z, ((ps.length : Nat) : Int), 0, 0, i], envB [], envL [[], [], [], ([] : List Int), acc], envP [ps], L0, w⟩) [some 0] [(some 0)] 3000 6 [some false] [] ⟨⟨[(.one (.immP 0)), .undef, (.one .nils), (.one JB39), .undef, .undef, (.one JB85), .undef, .undef, (.one (.immP 0)), (.one JB47), (.one JB74), .undef, .undef, .undef, .undef, .undef, .undef, .undef, .undef, .undef, .undef, .undef, (.one JB39), .undef, (.one (.immP 0)), (.one JB47), (.one JB112), (.one JB21), .undef, .undef, .undef, .undef, .undef, .undef, .undef], [JB86], []⟩, 6, [], [], [.dec JB106 false], []⟩ (by (refine ⟨?_, ?_, rfl, by first | decide | rfl, rfl, rfl⟩ <;> (repeat' (first | exact trivial | with_reducible rfl | apply And.intro | (show rn _ _ _; exact rfl) | (intro h; first | exact rfl | exact h) | simp only [I.den, I.ldn, Bx.den, envI, envB, envL, envP, List.getD_cons_succ, List.getD_cons_zero, List.getD_nil] | exact rfl)))) (by kernel_rfl) ⟨evs_of ⟨?_, trivial⟩, by simp⟩ ?_
 ·exact dec_lt_f (a := i) (b := ps.length) rfl rfl (by omega)
 ·(refine ⟨?_, ?_, rfl, by first | decide | rfl, rfl, rfl⟩ <;> (repeat' (first | exact trivial | with_reducible rfl | apply And.intro | (show rn _ _ _; exact rfl) | (intro h; first | exact rfl | exact h) | simp only [I.den, I.ldn, Bx.den, envI, envB, envL, envP, List.getD_cons_succ, List.getD_cons_zero, List.getD_nil] | exact rfl)))
theorem cc2_rounds (w : World) (ps : List (List Int)) (z : Int) (hl : ps.flatten.length ≤ 1099511627776) (hp : ps.length ≤ 1099511627776) (r : List Int) (hr : r = ps.flatten) (v : Env) {r0 r1 : List (Option Nat)} (start : Fm.to v (cc2_env w ps z [] 0) r0 cc2_pre cc2_head) (fin : Fm.to (cc2_env w ps z r ((ps.length : Nat) : Int)) v r1 cc2_head cc2_head) :
  LEv.holds Tryd.prog v ⟨loopOf Tryd.f27 1, cc2_pre, cc2_head, (.exit 2)⟩ := by
 rw [hr] at fin
 refine loop_rounds (r0 := r0) (n := ps.length) (head := cc2_head) (fun k => cc2_env w ps z (ps.take k).flatten (k : Int)) ?_ ?_ (cc2_env w ps z ps.flatten ((ps.length : Nat) : Int)) ?_ fin (by decide)
 ·exact start
 ·intro k hk
  have h1 := flat_take ps k hk
  have h2 := flat_le ps (k + 1)
  rw [h1, List.length_append] at h2
  have h := cc2_more w ps z (ps.take k).flatten (k : Int) hp (by omega) (by omega) (by rw [Int.toNat_natCast]; omega)
  rw [Int.toNat_natCast] at h
  show Round _ _ _ _ _ _ (cc2_env w ps z (ps.take (k + 1)).flatten ((k + 1 : Nat) : Int))
  rw [h1, show ((k + 1 : Nat) : Int) = (k : Int) + 1 by omega]
  exact h
 ·show Round _ _ _ (cc2_env w ps z (ps.take ps.length).flatten ((ps.length : Nat) : Int)) _ _ _
  rw [List.take_length]
  exact cc2_last w ps z _ _ (by omega)
theorem concat_s (ps : List (List Int)) (hl : ps.flatten.length ≤ 1099511627776) (hp : ps.length ≤ 1099511627776) (z : Int) (hz : z = ((ps.flatten.length : Nat) : Int)) {r : List Int} (hr : r = ps.flatten) : CallS Tryd.prog (L0) 27 [.parts ps] [.fresh 5 r 0 r.length true] := by
 refine callS_of Tryd.func27 (by kernel_rfl) (by kernel_rfl) (fun w us hK hG ha => ?_)
 obtain ⟨u0, _, rfl, hu0, rfl⟩ := ha
 have hrun := calls_of_runS (P := Tryd.prog) (v := ⟨envI [0, z, ((ps.length : Nat) : Int), 0, 0, ((ps.length : Nat) : Int)], envB [], envL [[], [], [], ([] : List Int), r], envP [ps], L0, w⟩) (gs := []) (fuel := 3000) (nv := 1) (args := [(.immP 0)]) (ora := []) (sums := [some ⟨[(3, (.one JB39)), (11, (.one JB74))], [], 3, (.exit 0)⟩, some ⟨[(6, (.one JB85)), (24, .undef), (27, (.one JB112))], [(0, JB86)], 6, (.exit 2)⟩]) (r := ⟨[(.fresh 5 (.lvar 4) (.lit 0) (.len (.lvar 4)) true)], [.callS 57 [(.val .nils), (.val JB39)] [(.fresh 5 (.lvar 3) (.lit 0) (.len (.lvar 3)) true)]], [⟨loopOf Tryd.f27 0, cc1_pre, cc1_head, (.exit 0)⟩, ⟨loopOf Tryd.f27 1, cc2_pre, cc2_head, (.exit 2)⟩]⟩) Tryd.func27 (by kernel_rfl)
  (evs_of ⟨?_, trivial⟩) (levs_of ⟨?_, ?_, trivial⟩) (GsOk.nil _) hK hG _ (⟨u0, _, rfl, hu0, rfl⟩)
 ·exact runS_eq hrun (by rfl)
 ·exact CallS.g (grow_s z (by omega) (by omega))
 ·(refine cc1_rounds w ps hl hp z hz _ (r0 := []) (r1 := []) ?_ ?_ <;> clear hr hz <;> (refine ⟨?_, ?_, rfl, by first | decide | rfl, rfl, rfl⟩ <;> (repeat' (first | exact trivial | with_reducible rfl | apply And.intro | (show rn _ _ _; exact rfl) | (intro h; first | exact rfl | exact h) | simp only [I.den, I.ldn, Bx.den, envI, envB, envL, envP, List.getD_cons_succ, List.getD_cons_zero, List.getD_nil] | exact rfl))))
 ·(refine cc2_rounds w ps z hl hp r hr _ (r0 := [(some 0)]) (r1 := [some 0]) ?_ ?_ <;> clear hr hz <;> (refine ⟨?_, ?_, rfl, by first | decide | rfl, rfl, rfl⟩ <;> (repeat' (first | exact trivial | with_reducible rfl | apply And.intro | (show rn _ _ _; exact rfl) | (intro h; first | exact rfl | exact h) | simp only [I.den, I.ldn, Bx.den, envI, envB, envL, envP, List.getD_cons_succ, List.getD_cons_zero, List.getD_nil] | exact rfl))))
end Go.Proofs.YtkckmpnkacdchaaDoor
namespace Go.Proofs.YtkckmpnkacdchaaDoor
open Go.RowKit Go.Num Go.Sx
abbrev arrC (H : List Int) : Value := .agg (H.map (Value.int .u8)).toArray
abbrev spad_env (Ts : TS) (w : World) (ps : List (List Int)) (m : List Int) (acc : List Int) : Env := ⟨envI [], envB [], envL [[], m, acc], envP [ps], LS Ts, w⟩
abbrev spad_head (Ts : TS) : Fm := ⟨[(.one (.immP 0)), .undef, (.one (.ptr 1 0)), (.one JB38), (.one JB14), .undef, .undef, .undef, .undef, (.one (.immP 0)), (.one JB15), (.one JB15), (.one JB50), (.one JB14), (.one JB15), (.one JB54), .undef, .undef, .undef, .undef, .undef, .undef, .undef, .undef, .undef, .undef, .undef, .undef, .undef, .undef, .undef, .undef, .undef, .undef, .undef, .undef, .undef, .undef, .undef, .undef, .undef, .undef, .undef, .undef, .undef, .undef, .undef, .undef, .undef, .undef, .undef, .undef, .undef, .undef, .undef, .undef, .undef, .undef, .undef, .undef, .undef, .undef, .undef, .undef, .undef, .undef, .undef], [⟨Ts.ty 3, JB6, false, false, false, none⟩, JB0, JB32, JB26, JB87], [(3, 0)]⟩
abbrev spad_pre (Ts : TS) : Fm := ⟨[(.one (.immP 0)), .undef, (.one (.ptr 1 0)), (.one (.bsl 4 (.lit 0) JB102 true)), (.one JB14), .undef, .undef, .undef, .undef, (.one (.immP 0)), (.one JB15), (.one JB15), (.one JB50), (.one JB14), (.one JB15), (.one JB54), (.one (.bsl 4 (.lit 0) JB102 true)), .undef, .undef, .undef, .undef, .undef, .undef, .undef, .undef, .undef, .undef, .undef, .undef, .undef, .undef, .undef, .undef, .undef, .undef, .undef, .undef, .undef, .undef, .undef, .undef, .undef, .undef, .undef, .undef, .undef, .undef, .undef, .undef, .undef, .undef, .undef, .undef, .undef, .undef, .undef, .undef, .undef, .undef, .undef, .undef, .undef, .undef, .undef, .undef, .undef, .undef], [⟨Ts.ty 3, JB6, false, false, false, none⟩, JB0, JB32, JB26, ⟨5, [], true, true, false, (some (.u8, (.app (.lvar 1) (.cons (.lit 128) .nil))))⟩], [(3, 0)]⟩
theorem spad_more (w : World) (ps : List (List Int)) (m : List Int) (Ts : TS) (acc : List Int) (h1 : ¬ acc.length % 128 = 112) (h2 : acc.length ≤ 549755814016) : Round Tryd.prog (loopOf Tryd.f53 0) (spad_head Ts) (spad_env Ts w ps m acc) .normal (spad_head Ts) (spad_env Ts w ps m (acc ++ [0])) := by
 have qm : Int.tmod ((acc.length : Nat) : Int) 128 = ((acc.length % 128 : Nat) : Int) := (Int.ofNat_tmod acc.length 128).symm
 refine Round.mk (⟨envI [], envB [], envL [[], m, acc], envP [ps], LS Ts, w⟩) [some 0, some 1, some 2, some 3, some 4] [(some 0), (some 1), (some 2), (some 3), (some 6)] 3000 3 [some true] [] ⟨⟨[(.one (.immP 0)), .undef, (.one (.ptr 1 0)), (.one (.bsl 6 (.lit 0) JB101 true)), (.one JB14), .undef, .undef, .undef, .undef, (.one (.immP 0)), (.one JB15), (.one JB15), (.one JB50), (.one JB14), (.one JB15), (.one JB54), .undef, (.one JB38), (.one (.sc (.int .i64 (.len (.lvar 2))))), (.one (.sc (.int .i64 JB90))), (.one JB84), (.one JB38), (.one (.bsl 5 (.lit 0) (.lit 1) true)), (.one (.bsl 6 (.lit 0) JB101 true)), .undef, .undef, .undef, .undef, .undef, .undef, .undef, .undef, .undef, .undef, .undef, .undef, .undef, .undef, .undef, .undef, .undef, .undef, .undef, .undef, .undef, .undef, .undef, .undef, .undef, .undef, .undef, .undef, .undef, .undef, .undef, .undef, .undef, .undef, .undef, .undef, .undef, .undef, .undef, .undef, .undef, .undef, .undef], [⟨Ts.ty 3, JB6, false, false, false, none⟩, JB0, JB32, JB26, JB52, ⟨5, [], true, true, false, (some (.u8, (.cons (.lit 0) .nil)))⟩, ⟨5, [], true, true, false, (some (.u8, (.app (.lvar 2) (.cons (.lit 0) .nil))))⟩], [(3, 0)]⟩, 3, [], [], [.dec (.cmp .neq JB90 (.lit 112)) true, .dec (.cmp .leq JB101 (.lit 1099511627776)) true], []⟩ (by (refine ⟨?_, ?_, rfl, by first | decide | rfl, rfl, rfl⟩ <;> (repeat' (first | exact trivial | with_reducible rfl | apply And.intro | (show rn _ _ _; exact rfl) | (intro h; first | exact rfl | exact h) | simp only [I.den, I.ldn, Bx.den, envI, envB, envL, envP, List.getD_cons_succ, List.getD_cons_zero, List.getD_nil] | exact rfl)))) (by kernel_rfl) ⟨evs_of ⟨?_, ?_, trivial⟩, by simp⟩ ?_
 ·exact dec_ne_t (a := (Int.tmod ((acc.length : Nat) : Int) (128 : Int))) (b := 112) rfl rfl (by (try simp only [qm]); omega)
 ·exact dec_le_t (a := (((acc.length : Nat) : Int) + (1 : Int))) (b := 1099511627776) rfl rfl (by (try simp only [qm]); omega)
 ·(refine ⟨?_, ?_, rfl, by first | decide | rfl, rfl, rfl⟩ <;> (repeat' (first | exact trivial | with_reducible rfl | apply And.intro | (show rn _ _ _; exact rfl) | (intro h; first | exact rfl | exact h) | simp only [I.den, I.ldn, Bx.den, envI, envB, envL, envP, List.getD_cons_succ, List.getD_cons_zero, List.getD_nil] | exact rfl)))
  all_goals first | rfl | (simp; done) | (simp; omega)
theorem spad_last (w : World) (ps : List (List Int)) (m : List Int) (Ts : TS) (acc : List Int) (h1 : acc.length % 128 = 112) : Round Tryd.prog (loopOf Tryd.f53 0) (spad_head Ts) (spad_env Ts w ps m acc) (.exit 0) (spad_head Ts) (spad_env Ts w ps m acc) := by
 have qm : Int.tmod ((acc.length : Nat) : Int) 128 = ((acc.length % 128 : Nat) : Int) := (Int.ofNat_tmod acc.length 128).symm
 refine Round.mk (⟨envI [], envB [], envL [[], m, acc], envP [ps], LS Ts, w⟩) [some 0, some 1, some 2, some 3, some 4] JB109 3000 3 [some false] [] ⟨⟨[(.one (.immP 0)), .undef, (.one (.ptr 1 0)), (.one JB38), (.one JB14), .undef, .undef, .undef, .undef, (.one (.immP 0)), (.one JB15), (.one JB15), (.one JB50), (.one JB14), (.one JB15), (.one JB54), .undef, (.one JB38), (.one (.sc (.int .i64 (.len (.lvar 2))))), (.one (.sc (.int .i64 JB90))), (.one JB21), .undef, .undef, .undef, .undef, .undef, .undef, .undef, .undef, .undef, .undef, .undef, .undef, .undef, .undef, .undef, .undef, .undef, .undef, .undef, .undef, .undef, .undef, .undef, .undef, .undef, .undef, .undef, .undef, .undef, .undef, .undef, .undef, .undef, .undef, .undef, .undef, .undef, .undef, .undef, .undef, .undef, .undef, .undef, .undef, .undef, .undef], [⟨Ts.ty 3, JB6, false, false, false, none⟩, JB0, JB32, JB26, JB87], [(3, 0)]⟩, 3, [], [], [.dec (.cmp .neq JB90 (.lit 112)) false], []⟩ (by (refine ⟨?_, ?_, rfl, by first | decide | rfl, rfl, rfl⟩ <;> (repeat' (first | exact trivial | with_reducible rfl | apply And.intro | (show rn _ _ _; exact rfl) | (intro h; first | exact rfl | exact h) | simp only [I.den, I.ldn, Bx.den, envI, envB, envL, envP, List.getD_cons_succ, List.getD_cons_zero, List.getD_nil] | exact rfl)))) (by kernel_rfl) ⟨evs_of ⟨?_, trivial⟩, by simp⟩ ?_
 ·exact dec_ne_f (a := (Int.tmod ((acc.length : Nat) : Int) (128 : Int))) (b := 112) rfl rfl (by (try simp only [qm]); omega)
 ·(refine ⟨?_, ?_, rfl, by first | decide | rfl, rfl, rfl⟩ <;> (repeat' (first | exact trivial | with_reducible rfl | apply And.intro | (show rn _ _ _; exact rfl) | (intro h; first | exact rfl | exact h) | simp only [I.den, I.ldn, Bx.den, envI, envB, envL, envP, List.getD_cons_succ, List.getD_cons_zero, List.getD_nil] | exact rfl)))
theorem spad_rounds (Ts : TS) (w : World) (ps : List (List Int)) (m : List Int) (hl : m.length ≤ 549755813888) (P : List Int) (hP : P = Sha.pad1 m) (v : Env) {r0 r1 : List (Option Nat)} (start : Fm.to v (spad_env Ts w ps m (m ++ [128])) r0 (spad_pre Ts) (spad_head Ts)) (fin : Fm.to (spad_env Ts w ps m P) v r1 (spad_head Ts) (spad_head Ts)) :
  LEv.holds Tryd.prog v ⟨loopOf Tryd.f53 0, spad_pre Ts, spad_head Ts, (.exit 0)⟩ := by
 rw [hP] at fin
 refine loop_rounds (r0 := r0) (n := Sha.zeros m.length) (head := spad_head Ts) (fun k => spad_env Ts w ps m ((m ++ [128]) ++ List.replicate k (0 : Int))) ?_ ?_ (spad_env Ts w ps m (Sha.pad1 m)) ?_ fin (by decide)
 ·show Fm.to v (spad_env Ts w ps m ((m ++ [128]) ++ List.replicate 0 (0 : Int))) _ _ _
  rw [List.replicate_zero, List.append_nil]
  exact start
 ·intro k hk
  have h1 := Sha.zeros_not hk
  have h2 := Sha.zeros_lt m.length
  have hlen : ((m ++ [128]) ++ List.replicate k (0 : Int)).length = m.length + 1 + k := by simp; omega
  have h := spad_more w ps m Ts ((m ++ [128]) ++ List.replicate k (0 : Int)) (by rw [hlen]; exact h1) (by rw [hlen]; omega)
  show Round _ _ _ _ _ _ (spad_env Ts w ps m ((m ++ [128]) ++ List.replicate (k + 1) (0 : Int)))
  rw [List.replicate_succ', ← List.append_assoc]
  exact h
 ·have hlen := Sha.pad1_length m
  exact spad_last w ps m Ts _ (by rw [show (m ++ [128]) ++ List.replicate (Sha.zeros m.length) (0 : Int) = Sha.pad1 m from rfl, hlen]; exact Sha.zeros_is m.length)
abbrev sblk_env (Ts : TS) (w : World) (ps : List (List Int)) (m : List Int) (P : List Int) (q : Sha.St) (x : Int) (n : Int) : Env := ⟨envI [0, 0, 0, q.a, q.b, q.c, q.d, q.e, q.f, q.g, q.h, x, n], envB [], envL [[], m, P], envP [ps], LS Ts, w⟩
abbrev sblk_head (Ts : TS) : Fm := ⟨[(.one (.immP 0)), .undef, (.one (.ptr 1 0)), (.one JB55), (.one JB14), (.one JB49), (.one (.ptr 22 0)), .undef, .undef, (.one (.immP 0)), (.one JB15), (.one JB15), (.one JB50), (.one JB14), (.one JB15), (.one JB54), .undef, .undef, .undef, .undef, .undef, .undef, .undef, .undef, (.one JB38), (.one JB96), (.one JB18), (.one JB21), (.one JB49), (.one JB97), (.one JB14), (.one (.sc (.int .u64 JB3))), (.one JB49), (.one JB95), (.one JB66), (.one JB80), (.one (.sc (.int .u8 JB29))), (.one JB93), (.one JB65), (.one JB18), (.one JB17), .undef, .undef, .undef, .undef, .undef, .undef, .undef, .undef, .undef, .undef, .undef, .undef, .undef, .undef, .undef, .undef, .undef, .undef, .undef, .undef, .undef, .undef, .undef, .undef, .undef, .undef], [⟨Ts.ty 3, JB6, false, false, false, none⟩, JB0, JB32, JB26, JB52, JB76, JB71, JB62, JB42, JB73, JB70, JB58, JB43, JB77, JB69, JB63, JB44, JB75, JB72, JB61, JB57, JB48, JB40], [(3, 0)]⟩
abbrev sblk_pre (Ts : TS) : Fm := ⟨[(.one (.immP 0)), .undef, (.one (.ptr 1 0)), (.one JB65), (.one JB14), (.one JB49), (.one (.ptr 22 0)), .undef, .undef, (.one (.immP 0)), (.one JB15), (.one JB15), (.one JB50), (.one JB14), (.one JB15), (.one JB54), .undef, .undef, .undef, .undef, .undef, .undef, .undef, .undef, (.one JB38), (.one JB96), (.one JB18), (.one JB21), (.one JB49), (.one JB97), (.one JB14), (.one (.sc (.int .u64 JB3))), (.one JB49), (.one JB95), (.one JB66), (.one JB80), (.one (.sc (.int .u8 JB29))), (.one JB93), (.one JB65), (.one JB18), (.one JB17), .undef, .undef, .undef, .undef, .undef, .undef, .undef, .undef, .undef, .undef, .undef, .undef, .undef, .undef, .undef, .undef, .undef, .undef, .undef, .undef, .undef, .undef, .undef, .undef, .undef, .undef], [⟨Ts.ty 3, JB6, false, false, false, none⟩, JB0, JB32, JB26, JB52, JB76, JB71, JB62, JB42, JB73, JB70, JB58, JB43, JB77, JB69, JB63, JB44, JB75, JB72, JB61, JB57, JB48, ⟨96, JB6, false, true, false, none⟩], [(3, 0)]⟩
theorem sblk_more (w : World) (ps : List (List Int)) (m : List Int) (P : List Int) (Ts : TS) (q : Sha.St) (x : Int) (n : Int) (hb : IsBytes m) (hl : m.length ≤ 549755813888) (hP : P = Sha.pad1 m) (h0 : 0 ≤ x) (h1 : 128 ≤ n) (h2 : x + n = (Sha.pad m).length) : Round Tryd.prog (loopOf Tryd.f53 2) (sblk_head Ts) (sblk_env Ts w ps m P q x n) .normal (sblk_head Ts) (sblk_env Ts w ps m P (Sha.take q (((Sha.pad m).drop x.toNat).take 128)) (x + 128) (n - 128)) := by
 obtain ⟨r1, hr1⟩ : ∃ r : Sha.St, r = Sha.take q (((Sha.pad m).drop x.toNat).take 128) := ⟨_, rfl⟩
 have hE : (((((((((P ++ ([(0 : Int), (0 : Int), (0 : Int), (0 : Int), (0 : Int), (0 : Int), (0 : Int), (0 : Int)] : List Int)) ++ ([(IntKind.u8.wrap (Int.fdiv (IntKind.u64.wrap ((8 : Int) * (IntKind.u64.wrap ((m.length : Nat) : Int)))) (2 ^ (min ((56 : Int)).toNat IntKind.u64.bits))))] : List Int)) ++ ([(IntKind.u8.wrap (Int.fdiv (IntKind.u64.wrap ((8 : Int) * (IntKind.u64.wrap ((m.length : Nat) : Int)))) (2 ^ (min ((48 : Int)).toNat IntKind.u64.bits))))] : List Int)) ++ ([(IntKind.u8.wrap (Int.fdiv (IntKind.u64.wrap ((8 : Int) * (IntKind.u64.wrap ((m.length : Nat) : Int)))) (2 ^ (min ((40 : Int)).toNat IntKind.u64.bits))))] : List Int)) ++ ([(IntKind.u8.wrap (Int.fdiv (IntKind.u64.wrap ((8 : Int) * (IntKind.u64.wrap ((m.length : Nat) : Int)))) (2 ^ (min ((32 : Int)).toNat IntKind.u64.bits))))] : List Int)) ++ ([(IntKind.u8.wrap (Int.fdiv (IntKind.u64.wrap ((8 : Int) * (IntKind.u64.wrap ((m.length : Nat) : Int)))) (2 ^ (min ((24 : Int)).toNat IntKind.u64.bits))))] : List Int)) ++ ([(IntKind.u8.wrap (Int.fdiv (IntKind.u64.wrap ((8 : Int) * (IntKind.u64.wrap ((m.length : Nat) : Int)))) (2 ^ (min ((16 : Int)).toNat IntKind.u64.bits))))] : List Int)) ++ ([(IntKind.u8.wrap (Int.fdiv (IntKind.u64.wrap ((8 : Int) * (IntKind.u64.wrap ((m.length : Nat) : Int)))) (2 ^ (min ((8 : Int)).toNat IntKind.u64.bits))))] : List Int)) ++ ([(IntKind.u8.wrap (Int.fdiv (IntKind.u64.wrap ((8 : Int) * (IntKind.u64.wrap ((m.length : Nat) : Int)))) (2 ^ (min ((0 : Int)).toNat IntKind.u64.bits))))] : List Int)) = Sha.pad m := by rw [← Sha.pad_steps m (by omega) (fun _ => 0) (Sha.lenB_P (n := m.length) (by omega)), hP]; rfl
 have hL : (((((((((((P ++ ([(0 : Int), (0 : Int), (0 : Int), (0 : Int), (0 : Int), (0 : Int), (0 : Int), (0 : Int)] : List Int)) ++ ([(IntKind.u8.wrap (Int.fdiv (IntKind.u64.wrap ((8 : Int) * (IntKind.u64.wrap ((m.length : Nat) : Int)))) (2 ^ (min ((56 : Int)).toNat IntKind.u64.bits))))] : List Int)) ++ ([(IntKind.u8.wrap (Int.fdiv (IntKind.u64.wrap ((8 : Int) * (IntKind.u64.wrap ((m.length : Nat) : Int)))) (2 ^ (min ((48 : Int)).toNat IntKind.u64.bits))))] : List Int)) ++ ([(IntKind.u8.wrap (Int.fdiv (IntKind.u64.wrap ((8 : Int) * (IntKind.u64.wrap ((m.length : Nat) : Int)))) (2 ^ (min ((40 : Int)).toNat IntKind.u64.bits))))] : List Int)) ++ ([(IntKind.u8.wrap (Int.fdiv (IntKind.u64.wrap ((8 : Int) * (IntKind.u64.wrap ((m.length : Nat) : Int)))) (2 ^ (min ((32 : Int)).toNat IntKind.u64.bits))))] : List Int)) ++ ([(IntKind.u8.wrap (Int.fdiv (IntKind.u64.wrap ((8 : Int) * (IntKind.u64.wrap ((m.length : Nat) : Int)))) (2 ^ (min ((24 : Int)).toNat IntKind.u64.bits))))] : List Int)) ++ ([(IntKind.u8.wrap (Int.fdiv (IntKind.u64.wrap ((8 : Int) * (IntKind.u64.wrap ((m.length : Nat) : Int)))) (2 ^ (min ((16 : Int)).toNat IntKind.u64.bits))))] : List Int)) ++ ([(IntKind.u8.wrap (Int.fdiv (IntKind.u64.wrap ((8 : Int) * (IntKind.u64.wrap ((m.length : Nat) : Int)))) (2 ^ (min ((8 : Int)).toNat IntKind.u64.bits))))] : List Int)) ++ ([(IntKind.u8.wrap (Int.fdiv (IntKind.u64.wrap ((8 : Int) * (IntKind.u64.wrap ((m.length : Nat) : Int)))) (2 ^ (min ((0 : Int)).toNat IntKind.u64.bits))))] : List Int)).drop (x).toNat).take ((128 : Int)).toNat) = ((Sha.pad m).drop x.toNat).take 128 := by rw [hE]; rfl
 have hPl : P.length = m.length + 1 + Sha.zeros m.length := by rw [hP]; exact Sha.pad1_length m
 have hz := Sha.zeros_lt m.length
 have hpl := Sha.pad_length m
 refine Round.mk (⟨envI [0, 0, 0, q.a, q.b, q.c, q.d, q.e, q.f, q.g, q.h, x, n, r1.a, r1.b, r1.c, r1.d, r1.e, r1.f, r1.g, r1.h], envB [], envL [[], m, P], envP [ps], LS Ts, w⟩) [some 0, some 1, some 2, some 3, some 4, some 5, some 6, some 7, some 8, some 9, some 10, some 11, some 12, some 13, some 14, some 15, some 16, some 17, some 18, some 19, some 20, some 21, some 22] JB25 3000 13 [some true] [] ⟨⟨[(.one (.immP 0)), .undef, (.one (.ptr 1 0)), (.one JB99), (.one JB14), (.one JB49), (.one (.ptr 22 0)), .undef, .undef, (.one (.immP 0)), (.one JB15), (.one JB15), (.one JB50), (.one JB14), (.one JB15), (.one JB54), .undef, .undef, .undef, .undef, .undef, .undef, .undef, .undef, (.one JB38), (.one JB96), (.one JB18), (.one JB21), (.one JB49), (.one JB97), (.one JB14), (.one (.sc (.int .u64 JB3))), (.one JB49), (.one JB95), (.one JB66), (.one JB80), (.one (.sc (.int .u8 JB29))), (.one JB93), (.one JB65), (.one JB18), (.one JB17), (.one JB55), (.one (.sc (.int .i64 (.var 12)))), (.one JB84), (.one JB108), (.one JB55), (.one (.bsl 21 (.var 11) (.lit 128) false)), (.one JB100), (.one JB55), (.one JB99), .undef, .undef, .undef, .undef, .undef, .undef, .undef, .undef, .undef, .undef, .undef, .undef, .undef, .undef, .undef, .undef, .undef], [⟨Ts.ty 3, JB6, false, false, false, none⟩, JB0, JB32, JB26, JB52, JB76, JB71, JB62, JB42, JB73, JB70, JB58, JB43, JB77, JB69, JB63, JB44, JB75, JB72, JB61, JB57, JB48, ⟨96, [(.sc (.v 13)), (.sc (.v 14)), (.sc (.v 15)), (.sc (.v 16)), (.sc (.v 17)), (.sc (.v 18)), (.sc (.v 19)), (.sc (.v 20))], false, true, false, none⟩], [(3, 0)]⟩, 21, [], [], [.dec (.cmp .gtr (.var 12) (.lit 0)) true, .dec (.cmp .leq (.lit 128) (.var 12)) true, .dec (.cmp .leq (.sum (.var 11) (.lit 128)) (.sum JB7 (.lit 1))) true, .callS 85 [(.val JB108), (.bytes (.part (.app (.app JB9 JB22) (.cons JB29 .nil)) (.var 11) (.lit 128)))] [(.val JB100)], .dec (.cmp .leq (.lit 128) (.var 12)) true], []⟩ (by (refine ⟨?_, ?_, rfl, by first | decide | rfl, rfl, rfl⟩ <;> (repeat' (first | exact trivial | with_reducible rfl | apply And.intro | (show rn _ _ _; exact rfl) | (intro h; first | exact rfl | exact h) | simp only [I.den, I.ldn, Bx.den, envI, envB, envL, envP, List.getD_cons_succ, List.getD_cons_zero, List.getD_nil] | exact rfl)))) (by kernel_rfl) ⟨evs_of ⟨?_, ?_, ?_, ?_, ?_, trivial⟩, by simp⟩ ?_
 ·exact dec_gt_t (a := n) (b := 0) rfl rfl (by (try simp only [hPl]); omega)
 ·exact dec_le_t (a := 128) (b := n) rfl rfl (by (try simp only [hPl]); omega)
 ·exact dec_le_t (a := (x + (128 : Int))) (b := (((((((((((P.length : Nat) : Int) + (8 : Int)) + (1 : Int)) + (1 : Int)) + (1 : Int)) + (1 : Int)) + (1 : Int)) + (1 : Int)) + (1 : Int)) + (1 : Int))) rfl rfl (by (try simp only [hPl]); omega)
 ·exact takes_g Ts q (((((((((((P ++ ([(0 : Int), (0 : Int), (0 : Int), (0 : Int), (0 : Int), (0 : Int), (0 : Int), (0 : Int)] : List Int)) ++ ([(IntKind.u8.wrap (Int.fdiv (IntKind.u64.wrap ((8 : Int) * (IntKind.u64.wrap ((m.length : Nat) : Int)))) (2 ^ (min ((56 : Int)).toNat IntKind.u64.bits))))] : List Int)) ++ ([(IntKind.u8.wrap (Int.fdiv (IntKind.u64.wrap ((8 : Int) * (IntKind.u64.wrap ((m.length : Nat) : Int)))) (2 ^ (min ((48 : Int)).toNat IntKind.u64.bits))))] : List Int)) ++ ([(IntKind.u8.wrap (Int.fdiv (IntKind.u64.wrap ((8 : Int) * (IntKind.u64.wrap ((m.length : Nat) : Int)))) (2 ^ (min ((40 : Int)).toNat IntKind.u64.bits))))] : List Int)) ++ ([(IntKind.u8.wrap (Int.fdiv (IntKind.u64.wrap ((8 : Int) * (IntKind.u64.wrap ((m.length : Nat) : Int)))) (2 ^ (min ((32 : Int)).toNat IntKind.u64.bits))))] : List Int)) ++ ([(IntKind.u8.wrap (Int.fdiv (IntKind.u64.wrap ((8 : Int) * (IntKind.u64.wrap ((m.length : Nat) : Int)))) (2 ^ (min ((24 : Int)).toNat IntKind.u64.bits))))] : List Int)) ++ ([(IntKind.u8.wrap (Int.fdiv (IntKind.u64.wrap ((8 : Int) * (IntKind.u64.wrap ((m.length : Nat) : Int)))) (2 ^ (min ((16 : Int)).toNat IntKind.u64.bits))))] : List Int)) ++ ([(IntKind.u8.wrap (Int.fdiv (IntKind.u64.wrap ((8 : Int) * (IntKind.u64.wrap ((m.length : Nat) : Int)))) (2 ^ (min ((8 : Int)).toNat IntKind.u64.bits))))] : List Int)) ++ ([(IntKind.u8.wrap (Int.fdiv (IntKind.u64.wrap ((8 : Int) * (IntKind.u64.wrap ((m.length : Nat) : Int)))) (2 ^ (min ((0 : Int)).toNat IntKind.u64.bits))))] : List Int)).drop (x).toNat).take ((128 : Int)).toNat) (by rw [hL]; exact ((Sha.pad_bytes hb).drop _).take _) (by rw [hL, List.length_take, List.length_drop]; omega) (by rw [hL]; exact hr1)
 ·exact dec_le_t (a := 128) (b := n) rfl rfl (by (try simp only [hPl]); omega)
 ·(refine ⟨?_, ?_, rfl, by first | decide | rfl, rfl, rfl⟩ <;> (repeat' (first | exact trivial | with_reducible rfl | apply And.intro | (show rn _ _ _; exact rfl) | (intro h; first | exact rfl | exact h) | simp only [I.den, I.ldn, Bx.den, envI, envB, envL, envP, List.getD_cons_succ, List.getD_cons_zero, List.getD_nil] | exact rfl)))
  all_goals first | rfl | (rw [hr1]) | omega
theorem sblk_last (w : World) (ps : List (List Int)) (m : List Int) (P : List Int) (Ts : TS) (q : Sha.St) (x : Int) (n : Int) (h0 : n ≤ 0) : Round Tryd.prog (loopOf Tryd.f53 2) (sblk_head Ts) (sblk_env Ts w ps m P q x n) (.exit 4) (sblk_head Ts) (sblk_env Ts w ps m P q x n) := by
 refine Round.mk (⟨envI [0, 0, 0, q.a, q.b, q.c, q.d, q.e, q.f, q.g, q.h, x, n], envB [], envL [[], m, P], envP [ps], LS Ts, w⟩) [some 0, some 1, some 2, some 3, some 4, some 5, some 6, some 7, some 8, some 9, some 10, some 11, some 12, some 13, some 14, some 15, some 16, some 17, some 18, some 19, some 20, some 21, some 22] JB25 3000 13 [some false] [] ⟨⟨[(.one (.immP 0)), .undef, (.one (.ptr 1 0)), (.one JB55), (.one JB14), (.one JB49), (.one (.ptr 22 0)), .undef, .undef, (.one (.immP 0)), (.one JB15), (.one JB15), (.one JB50), (.one JB14), (.one JB15), (.one JB54), .undef, .undef, .undef, .undef, .undef, .undef, .undef, .undef, (.one JB38), (.one JB96), (.one JB18), (.one JB21), (.one JB49), (.one JB97), (.one JB14), (.one (.sc (.int .u64 JB3))), (.one JB49), (.one JB95), (.one JB66), (.one JB80), (.one (.sc (.int .u8 JB29))), (.one JB93), (.one JB65), (.one JB18), (.one JB17), (.one JB55), (.one (.sc (.int .i64 (.var 12)))), (.one JB21), .undef, .undef, .undef, .undef, .undef, .undef, .undef, .undef, .undef, .undef, .undef, .undef, .undef, .undef, .undef, .undef, .undef, .undef, .undef, .undef, .undef, .undef, .undef], [⟨Ts.ty 3, JB6, false, false, false, none⟩, JB0, JB32, JB26, JB52, JB76, JB71, JB62, JB42, JB73, JB70, JB58, JB43, JB77, JB69, JB63, JB44, JB75, JB72, JB61, JB57, JB48, JB40], [(3, 0)]⟩, 13, [], [], [.dec (.cmp .gtr (.var 12) (.lit 0)) false], []⟩ (by (refine ⟨?_, ?_, rfl, by first | decide | rfl, rfl, rfl⟩ <;> (repeat' (first | exact trivial | with_reducible rfl | apply And.intro | (show rn _ _ _; exact rfl) | (intro h; first | exact rfl | exact h) | simp only [I.den, I.ldn, Bx.den, envI, envB, envL, envP, List.getD_cons_succ, List.getD_cons_zero, List.getD_nil] | exact rfl)))) (by kernel_rfl) ⟨evs_of ⟨?_, trivial⟩, by simp⟩ ?_
 ·exact dec_gt_f (a := n) (b := 0) rfl rfl (by omega)
 ·(refine ⟨?_, ?_, rfl, by first | decide | rfl, rfl, rfl⟩ <;> (repeat' (first | exact trivial | with_reducible rfl | apply And.intro | (show rn _ _ _; exact rfl) | (intro h; first | exact rfl | exact h) | simp only [I.den, I.ldn, Bx.den, envI, envB, envL, envP, List.getD_cons_succ, List.getD_cons_zero, List.getD_nil] | exact rfl)))
theorem sblk_rounds (Ts : TS) (w : World) (ps : List (List Int)) (m P : List Int) (hb : IsBytes m) (hl : m.length ≤ 549755813888) (hP : P = Sha.pad1 m) (q : Sha.St) (hq : q = Sha.blocks Sha.start (Sha.pad m) ((Sha.pad m).length / 128)) (L : Int) (hL : L = (((Sha.pad m).length : Nat) : Int)) (v : Env) {r0 r1 : List (Option Nat)} (start : Fm.to v (sblk_env Ts w ps m P Sha.start 0 L) r0 (sblk_pre Ts) (sblk_head Ts)) (fin : Fm.to (sblk_env Ts w ps m P q L 0) v r1 (sblk_head Ts) (sblk_head Ts)) :
  LEv.holds Tryd.prog v ⟨loopOf Tryd.f53 2, sblk_pre Ts, sblk_head Ts, (.exit 4)⟩ := by
 have hp := Sha.pad_128 m
 rw [hq] at fin
 rw [hL] at start fin
 refine loop_rounds (r0 := r0) (n := (Sha.pad m).length / 128) (head := sblk_head Ts) (fun k => sblk_env Ts w ps m P (Sha.blocks Sha.start (Sha.pad m) k) ((128 * k : Nat) : Int) (((Sha.pad m).length : Int) - ((128 * k : Nat) : Int))) ?_ ?_ (sblk_env Ts w ps m P (Sha.blocks Sha.start (Sha.pad m) ((Sha.pad m).length / 128)) (((Sha.pad m).length : Nat) : Int) 0) ?_ fin (by decide)
 ·show Fm.to v (sblk_env Ts w ps m P Sha.start ((0 : Nat) : Int) (((Sha.pad m).length : Int) - ((0 : Nat) : Int))) _ _ _
  rw [show (((Sha.pad m).length : Int) - ((0 : Nat) : Int)) = (((Sha.pad m).length : Nat) : Int) by omega]
  exact start
 ·intro k hk
  have h := sblk_more w ps m P Ts (Sha.blocks Sha.start (Sha.pad m) k) ((128 * k : Nat) : Int) (((Sha.pad m).length : Int) - ((128 * k : Nat) : Int)) hb hl hP (by omega) (by omega) (by omega)
  rw [Int.toNat_natCast] at h
  show Round _ _ _ _ _ _ (sblk_env Ts w ps m P (Sha.take (Sha.blocks Sha.start (Sha.pad m) k) (((Sha.pad m).drop (128 * k)).take 128)) ((128 * (k + 1) : Nat) : Int) (((Sha.pad m).length : Int) - ((128 * (k + 1) : Nat) : Int)))
  rw [show ((128 * (k + 1) : Nat) : Int) = ((128 * k : Nat) : Int) + 128 by omega, show (((Sha.pad m).length : Int) - (((128 * k : Nat) : Int) + 128)) = ((Sha.pad m).length : Int) - ((128 * k : Nat) : Int) - 128 by omega]
  exact h
 ·show Round _ _ _ (sblk_env Ts w ps m P (Sha.blocks Sha.start (Sha.pad m) ((Sha.pad m).length / 128)) ((128 * ((Sha.pad m).length / 128) : Nat) : Int) (((Sha.pad m).length : Int) - ((128 * ((Sha.pad m).length / 128) : Nat) : Int))) _ _ _
  rw [show 128 * ((Sha.pad m).length / 128) = (Sha.pad m).length by omega, show (((Sha.pad m).length : Int) - (((Sha.pad m).length : Nat) : Int)) = 0 by omega]
  exact sblk_last w ps m P Ts _ _ _ (by omega)
set_option maxRecDepth 100000 in
theorem ssum_run (ps : List (List Int)) (Ts : TS) (m : List Int) (hm : m = ps.flatten) (hb : IsBytes m) (hl : m.length ≤ 549755813888) (hp : ps.length ≤ 1099511627776) (P : List Int) (hP : P = Sha.pad1 m) (q : Sha.St) (hq : q = Sha.blocks Sha.start (Sha.pad m) ((Sha.pad m).length / 128)) (L : Int) (hL : L = (((Sha.pad m).length : Nat) : Int)) {H : List Int} (hH : H = Sha.out q) : CallS Tryd.prog (LS Ts) 53 [.parts ps] [.val (arrC H)] := by
 refine callS_of Tryd.func53 (by kernel_rfl) (by kernel_rfl) (fun w us hK hG ha => ?_)
 obtain ⟨u0, _, rfl, hu0, rfl⟩ := ha
 have hPl : P.length = m.length + 1 + Sha.zeros m.length := by rw [hP]; exact Sha.pad1_length m
 have hz := Sha.zeros_lt m.length
 have hpl := Sha.pad_length m
 have hrun := calls_of_runS (P := Tryd.prog) (v := ⟨envI [0, 0, 0, q.a, q.b, q.c, q.d, q.e, q.f, q.g, q.h, L, (0 : Int)], envB [], envL [[], m, P], envP [ps], LS Ts, w⟩) (gs := (shGs Ts [v_first])) (fuel := 3000) (nv := 1) (args := [(.immP 0)]) (ora := []) (sums := [some ⟨[(3, (.one JB38)), (16, .undef)], [(4, JB87)], 3, (.exit 0)⟩, none, some ⟨[(3, (.one JB55))], [(22, JB40)], 13, (.exit 4)⟩, none]) (r := ⟨[(.val (.agg [.int .u8 (.conv .u8 (.shr .u64 (.var 3) (.lit 56))), .int .u8 (.conv .u8 (.shr .u64 (.var 3) (.lit 48))), .int .u8 (.conv .u8 (.shr .u64 (.var 3) (.lit 40))), .int .u8 (.conv .u8 (.shr .u64 (.var 3) (.lit 32))), .int .u8 (.conv .u8 (.shr .u64 (.var 3) (.lit 24))), .int .u8 (.conv .u8 (.shr .u64 (.var 3) (.lit 16))), .int .u8 (.conv .u8 (.shr .u64 (.var 3) (.lit 8))), .int .u8 (.conv .u8 (.shr .u64 (.var 3) (.lit 0))), .int .u8 (.conv .u8 (.shr .u64 (.var 4) (.lit 56))), .int .u8 (.conv .u8 (.shr .u64 (.var 4) (.lit 48))), .int .u8 (.conv .u8 (.shr .u64 (.var 4) (.lit 40))), .int .u8 (.conv .u8 (.shr .u64 (.var 4) (.lit 32))), .int .u8 (.conv .u8 (.shr .u64 (.var 4) (.lit 24))), .int .u8 (.conv .u8 (.shr .u64 (.var 4) (.lit 16))), .int .u8 (.conv .u8 (.shr .u64 (.var 4) (.lit 8))), .int .u8 (.conv .u8 (.shr .u64 (.var 4) (.lit 0))), .int .u8 (.conv .u8 (.shr .u64 (.var 5) (.lit 56))), .int .u8 (.conv .u8 (.shr .u64 (.var 5) (.lit 48))), .int .u8 (.conv .u8 (.shr .u64 (.var 5) (.lit 40))), .int .u8 (.conv .u8 (.shr .u64 (.var 5) (.lit 32))), .int .u8 (.conv .u8 (.shr .u64 (.var 5) (.lit 24))), .int .u8 (.conv .u8 (.shr .u64 (.var 5) (.lit 16))), .int .u8 (.conv .u8 (.shr .u64 (.var 5) (.lit 8))), .int .u8 (.conv .u8 (.shr .u64 (.var 5) (.lit 0))), .int .u8 (.conv .u8 (.shr .u64 (.var 6) (.lit 56))), .int .u8 (.conv .u8 (.shr .u64 (.var 6) (.lit 48))), .int .u8 (.conv .u8 (.shr .u64 (.var 6) (.lit 40))), .int .u8 (.conv .u8 (.shr .u64 (.var 6) (.lit 32))), .int .u8 (.conv .u8 (.shr .u64 (.var 6) (.lit 24))), .int .u8 (.conv .u8 (.shr .u64 (.var 6) (.lit 16))), .int .u8 (.conv .u8 (.shr .u64 (.var 6) (.lit 8))), .int .u8 (.conv .u8 (.shr .u64 (.var 6) (.lit 0))), .int .u8 (.conv .u8 (.shr .u64 (.var 7) (.lit 56))), .int .u8 (.conv .u8 (.shr .u64 (.var 7) (.lit 48))), .int .u8 (.conv .u8 (.shr .u64 (.var 7) (.lit 40))), .int .u8 (.conv .u8 (.shr .u64 (.var 7) (.lit 32))), .int .u8 (.conv .u8 (.shr .u64 (.var 7) (.lit 24))), .int .u8 (.conv .u8 (.shr .u64 (.var 7) (.lit 16))), .int .u8 (.conv .u8 (.shr .u64 (.var 7) (.lit 8))), .int .u8 (.conv .u8 (.shr .u64 (.var 7) (.lit 0))), .int .u8 (.conv .u8 (.shr .u64 (.var 8) (.lit 56))), .int .u8 (.conv .u8 (.shr .u64 (.var 8) (.lit 48))), .int .u8 (.conv .u8 (.shr .u64 (.var 8) (.lit 40))), .int .u8 (.conv .u8 (.shr .u64 (.var 8) (.lit 32))), .int .u8 (.conv .u8 (.shr .u64 (.var 8) (.lit 24))), .int .u8 (.conv .u8 (.shr .u64 (.var 8) (.lit 16))), .int .u8 (.conv .u8 (.shr .u64 (.var 8) (.lit 8))), .int .u8 (.conv .u8 (.shr .u64 (.var 8) (.lit 0))), .int .u8 (.conv .u8 (.shr .u64 (.var 9) (.lit 56))), .int .u8 (.conv .u8 (.shr .u64 (.var 9) (.lit 48))), .int .u8 (.conv .u8 (.shr .u64 (.var 9) (.lit 40))), .int .u8 (.conv .u8 (.shr .u64 (.var 9) (.lit 32))), .int .u8 (.conv .u8 (.shr .u64 (.var 9) (.lit 24))), .int .u8 (.conv .u8 (.shr .u64 (.var 9) (.lit 16))), .int .u8 (.conv .u8 (.shr .u64 (.var 9) (.lit 8))), .int .u8 (.conv .u8 (.shr .u64 (.var 9) (.lit 0))), .int .u8 (.conv .u8 (.shr .u64 (.var 10) (.lit 56))), .int .u8 (.conv .u8 (.shr .u64 (.var 10) (.lit 48))), .int .u8 (.conv .u8 (.shr .u64 (.var 10) (.lit 40))), .int .u8 (.conv .u8 (.shr .u64 (.var 10) (.lit 32))), .int .u8 (.conv .u8 (.shr .u64 (.var 10) (.lit 24))), .int .u8 (.conv .u8 (.shr .u64 (.var 10) (.lit 16))), .int .u8 (.conv .u8 (.shr .u64 (.var 10) (.lit 8))), .int .u8 (.conv .u8 (.shr .u64 (.var 10) (.lit 0)))]))], [.callS 27 [(.partsV 0)] [(.fresh 5 (.lvar 1) (.lit 0) (.len (.lvar 1)) true)], .dec (.cmp .leq JB102 (.lit 1099511627776)) true, .dec (.cmp .leq JB41 (.lit 1099511627776)) true, .dec (.cmp .leq (.sum JB41 (.lit 1)) (.lit 1099511627776)) true, .dec (.cmp .leq (.sum (.sum JB41 (.lit 1)) (.lit 1)) (.lit 1099511627776)) true, .dec (.cmp .leq JB68 (.lit 1099511627776)) true, .dec (.cmp .leq (.sum JB68 (.lit 1)) (.lit 1099511627776)) true, .dec (.cmp .leq (.sum (.sum JB68 (.lit 1)) (.lit 1)) (.lit 1099511627776)) true, .dec (.cmp .leq (.sum (.sum (.sum JB68 (.lit 1)) (.lit 1)) (.lit 1)) (.lit 1099511627776)) true, .dec (.cmp .leq JB7 (.lit 1099511627776)) true, .dec (.cmp .leq (.sum JB7 (.lit 1)) (.lit 1099511627776)) true], [⟨loopOf Tryd.f53 0, spad_pre Ts, spad_head Ts, (.exit 0)⟩, ⟨loopOf Tryd.f53 2, sblk_pre Ts, sblk_head Ts, (.exit 4)⟩]⟩) Tryd.func53 (by kernel_rfl)
  (evs_of ⟨?_, ?_, ?_, ?_, ?_, ?_, ?_, ?_, ?_, ?_, ?_, trivial⟩) (levs_of ⟨?_, ?_, trivial⟩) (varsOkS Ts _ (List.forall_mem_cons.2 ⟨Ts.first, (List.forall_mem_nil _)⟩) (by decide)) hK hG _ (⟨u0, _, rfl, hu0, rfl⟩)
 ·exact runS_eq hrun (by (rw [hH]; kernel_rfl))
 ·exact CallS.g (concat_s ps (by rw [← hm]; omega) hp _ rfl hm)
 ·exact dec_le_t (a := (((m.length : Nat) : Int) + (1 : Int))) (b := 1099511627776) rfl rfl (by omega)
 ·exact dec_le_t (a := (((P.length : Nat) : Int) + (8 : Int))) (b := 1099511627776) rfl rfl (by omega)
 ·exact dec_le_t (a := ((((P.length : Nat) : Int) + (8 : Int)) + (1 : Int))) (b := 1099511627776) rfl rfl (by omega)
 ·exact dec_le_t (a := (((((P.length : Nat) : Int) + (8 : Int)) + (1 : Int)) + (1 : Int))) (b := 1099511627776) rfl rfl (by omega)
 ·exact dec_le_t (a := ((((((P.length : Nat) : Int) + (8 : Int)) + (1 : Int)) + (1 : Int)) + (1 : Int))) (b := 1099511627776) rfl rfl (by omega)
 ·exact dec_le_t (a := (((((((P.length : Nat) : Int) + (8 : Int)) + (1 : Int)) + (1 : Int)) + (1 : Int)) + (1 : Int))) (b := 1099511627776) rfl rfl (by omega)
 ·exact dec_le_t (a := ((((((((P.length : Nat) : Int) + (8 : Int)) + (1 : Int)) + (1 : Int)) + (1 : Int)) + (1 : Int)) + (1 : Int))) (b := 1099511627776) rfl rfl (by omega)
 ·exact dec_le_t (a := (((((((((P.length : Nat) : Int) + (8 : Int)) + (1 : Int)) + (1 : Int)) + (1 : Int)) + (1 : Int)) + (1 : Int)) + (1 : Int))) (b := 1099511627776) rfl rfl (by omega)
 ·exact dec_le_t (a := ((((((((((P.length : Nat) : Int) + (8 : Int)) + (1 : Int)) + (1 : Int)) + (1 : Int)) + (1 : Int)) + (1 : Int)) + (1 : Int)) + (1 : Int))) (b := 1099511627776) rfl rfl (by omega)
 ·exact dec_le_t (a := (((((((((((P.length : Nat) : Int) + (8 : Int)) + (1 : Int)) + (1 : Int)) + (1 : Int)) + (1 : Int)) + (1 : Int)) + (1 : Int)) + (1 : Int)) + (1 : Int))) (b := 1099511627776) rfl rfl (by omega)
 ·(refine spad_rounds Ts w ps m hl P hP _ (r0 := JB109) (r1 := [some 0, some 1, some 2, some 3, some 4]) ?_ ?_ <;> clear hq hH hP hL hm hPl <;> (refine ⟨?_, ?_, rfl, by first | decide | rfl, rfl, rfl⟩ <;> (repeat' (first | exact trivial | with_reducible rfl | apply And.intro | (show rn _ _ _; exact rfl) | (intro h; first | exact rfl | exact h) | simp only [I.den, I.ldn, Bx.den, envI, envB, envL, envP, List.getD_cons_succ, List.getD_cons_zero, List.getD_nil] | exact rfl))) <;> (simp; done))
 ·(refine sblk_rounds Ts w ps m P hb hl hP q hq L hL _ (r0 := JB25) (r1 := [some 0, some 1, some 2, some 3, some 4, some 5, some 6, some 7, some 8, some 9, some 10, some 11, some 12, some 13, some 14, some 15, some 16, some 17, some 18, some 19, some 20, some 21, some 22]) ?_ ?_ <;> clear hq hH hP hm <;> (refine ⟨?_, ?_, rfl, by first | decide | rfl, rfl, rfl⟩ <;> (repeat' (first | exact trivial | with_reducible rfl | apply And.intro | (show rn _ _ _; exact rfl) | (intro h; first | exact rfl | exact h) | simp only [I.den, I.ldn, Bx.den, envI, envB, envL, envP, List.getD_cons_succ, List.getD_cons_zero, List.getD_nil] | exact rfl))) <;> omega)
theorem ssum_g (Ts : TS) (ps : List (List Int)) (hb : IsBytes ps.flatten) (hl : ps.flatten.length ≤ 549755813888) (hp : ps.length ≤ 1099511627776) {H : List Int} (hH : H = Sha.sum ps.flatten) : CallS Tryd.prog (LS Ts) 53 [.parts ps] [.val (arrC H)] :=
 ssum_run ps Ts _ rfl hb hl hp _ rfl _ rfl _ rfl hH
end Go.Proofs.YtkckmpnkacdchaaDoor
namespace Go.Proofs.YtkckmpnkacdchaaDoor
open Go.RowKit Go.Num Go.Sx
theorem arr64_eq {H : List Int} (h : H.length = 64) : (.agg (H.map (Value.int .u8)).toArray : Value) = .agg ((List.range 64).map fun i => Value.int .u8 (H.getD i 0)).toArray := by
 conv => lhs; rw [Sha.list64 h]
 rw [List.map_map]
 rfl
theorem ssum64_g (Ts : TS) (ps : List (List Int)) (hb : IsBytes ps.flatten) (hl : ps.flatten.length ≤ 549755813888) (hp : ps.length ≤ 1099511627776) {H : List Int} (hH : H = Sha.sum ps.flatten) : CallS Tryd.prog (LS Ts) 53 [.parts ps] [.val (.agg ((List.range 64).map fun i => Value.int .u8 (H.getD i 0)).toArray)] := by
 have h := ssum_g Ts ps hb hl hp hH
 rw [show arrC H = _ from arr64_eq (H := H) (by rw [hH]; exact Sha.sum_length _)] at h
 exact h
theorem ssumq_g (Ts : TS) {ps p : List (List Int)} (e : p = ps) (hb : IsBytes p.flatten) (hl : p.flatten.length ≤ 549755813888) (hp : p.length ≤ 1099511627776) {H : List Int} (hH : H = Sha.sum p.flatten) : CallS Tryd.prog (LS Ts) 53 [.parts ps] [.val (.agg ((List.range 64).map fun i => Value.int .u8 (H.getD i 0)).toArray)] := by
 subst e
 exact ssum64_g Ts p hb hl hp hH
end Go.Proofs.YtkckmpnkacdchaaDoor
