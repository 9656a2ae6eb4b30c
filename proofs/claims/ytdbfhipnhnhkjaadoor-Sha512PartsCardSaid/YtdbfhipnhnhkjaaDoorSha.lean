/- SHA-512, as a law of lists: words, schedule, rounds, padding. -/
import Derived.Test.YtdbfhipnhnhkjaaDoorBytes
import Derived.Laws.BitsAllLaws
import Derived.Laws.Closers25b
set_option linter.unusedVariables false
set_option linter.unusedSimpArgs false
namespace Go.Sha
open Go Go.Num

def M64 : Int := 18446744073709551616
def addI (x y : Int) : Int := IntKind.u64.wrap (x + y)
/-- a word turned right by n -/
def rotI (x : Int) (n : Nat) : Int := Go.bits .or .u64 (Int.fdiv x (2 ^ n)) (IntKind.u64.wrap (x * 2 ^ (64 - n)))
def xorI (x y : Int) : Int := Go.bits .xor .u64 x y
def andI (x y : Int) : Int := Go.bits .and .u64 x y
def sig0 (x : Int) : Int := xorI (xorI (rotI x 1) (rotI x 8)) (Int.fdiv x (2 ^ 7))
def sig1 (x : Int) : Int := xorI (xorI (rotI x 19) (rotI x 61)) (Int.fdiv x (2 ^ 6))
def big0 (x : Int) : Int := xorI (xorI (rotI x 28) (rotI x 34)) (rotI x 39)
def big1 (x : Int) : Int := xorI (xorI (rotI x 14) (rotI x 18)) (rotI x 41)
def ch (e f g : Int) : Int := xorI (andI e f) (andI (xorI 18446744073709551615 e) g)
def maj (a b c : Int) : Int := xorI (xorI (andI a b) (andI a c)) (andI b c)
def newW (W : List Int) (t : Nat) : Int := addI (addI (addI (sig1 (W.getD (t - 2) 0)) (W.getD (t - 7) 0)) (sig0 (W.getD (t - 15) 0))) (W.getD (t - 16) 0)
def sched (W : List Int) (t : Nat) : List Int := W.set t (newW W t)
def schedN (W : List Int) : Nat → List Int
  | 0 => W
  | k + 1 => sched (schedN W k) (16 + k)
structure St where
  a : Int
  b : Int
  c : Int
  d : Int
  e : Int
  f : Int
  g : Int
  h : Int
def t1 (s : St) (k w : Int) : Int := addI (addI (addI (addI s.h (big1 s.e)) (ch s.e s.f s.g)) k) w
def t2 (s : St) : Int := addI (big0 s.a) (maj s.a s.b s.c)
def round (s : St) (k w : Int) : St := ⟨addI (t1 s k w) (t2 s), s.a, s.b, s.c, addI s.d (t1 s k w), s.e, s.f, s.g⟩
def K : List Int := [4794697086780616226, 8158064640168781261, 13096744586834688815, 16840607885511220156, 4131703408338449720, 6480981068601479193, 10538285296894168987, 12329834152419229976, 15566598209576043074, 1334009975649890238, 2608012711638119052, 6128411473006802146, 8268148722764581231, 9286055187155687089, 11230858885718282805, 13951009754708518548, 16472876342353939154, 17275323862435702243, 1135362057144423861, 2597628984639134821, 3308224258029322869, 5365058923640841347, 6679025012923562964, 8573033837759648693, 10970295158949994411, 12119686244451234320, 12683024718118986047, 13788192230050041572, 14330467153632333762, 15395433587784984357, 489312712824947311, 1452737877330783856, 2861767655752347644, 3322285676063803686, 5560940570517711597, 5996557281743188959, 7280758554555802590, 8532644243296465576, 9350256976987008742, 10552545826968843579, 11727347734174303076, 12113106623233404929, 14000437183269869457, 14369950271660146224, 15101387698204529176, 15463397548674623760, 17586052441742319658, 1182934255886127544, 1847814050463011016, 2177327727835720531, 2830643537854262169, 3796741975233480872, 4115178125766777443, 5681478168544905931, 6601373596472566643, 7507060721942968483, 8399075790359081724, 8693463985226723168, 9568029438360202098, 10144078919501101548, 10430055236837252648, 11840083180663258601, 13761210420658862357, 14299343276471374635, 14566680578165727644, 15097957966210449927, 16922976911328602910, 17689382322260857208, 500013540394364858, 748580250866718886, 1242879168328830382, 1977374033974150939, 2944078676154940804, 3659926193048069267, 4368137639120453308, 4836135668995329356, 5532061633213252278, 6448918945643986474, 6902733635092675308, 7801388544844847127]
def rounds (W : List Int) (s : St) : Nat → St
  | 0 => s
  | k + 1 => round (rounds W s k) (K.getD k 0) (W.getD k 0)
/-- eight bytes as a word, the greatest first -/
def be8 (c0 c1 c2 c3 c4 c5 c6 c7 : Int) : Int := ((((((c0 * 256 + c1) * 256 + c2) * 256 + c3) * 256 + c4) * 256 + c5) * 256 + c6) * 256 + c7
def wd (l : List Int) (j : Nat) : Int := be8 (l.getD (8 * j) 0) (l.getD (8 * j + 1) 0) (l.getD (8 * j + 2) 0) (l.getD (8 * j + 3) 0) (l.getD (8 * j + 4) 0) (l.getD (8 * j + 5) 0) (l.getD (8 * j + 6) 0) (l.getD (8 * j + 7) 0)
def words (l : List Int) : List Int := [wd l 0, wd l 1, wd l 2, wd l 3, wd l 4, wd l 5, wd l 6, wd l 7, wd l 8, wd l 9, wd l 10, wd l 11, wd l 12, wd l 13, wd l 14, wd l 15] ++ List.replicate 64 0
def stAdd (s r : St) : St := ⟨addI s.a r.a, addI s.b r.b, addI s.c r.c, addI s.d r.d, addI s.e r.e, addI s.f r.f, addI s.g r.g, addI s.h r.h⟩
def take (s : St) (l : List Int) : St := stAdd s (rounds (schedN (words l) 64) s 80)
def start : St := ⟨7640891576956012808, 13503953896175478587, 4354685564936845355, 11912009170470909681, 5840696475078001361, 11170449401992604703, 2270897969802886507, 6620516959819538809⟩
/-- how many noughts go behind the byte 128 -/
def zeros (n : Nat) : Nat := (239 - n % 128) % 128
def lenB (n : Nat) : List Int := [((8 * n / 2 ^ 56 % 256 : Nat) : Int), ((8 * n / 2 ^ 48 % 256 : Nat) : Int), ((8 * n / 2 ^ 40 % 256 : Nat) : Int), ((8 * n / 2 ^ 32 % 256 : Nat) : Int), ((8 * n / 2 ^ 24 % 256 : Nat) : Int), ((8 * n / 2 ^ 16 % 256 : Nat) : Int), ((8 * n / 2 ^ 8 % 256 : Nat) : Int), ((8 * n % 256 : Nat) : Int)]
def pad (m : List Int) : List Int := ((m ++ [128]) ++ List.replicate (zeros m.length) 0) ++ (List.replicate 8 0 ++ lenB m.length)
def blocks (s : St) (l : List Int) : Nat → St
  | 0 => s
  | k + 1 => take (blocks s l k) ((l.drop (128 * k)).take 128)
def byteI (x : Int) (n : Nat) : Int := IntKind.u8.wrap (Int.fdiv x (2 ^ n))
def outW (x : Int) : List Int := [byteI x 56, byteI x 48, byteI x 40, byteI x 32, byteI x 24, byteI x 16, byteI x 8, byteI x 0]
def out (s : St) : List Int := outW s.a ++ outW s.b ++ outW s.c ++ outW s.d ++ outW s.e ++ outW s.f ++ outW s.g ++ outW s.h
def sum (m : List Int) : List Int := out (blocks start (pad m) ((pad m).length / 128))

theorem sum_abc : (sum [97, 98, 99]).getD 0 0 = 221 ∧ (sum [97, 98, 99]).getD 1 0 = 175 ∧ (sum [97, 98, 99]).getD 2 0 = 53 ∧ (sum [97, 98, 99]).getD 3 0 = 161 := by decide +kernel

/-! ### bits, whatever they are of -/
theorem ofInt_wrap (x : Int) : BitVec.ofInt 64 (IntKind.u64.wrap x) = BitVec.ofInt 64 x := by
  apply BitVec.eq_of_toNat_eq
  rw [BitVec.toNat_ofInt, BitVec.toNat_ofInt, IntKind.wrap_u64]
  congr 1
  omega
theorem bv_nat (X : BitVec 64) : BitVec.ofInt 64 ((X.toNat : Nat) : Int) = X := by
  rw [BitVec.ofInt_natCast, BitVec.ofNat_toNat, BitVec.setWidth_eq]
theorem bits_xor (a b : Int) : Go.bits .xor .u64 a b = IntKind.u64.wrap (((BitVec.ofInt 64 a ^^^ BitVec.ofInt 64 b).toNat : Nat) : Int) := rfl
theorem bits_or (a b : Int) : Go.bits .or .u64 a b = IntKind.u64.wrap (((BitVec.ofInt 64 a ||| BitVec.ofInt 64 b).toNat : Nat) : Int) := rfl
theorem bits_and (a b : Int) : Go.bits .and .u64 a b = IntKind.u64.wrap (((BitVec.ofInt 64 a &&& BitVec.ofInt 64 b).toNat : Nat) : Int) := rfl
theorem bv_xor (a b : Int) : BitVec.ofInt 64 (Go.bits .xor .u64 a b) = BitVec.ofInt 64 a ^^^ BitVec.ofInt 64 b := by rw [bits_xor, ofInt_wrap, bv_nat]
theorem bv_or (a b : Int) : BitVec.ofInt 64 (Go.bits .or .u64 a b) = BitVec.ofInt 64 a ||| BitVec.ofInt 64 b := by rw [bits_or, ofInt_wrap, bv_nat]
theorem bv_and (a b : Int) : BitVec.ofInt 64 (Go.bits .and .u64 a b) = BitVec.ofInt 64 a &&& BitVec.ofInt 64 b := by rw [bits_and, ofInt_wrap, bv_nat]
theorem bv_not (e : Int) : BitVec.ofInt 64 (IntKind.u64.wrap (18446744073709551615 - e)) = BitVec.ofInt 64 18446744073709551615 ^^^ BitVec.ofInt 64 e := by
  rw [ofInt_wrap, show BitVec.ofInt 64 18446744073709551615 = BitVec.allOnes 64 by decide, BitVec.allOnes_xor]
  apply BitVec.eq_of_toNat_eq
  rw [BitVec.toNat_not, BitVec.toNat_ofInt, BitVec.toNat_ofInt]
  omega
theorem or_comm (a b : Int) : Go.bits .or .u64 a b = Go.bits .or .u64 b a := by rw [bits_or, bits_or, BitVec.or_comm]
/-- what is chosen, with 'or' in the place of 'xor' -/
theorem ch_or (e f g : Int) : Go.bits .or .u64 (Go.bits .and .u64 e f) (Go.bits .and .u64 (IntKind.u64.wrap (18446744073709551615 - e)) g) = ch e f g := by
  unfold ch xorI andI
  rw [bits_or, bits_xor, bv_and, bv_and, bv_and, bv_not, bv_xor]
  refine congrArg (fun (X : BitVec 64) => IntKind.u64.wrap ((X.toNat : Nat) : Int)) ?_
  rw [show BitVec.ofInt 64 18446744073709551615 = BitVec.allOnes 64 by decide, BitVec.allOnes_xor]
  ext i hi
  simp only [BitVec.getElem_or, BitVec.getElem_and, BitVec.getElem_xor, BitVec.getElem_not]
  cases (BitVec.ofInt 64 e)[i] <;> cases (BitVec.ofInt 64 f)[i] <;> cases (BitVec.ofInt 64 g)[i] <;> rfl
theorem maj_or (a b c : Int) : Go.bits .or .u64 (Go.bits .or .u64 (Go.bits .and .u64 a b) (Go.bits .and .u64 a c)) (Go.bits .and .u64 b c) = maj a b c := by
  unfold maj xorI andI
  rw [bits_or, bv_or, bits_xor, bv_xor, bv_and, bv_and, bv_and]
  refine congrArg (fun (X : BitVec 64) => IntKind.u64.wrap ((X.toNat : Nat) : Int)) ?_
  ext i hi
  simp only [BitVec.getElem_or, BitVec.getElem_and, BitVec.getElem_xor]
  cases (BitVec.ofInt 64 a)[i] <;> cases (BitVec.ofInt 64 b)[i] <;> cases (BitVec.ofInt 64 c)[i] <;> rfl

/-! ### words -/
def IsWord (x : Int) : Prop := 0 ≤ x ∧ x < 18446744073709551616
def IsWords (l : List Int) : Prop := ∀ x ∈ l, IsWord x
theorem addI_word (x y : Int) : IsWord (addI x y) := by
  unfold addI IsWord
  rw [IntKind.wrap_u64]
  omega
theorem IsWords.get {l : List Int} (h : IsWords l) (j : Nat) : IsWord (l.getD j 0) := by
  rw [List.getD_eq_getElem?_getD]
  cases e : l[j]? with
  | none => exact ⟨Int.le_refl 0, by decide⟩
  | some x => exact h x (List.mem_of_getElem? e)
theorem IsWords.set {l : List Int} (h : IsWords l) (j : Nat) {x : Int} (hx : IsWord x) : IsWords (l.set j x) := fun y hy => by
  rcases List.mem_or_eq_of_mem_set hy with h1 | h1
  · exact h y h1
  · rw [h1]; exact hx
theorem sched_words {W : List Int} (h : IsWords W) (t : Nat) : IsWords (sched W t) := h.set t (addI_word _ _)
theorem schedN_words {W : List Int} (h : IsWords W) : ∀ k, IsWords (schedN W k)
  | 0 => h
  | k + 1 => sched_words (schedN_words h k) _
theorem schedN_length (W : List Int) : ∀ k, (schedN W k).length = W.length
  | 0 => rfl
  | k + 1 => by
    show (sched (schedN W k) (16 + k)).length = _
    unfold sched
    rw [List.length_set, schedN_length W k]
theorem quo_pow {x : Int} (h : IsWord x) (n : Nat) (d : Int) (hd : d = 2 ^ n) (h1 : 1 ≤ d) : IntKind.u64.wrap (Int.tdiv x d) = Int.fdiv x (2 ^ n) := by
  rw [← hd, IntKind.wrap_u64, Int.tdiv_eq_ediv_of_nonneg h.1, Int.fdiv_eq_ediv_of_nonneg _ (by omega)]
  have h2 : 0 ≤ x / d := Int.ediv_nonneg h.1 (by omega)
  have h3 : x / d ≤ x := Int.ediv_le_self _ h.1
  have := h.2
  omega
/-- bytes taken in one behind the other: by 'or', or by 'plus' -/
theorem or_byte {a : Int} {c : Int} (h0 : 0 ≤ a) (h1 : a < 72057594037927936) (hc : 0 ≤ c ∧ c < 256) : Go.bits .or .u64 (IntKind.u64.wrap (a * 2 ^ (min ((8 : Int)).toNat IntKind.u64.bits))) (IntKind.u64.wrap c) = a * 256 + c := by
  have e : (2 : Int) ^ (min ((8 : Int)).toNat IntKind.u64.bits) = 256 := by decide
  rw [e, IntKind.wrap_u64, IntKind.wrap_u64, Int.emod_eq_of_lt (by omega) (by omega), Int.emod_eq_of_lt hc.1 (by omega)]
  obtain ⟨A, rfl⟩ := Int.eq_ofNat_of_zero_le h0
  obtain ⟨C, rfl⟩ := Int.eq_ofNat_of_zero_le hc.1
  have hC : C < 2 ^ 8 := by omega
  rw [show (A : Int) * 256 = ((A * 256 : Nat) : Int) by omega, u64_or_nat _ _ (by omega) (by omega)]
  have : A * 256 ||| C = A * 256 + C := by
    have := Nat.two_pow_add_eq_or_of_lt hC A
    rw [show 2 ^ 8 * A = A * 256 by omega] at this
    exact this.symm
  rw [this]
  omega
theorem add_byte {a : Int} {c : Int} (h0 : 0 ≤ a) (h1 : a < 72057594037927936) (hc : 0 ≤ c ∧ c < 256) : IntKind.u64.wrap (IntKind.u64.wrap (a * 256) + IntKind.u64.wrap c) = a * 256 + c := by
  rw [IntKind.wrap_u64, IntKind.wrap_u64, IntKind.wrap_u64]
  omega
theorem or_be8 {c0 c1 c2 c3 c4 c5 c6 c7 : Int} (h0 : 0 ≤ c0 ∧ c0 < 256) (h1 : 0 ≤ c1 ∧ c1 < 256) (h2 : 0 ≤ c2 ∧ c2 < 256) (h3 : 0 ≤ c3 ∧ c3 < 256) (h4 : 0 ≤ c4 ∧ c4 < 256) (h5 : 0 ≤ c5 ∧ c5 < 256) (h6 : 0 ≤ c6 ∧ c6 < 256) (h7 : 0 ≤ c7 ∧ c7 < 256) (f : Int → Int → Int)
    (hf : ∀ a c : Int, 0 ≤ a → a < 72057594037927936 → 0 ≤ c ∧ c < 256 → f a c = a * 256 + c) : f (f (f (f (f (f (f (f 0 c0) c1) c2) c3) c4) c5) c6) c7 = be8 c0 c1 c2 c3 c4 c5 c6 c7 ∧ IsWord (be8 c0 c1 c2 c3 c4 c5 c6 c7) := by
  unfold be8 IsWord
  rw [hf 0 c0 (by omega) (by omega) h0, hf (0 * 256 + c0) c1 (by omega) (by omega) h1, hf _ c2 (by omega) (by omega) h2, hf _ c3 (by omega) (by omega) h3, hf _ c4 (by omega) (by omega) h4, hf _ c5 (by omega) (by omega) h5, hf _ c6 (by omega) (by omega) h6, hf _ c7 (by omega) (by omega) h7]
  refine ⟨?_, ?_, ?_⟩ <;> omega
theorem wd_word {l : List Int} (h : IsBytes l) (hl : l.length = 128) {j : Nat} (hj : j < 16) : IsWord (wd l j) :=
  (or_be8 (h.get (by omega)) (h.get (by omega)) (h.get (by omega)) (h.get (by omega)) (h.get (by omega)) (h.get (by omega)) (h.get (by omega)) (h.get (by omega)) (fun a c => a * 256 + c) (fun _ _ _ _ _ => rfl)).2
def orB (a c : Int) : Int := Go.bits .or .u64 (IntKind.u64.wrap (a * 2 ^ (min ((8 : Int)).toNat IntKind.u64.bits))) (IntKind.u64.wrap c)
def adB (a c : Int) : Int := IntKind.u64.wrap (IntKind.u64.wrap (a * 256) + IntKind.u64.wrap c)
def wdF (f : Int → Int → Int) (l : List Int) (j : Nat) : Int := f (f (f (f (f (f (f (f 0 (l.getD (8 * j) 0)) (l.getD (8 * j + 1) 0)) (l.getD (8 * j + 2) 0)) (l.getD (8 * j + 3) 0)) (l.getD (8 * j + 4) 0)) (l.getD (8 * j + 5) 0)) (l.getD (8 * j + 6) 0)) (l.getD (8 * j + 7) 0)
def wordsF (f : Int → Int → Int) (l : List Int) : List Int := [wdF f l 0, wdF f l 1, wdF f l 2, wdF f l 3, wdF f l 4, wdF f l 5, wdF f l 6, wdF f l 7, wdF f l 8, wdF f l 9, wdF f l 10, wdF f l 11, wdF f l 12, wdF f l 13, wdF f l 14, wdF f l 15] ++ List.replicate 64 0
theorem wordsF_eq {l : List Int} (h : IsBytes l) (hl : l.length = 128) (f : Int → Int → Int) (hf : ∀ a c : Int, 0 ≤ a → a < 72057594037927936 → 0 ≤ c ∧ c < 256 → f a c = a * 256 + c) : wordsF f l = words l := by
  have e : ∀ j, j < 16 → wdF f l j = wd l j := fun j hj => (or_be8 (h.get (by omega)) (h.get (by omega)) (h.get (by omega)) (h.get (by omega)) (h.get (by omega)) (h.get (by omega)) (h.get (by omega)) (h.get (by omega)) f hf).1
  unfold wordsF words
  rw [e 0 (by decide), e 1 (by decide), e 2 (by decide), e 3 (by decide), e 4 (by decide), e 5 (by decide), e 6 (by decide), e 7 (by decide), e 8 (by decide), e 9 (by decide), e 10 (by decide), e 11 (by decide), e 12 (by decide), e 13 (by decide), e 14 (by decide), e 15 (by decide)]
theorem wordsO_eq {l : List Int} (h : IsBytes l) (hl : l.length = 128) : wordsF orB l = words l := wordsF_eq h hl orB fun _ _ h0 h1 hc => or_byte h0 h1 hc
theorem wordsA_eq {l : List Int} (h : IsBytes l) (hl : l.length = 128) : wordsF adB l = words l := wordsF_eq h hl adB fun _ _ h0 h1 hc => add_byte h0 h1 hc
theorem words_length (l : List Int) : (words l).length = 80 := rfl
theorem words_words {l : List Int} (h : IsBytes l) (hl : l.length = 128) : IsWords (words l) := fun x hx => by
  unfold words at hx
  rcases List.mem_append.1 hx with hx | hx
  · simp only [List.mem_cons, List.not_mem_nil, or_false] at hx
    rcases hx with rfl | rfl | rfl | rfl | rfl | rfl | rfl | rfl | rfl | rfl | rfl | rfl | rfl | rfl | rfl | rfl <;> exact wd_word h hl (by decide)
  · rw [List.eq_of_mem_replicate hx]; exact ⟨Int.le_refl 0, by decide⟩
theorem list128 {l : List Int} (h : l.length = 128) : l = (List.range 128).map fun i => l.getD i 0 := by
  apply List.ext_getElem?
  intro i
  simp only [List.getElem?_map, List.getD_eq_getElem?_getD]
  by_cases hi : i < 128
  · rw [List.getElem?_range hi, Option.map_some, List.getElem?_eq_getElem (show i < l.length by omega), Option.getD_some]
  · rw [List.getElem?_eq_none (by omega), List.getElem?_eq_none (by simp; omega)]; rfl

theorem list80 {l : List Int} (h : l.length = 80) : l = (List.range 80).map fun i => l.getD i 0 := by
  apply List.ext_getElem?
  intro i
  simp only [List.getElem?_map, List.getD_eq_getElem?_getD]
  by_cases hi : i < 80
  · rw [List.getElem?_range hi, Option.map_some, List.getElem?_eq_getElem (show i < l.length by omega), Option.getD_some]
  · rw [List.getElem?_eq_none (by omega), List.getElem?_eq_none (by simp; omega)]; rfl

/-! ### padding -/
theorem zeros_not {n k : Nat} (h : k < zeros n) : ¬ (n + 1 + k) % 128 = 112 := by
  unfold zeros at h
  omega
theorem zeros_is (n : Nat) : (n + 1 + zeros n) % 128 = 112 := by
  unfold zeros
  omega
theorem zeros_lt (n : Nat) : zeros n < 128 := by
  unfold zeros
  omega
def pad1 (m : List Int) : List Int := (m ++ [128]) ++ List.replicate (zeros m.length) 0
theorem pad1_length (m : List Int) : (pad1 m).length = m.length + 1 + zeros m.length := by
  unfold pad1
  rw [List.length_append, List.length_append, List.length_replicate]
  rfl
theorem pad_eq (m : List Int) : pad m = pad1 m ++ (List.replicate 8 0 ++ lenB m.length) := rfl
theorem pad_length (m : List Int) : (pad m).length = m.length + 1 + zeros m.length + 16 := by
  rw [pad_eq, List.length_append, pad1_length]
  rfl
theorem pad_128 (m : List Int) : (pad m).length % 128 = 0 := by
  have := zeros_is m.length
  rw [pad_length]
  omega
theorem lenB_bytes (n : Nat) : IsBytes (lenB n) := by
  intro x hx
  unfold lenB at hx
  simp only [List.mem_cons, List.not_mem_nil, or_false] at hx
  rcases hx with rfl | rfl | rfl | rfl | rfl | rfl | rfl | rfl <;> exact ⟨Int.natCast_nonneg _, by omega⟩
theorem pad_bytes {m : List Int} (h : IsBytes m) : IsBytes (pad m) := by
  have hz : ∀ n, IsBytes (List.replicate n (0 : Int)) := fun n x hx => by rw [List.eq_of_mem_replicate hx]; exact ⟨Int.le_refl 0, by decide⟩
  exact ((h.append (IsBytes.cons ⟨by decide, by decide⟩ IsBytes.nil)).append (hz _)).append ((hz 8).append (lenB_bytes _))
/-- the program's way to the length's bytes -/
theorem lenP {n : Nat} (hn : n ≤ 1099511627776) (k : Nat) (hk : k ≤ 56) : IntKind.u8.wrap (Int.fdiv (IntKind.u64.wrap (8 * IntKind.u64.wrap (n : Int))) (2 ^ k)) = ((8 * n / 2 ^ k % 256 : Nat) : Int) := by
  have e : IntKind.u64.wrap (8 * IntKind.u64.wrap (n : Int)) = ((8 * n : Nat) : Int) := by rw [IntKind.wrap_u64, IntKind.wrap_u64]; omega
  rw [e, IntKind.wrap_u8, Int.fdiv_eq_ediv_of_nonneg _ (Int.pow_nonneg (by decide)), show (2 : Int) ^ k = ((2 ^ k : Nat) : Int) by rw [Int.natCast_pow]; rfl, ← Int.natCast_ediv]
  omega
def sh8 (x : Int) : Nat → Int
  | 0 => x
  | k + 1 => IntKind.u64.wrap (sh8 x k * 2 ^ (min ((8 : Int)).toNat IntKind.u64.bits))
theorem sh8_eq (x : Nat) (hx : x < 18446744073709551616) : ∀ k, sh8 (x : Int) k = ((x * 256 ^ k % 18446744073709551616 : Nat) : Int)
  | 0 => by
    show (x : Int) = _
    rw [Nat.pow_zero, Nat.mul_one, Nat.mod_eq_of_lt hx]
  | k + 1 => by
    show IntKind.u64.wrap (sh8 (x : Int) k * 2 ^ (min ((8 : Int)).toNat IntKind.u64.bits)) = _
    rw [sh8_eq x hx k, show (2 : Int) ^ (min ((8 : Int)).toNat IntKind.u64.bits) = 256 by decide, IntKind.wrap_u64, Nat.pow_succ, ← Nat.mul_assoc]
    generalize x * 256 ^ k = y
    omega
theorem lenR {n : Nat} (hn : n ≤ 1099511627776) (k : Nat) (hk : k < 8) : IntKind.u8.wrap (Int.fdiv (sh8 (IntKind.u64.wrap (8 * IntKind.u64.wrap (n : Int))) k) (2 ^ 56)) = ((8 * n / 2 ^ (56 - 8 * k) % 256 : Nat) : Int) := by
  have e : IntKind.u64.wrap (8 * IntKind.u64.wrap (n : Int)) = ((8 * n : Nat) : Int) := by rw [IntKind.wrap_u64, IntKind.wrap_u64]; omega
  rw [e, sh8_eq _ (by omega), IntKind.wrap_u8, Int.fdiv_eq_ediv_of_nonneg _ (by decide)]
  obtain rfl | rfl | rfl | rfl | rfl | rfl | rfl | rfl : k = 0 ∨ k = 1 ∨ k = 2 ∨ k = 3 ∨ k = 4 ∨ k = 5 ∨ k = 6 ∨ k = 7 := by omega
  all_goals simp only [Nat.reducePow, Nat.reduceMul, Nat.reduceSub, Int.reducePow]
  all_goals omega
theorem pad_steps (m : List Int) {b0 b1 b2 b3 b4 b5 b6 b7 : Int} (hn : m.length ≤ 1099511627776) (f : Nat → Int) (h : [b0, b1, b2, b3, b4, b5, b6, b7] = lenB m.length) : (((((((((pad1 m ++ List.replicate 8 0) ++ [b0]) ++ [b1]) ++ [b2]) ++ [b3]) ++ [b4]) ++ [b5]) ++ [b6]) ++ [b7]) = pad m := by
  rw [pad_eq, ← h]
  simp only [List.append_assoc, List.cons_append, List.nil_append]
theorem lenB_P {n : Nat} (hn : n ≤ 1099511627776) : [IntKind.u8.wrap (Int.fdiv (IntKind.u64.wrap (8 * IntKind.u64.wrap (n : Int))) (2 ^ 56)), IntKind.u8.wrap (Int.fdiv (IntKind.u64.wrap (8 * IntKind.u64.wrap (n : Int))) (2 ^ 48)), IntKind.u8.wrap (Int.fdiv (IntKind.u64.wrap (8 * IntKind.u64.wrap (n : Int))) (2 ^ 40)), IntKind.u8.wrap (Int.fdiv (IntKind.u64.wrap (8 * IntKind.u64.wrap (n : Int))) (2 ^ 32)), IntKind.u8.wrap (Int.fdiv (IntKind.u64.wrap (8 * IntKind.u64.wrap (n : Int))) (2 ^ 24)), IntKind.u8.wrap (Int.fdiv (IntKind.u64.wrap (8 * IntKind.u64.wrap (n : Int))) (2 ^ 16)), IntKind.u8.wrap (Int.fdiv (IntKind.u64.wrap (8 * IntKind.u64.wrap (n : Int))) (2 ^ 8)), IntKind.u8.wrap (Int.fdiv (IntKind.u64.wrap (8 * IntKind.u64.wrap (n : Int))) (2 ^ 0))] = lenB n := by
  rw [lenP hn 56 (by decide), lenP hn 48 (by decide), lenP hn 40 (by decide), lenP hn 32 (by decide), lenP hn 24 (by decide), lenP hn 16 (by decide), lenP hn 8 (by decide), lenP hn 0 (by decide)]
  unfold lenB
  rw [Nat.pow_zero, Nat.div_one]
theorem lenB_R {n : Nat} (hn : n ≤ 1099511627776) {x : Int} (hx : x = IntKind.u64.wrap (8 * IntKind.u64.wrap (n : Int))) : [IntKind.u8.wrap (Int.fdiv (sh8 x 0) (2 ^ 56)), IntKind.u8.wrap (Int.fdiv (sh8 x 1) (2 ^ 56)), IntKind.u8.wrap (Int.fdiv (sh8 x 2) (2 ^ 56)), IntKind.u8.wrap (Int.fdiv (sh8 x 3) (2 ^ 56)), IntKind.u8.wrap (Int.fdiv (sh8 x 4) (2 ^ 56)), IntKind.u8.wrap (Int.fdiv (sh8 x 5) (2 ^ 56)), IntKind.u8.wrap (Int.fdiv (sh8 x 6) (2 ^ 56)), IntKind.u8.wrap (Int.fdiv (sh8 x 7) (2 ^ 56))] = lenB n := by
  rw [hx, lenR hn 0 (by decide), lenR hn 1 (by decide), lenR hn 2 (by decide), lenR hn 3 (by decide), lenR hn 4 (by decide), lenR hn 5 (by decide), lenR hn 6 (by decide), lenR hn 7 (by decide)]
  unfold lenB
  rw [show 56 - 8 * 7 = 0 from rfl, Nat.pow_zero, Nat.div_one]
/-- the hash as bytes -/
theorem out_length (s : St) : (out s).length = 64 := rfl
theorem out_bytes (s : St) : IsBytes (out s) := by
  have hb : ∀ x n, 0 ≤ byteI x n ∧ byteI x n < 256 := fun x n => by unfold byteI; rw [IntKind.wrap_u8]; omega
  have hw : ∀ x, IsBytes (outW x) := fun x y hy => by
    unfold outW at hy
    simp only [List.mem_cons, List.not_mem_nil, or_false] at hy
    rcases hy with rfl | rfl | rfl | rfl | rfl | rfl | rfl | rfl <;> exact hb _ _
  exact (((((((hw _).append (hw _)).append (hw _)).append (hw _)).append (hw _)).append (hw _)).append (hw _)).append (hw _)
theorem sum_length (m : List Int) : (sum m).length = 64 := rfl
theorem sum_bytes (m : List Int) : IsBytes (sum m) := out_bytes _
theorem list64 {l : List Int} (h : l.length = 64) : l = (List.range 64).map fun i => l.getD i 0 := by
  apply List.ext_getElem?
  intro i
  simp only [List.getElem?_map, List.getD_eq_getElem?_getD]
  by_cases hi : i < 64
  · rw [List.getElem?_range hi, Option.map_some, List.getElem?_eq_getElem (show i < l.length by omega), Option.getD_some]
  · rw [List.getElem?_eq_none (by omega), List.getElem?_eq_none (by simp; omega)]; rfl

/-! ### rotations -/
theorem and63 : ∀ k : Fin 64, 1 ≤ k.val → Go.bits .and .u64 (IntKind.u64.wrap (IntKind.i64.wrap (0 - ((k.val : Nat) : Int)))) 63 = ((64 - k.val : Nat) : Int) := by decide +kernel
end Go.Sha
