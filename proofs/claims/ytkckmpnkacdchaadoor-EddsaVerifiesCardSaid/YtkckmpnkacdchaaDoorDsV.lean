/- All variables of chapter 12 as they are laid. -/
import Derived.Test.YtkckmpnkacdchaaDoorEdV
import Derived.Test.YtkckmpnkacdchaaDoorShaM1
set_option linter.unusedVariables false
set_option linter.unusedSimpArgs false
namespace Go.Proofs.YtkckmpnkacdchaaDoor
open Go.RowKit Go.Num Go.Sx
structure TZ where
 ty : Nat → TypeId
 vs : List (Nat × List Int)
 moduli : v_moduli ∈ vs
 d : v_d ∈ vs
 twice : v_twice ∈ vs
 one : v_one ∈ vs
 neutral : v_neutral ∈ vs
 first : v_first ∈ vs
 constants : v_constants ∈ vs
structure TX extends TZ where
 root : v_root ∈ vs
instance : Coe TX TZ := ⟨TX.toTZ⟩
def TZ.v (T : TZ) : TV := ⟨T.ty, T.vs, T.one, T.d, T.moduli⟩
def TZ.q (T : TZ) : TQ := ⟨T.v, T.neutral, T.twice⟩
def TX.r (T : TX) : TR := ⟨T.toTZ.v, T.root⟩
def TZ.s (T : TZ) : TS := ⟨T.ty, T.vs, T.first, T.constants⟩
abbrev LZ (T : TZ) : Laid := LV T.ty T.vs
abbrev LX (T : TX) : Laid := LV T.ty T.vs
end Go.Proofs.YtkckmpnkacdchaaDoor
