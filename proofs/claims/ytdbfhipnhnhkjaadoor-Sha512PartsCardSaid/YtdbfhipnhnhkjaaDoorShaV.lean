/- The hash's variables as they are laid. -/
import Derived.Test.YtdbfhipnhnhkjaaDoorVars
import Derived.Test.YtdbfhipnhnhkjaaDoorSha
set_option linter.unusedVariables false
set_option linter.unusedSimpArgs false
namespace Go.Proofs.YtdbfhipnhnhkjaaDoor
open Go.RowKit Go.Num Go.Sx

def v_first : Nat × List Int := (0, [7640891576956012808, 13503953896175478587, 4354685564936845355, 11912009170470909681, 5840696475078001361, 11170449401992604703, 2270897969802886507, 6620516959819538809])
def v_constants : Nat × List Int := (1, Sha.K)
/-- a block's 128 bytes, and what follows -/
abbrev envT (l r : List Int) (n : Nat) : Int := if n < 128 then l.getD n 0 else r.getD (n - 128) 0
/-- numbers in parts -/
def envS : List (Nat × List Int) → Nat → Int
  | [], _ => 0
  | (c, l) :: r, n => if n < c then l.getD n 0 else envS r (n - c)
/-- an array of words -/
abbrev arrW (W : List Int) : Value := .agg (W.map (Value.int .u64)).toArray
structure TS where
  ty : Nat → TypeId
  vs : List (Nat × List Int)
  first : v_first ∈ vs
  constants : v_constants ∈ vs
def LS (Ts : TS) : Laid := LV Ts.ty Ts.vs
abbrev shGs (Ts : TS) (l : List (Nat × List Int)) : List (Nat × Blk) := gsV Ts.ty l
theorem varsOkS (Ts : TS) (l : List (Nat × List Int)) (hs : ∀ x ∈ l, x ∈ Ts.vs) (hn : (l.map (·.1)).Nodup) : GsOk (LS Ts) (shGs Ts l) := varsOkV Ts.ty Ts.vs l hs hn
end Go.Proofs.YtdbfhipnhnhkjaaDoor
