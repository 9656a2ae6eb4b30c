/-
  No cell of these rows narrows 'for every input' (looked for: loops, veiled, ifaces, maps, wideKeys, modest, calm, conditions, laid).
  DERIVED. THE GIVEN ROWS OF THIS SEAT. 13 by the template 'for every input the law returns true; each argument reads behind the call as it read before'; 0 by the template 'total and deterministic' (their statements: YtgmbgidcgdammaaTotals.lean).
  GIVEN WITH THE SEED: the statements are not yours to turn. If you find one false, say at which input.
  Laid BY PROGRAM, IN A SANDBOX (cutbox-rows.mjs): the forced cells as the released guide's own fill.sh prints them over the translation 374423a0d807e0cf… (all of the seat's roots in one cut). By AI agents, Wed Nov 11 2026. No macro, syntax, notation, axiom, sorry.
-/
import Derived.Test.YtgmbgidcgdammaaChecked
import GoSem.Claim
import GoSem.ClaimJoined
import GoSem.ClaimMapViews
import Derived.JoinedTies
import Derived.KernelRfl
namespace Go.Proofs.Ytgmbgidcgdammaa
/- THE CELL 'sum', in the pinned program and in every row, IS THE sha256 OF THE DUMP (.gsa) THAT YtgmbgidcgdammaaProg.lean LOADS. Nothing in Lean hashes anything: it is a label: what it is worth is what the hold of that sum in a sandbox is worth. -/
noncomputable def Try.pinned : Pinned := { name := "ytgmbgidcgdammaa", sum := "374423a0d807e0cf9c2abd93f4eb73b65482a0fddaa06de4d9d12a0952e6b94e", checked := Try.checked }
namespace Rows
def none {H : Type} : Left H := { results := [], args := [] }

/-- 'chroniclelaw03.CodecOrder': WHATEVER THE INPUT: true; the input reads as it did. -/
def codecOrderSpec : ChangeSpec := { name := "codecOrder", fn := fun _ => fun
  | [d1, d2] => { results := [.lit (.bool true)], args := [d1, d2] }
  | _ => none }
def codecOrderRow : OpenClaim := { program := "ytgmbgidcgdammaa", sum := "374423a0d807e0cf9c2abd93f4eb73b65482a0fddaa06de4d9d12a0952e6b94e", func := "chronicle/chroniclelaw03.CodecOrder", spec := "codecOrder", apart := false }
def CodecOrderSaid : Prop := codecOrderRow.holds Try.pinned (OpenSpec.ofChange codecOrderSpec)

/-- ITS FALSE NEIGHBOUR: 'it returns false'. Refute it at one input. -/
def codecOrderWrong : ChangeSpec := { name := "codecOrder", fn := fun _ => fun
  | [d1, d2] => { results := [.lit (.bool false)], args := [d1, d2] }
  | _ => none }
def CodecOrderWrongFalsely : Prop := codecOrderRow.holds Try.pinned (OpenSpec.ofChange codecOrderWrong)

/-- 'chroniclelaw01.LimbBits': WHATEVER THE INPUT: true; the input reads as it did. -/
def limbBitsSpec : ChangeSpec := { name := "limbBits", fn := fun _ => fun
  | [d1, d2] => { results := [.lit (.bool true)], args := [d1, d2] }
  | _ => none }
def limbBitsRow : OpenClaim := { program := "ytgmbgidcgdammaa", sum := "374423a0d807e0cf9c2abd93f4eb73b65482a0fddaa06de4d9d12a0952e6b94e", func := "chronicle/chroniclelaw01.LimbBits", spec := "limbBits", inPlace := ["math/bits.Add64"], apart := false }
def LimbBitsSaid : Prop := limbBitsRow.holds Try.pinned (OpenSpec.ofChange limbBitsSpec)

/-- ITS FALSE NEIGHBOUR: 'it returns false'. Refute it at one input. -/
def limbBitsWrong : ChangeSpec := { name := "limbBits", fn := fun _ => fun
  | [d1, d2] => { results := [.lit (.bool false)], args := [d1, d2] }
  | _ => none }
def LimbBitsWrongFalsely : Prop := limbBitsRow.holds Try.pinned (OpenSpec.ofChange limbBitsWrong)

/-- 'chroniclelaw01.LimbFull': WHATEVER THE INPUT: true; the input reads as it did. -/
def limbFullSpec : ChangeSpec := { name := "limbFull", fn := fun _ => fun
  | [d] => { results := [.lit (.bool true)], args := [d] }
  | _ => none }
def limbFullRow : OpenClaim := { program := "ytgmbgidcgdammaa", sum := "374423a0d807e0cf9c2abd93f4eb73b65482a0fddaa06de4d9d12a0952e6b94e", func := "chronicle/chroniclelaw01.LimbFull", spec := "limbFull", inPlace := ["math/bits.Add64", "math/bits.Sub64"], apart := false }
def LimbFullSaid : Prop := limbFullRow.holds Try.pinned (OpenSpec.ofChange limbFullSpec)

/-- ITS FALSE NEIGHBOUR: 'it returns false'. Refute it at one input. -/
def limbFullWrong : ChangeSpec := { name := "limbFull", fn := fun _ => fun
  | [d] => { results := [.lit (.bool false)], args := [d] }
  | _ => none }
def LimbFullWrongFalsely : Prop := limbFullRow.holds Try.pinned (OpenSpec.ofChange limbFullWrong)

/-- 'chroniclelaw10.DerEncodes': WHATEVER THE INPUT: true; the input reads as it did. -/
def derEncodesSpec : ChangeSpec := { name := "derEncodes", fn := fun _ => fun
  | [d1, d2] => { results := [.lit (.bool true)], args := [d1, d2] }
  | _ => none }
def derEncodesRow : OpenClaim := { program := "ytgmbgidcgdammaa", sum := "374423a0d807e0cf9c2abd93f4eb73b65482a0fddaa06de4d9d12a0952e6b94e", func := "chronicle/chroniclelaw10.DerEncodes", spec := "derEncodes", apart := false }
def DerEncodesSaid : Prop := derEncodesRow.holds Try.pinned (OpenSpec.ofChange derEncodesSpec)

/-- ITS FALSE NEIGHBOUR: 'it returns false'. Refute it at one input. -/
def derEncodesWrong : ChangeSpec := { name := "derEncodes", fn := fun _ => fun
  | [d1, d2] => { results := [.lit (.bool false)], args := [d1, d2] }
  | _ => none }
def DerEncodesWrongFalsely : Prop := derEncodesRow.holds Try.pinned (OpenSpec.ofChange derEncodesWrong)

/-- 'chroniclelaw10.DerSizes': WHATEVER THE INPUT: true; the input reads as it did. -/
def derSizesSpec : ChangeSpec := { name := "derSizes", fn := fun _ => fun
  | [d1, d2] => { results := [.lit (.bool true)], args := [d1, d2] }
  | _ => none }
def derSizesRow : OpenClaim := { program := "ytgmbgidcgdammaa", sum := "374423a0d807e0cf9c2abd93f4eb73b65482a0fddaa06de4d9d12a0952e6b94e", func := "chronicle/chroniclelaw10.DerSizes", spec := "derSizes", apart := false }
def DerSizesSaid : Prop := derSizesRow.holds Try.pinned (OpenSpec.ofChange derSizesSpec)

/-- ITS FALSE NEIGHBOUR: 'it returns false'. Refute it at one input. -/
def derSizesWrong : ChangeSpec := { name := "derSizes", fn := fun _ => fun
  | [d1, d2] => { results := [.lit (.bool false)], args := [d1, d2] }
  | _ => none }
def DerSizesWrongFalsely : Prop := derSizesRow.holds Try.pinned (OpenSpec.ofChange derSizesWrong)

/-- 'chroniclelaw03.CodecBack': WHATEVER THE INPUT: true; the input reads as it did. -/
def codecBackSpec : ChangeSpec := { name := "codecBack", fn := fun _ => fun
  | [d1, d2] => { results := [.lit (.bool true)], args := [d1, d2] }
  | _ => none }
def codecBackRow : OpenClaim := { program := "ytgmbgidcgdammaa", sum := "374423a0d807e0cf9c2abd93f4eb73b65482a0fddaa06de4d9d12a0952e6b94e", func := "chronicle/chroniclelaw03.CodecBack", spec := "codecBack", apart := false }
def CodecBackSaid : Prop := codecBackRow.holds Try.pinned (OpenSpec.ofChange codecBackSpec)

/-- ITS FALSE NEIGHBOUR: 'it returns false'. Refute it at one input. -/
def codecBackWrong : ChangeSpec := { name := "codecBack", fn := fun _ => fun
  | [d1, d2] => { results := [.lit (.bool false)], args := [d1, d2] }
  | _ => none }
def CodecBackWrongFalsely : Prop := codecBackRow.holds Try.pinned (OpenSpec.ofChange codecBackWrong)

/-- 'chroniclelaw01.LimbMultiplies': WHATEVER THE INPUT: true; the input reads as it did. -/
def limbMultipliesSpec : ChangeSpec := { name := "limbMultiplies", fn := fun _ => fun
  | [d1, d2] => { results := [.lit (.bool true)], args := [d1, d2] }
  | _ => none }
def limbMultipliesRow : OpenClaim := { program := "ytgmbgidcgdammaa", sum := "374423a0d807e0cf9c2abd93f4eb73b65482a0fddaa06de4d9d12a0952e6b94e", func := "chronicle/chroniclelaw01.LimbMultiplies", spec := "limbMultiplies", inPlace := ["math/bits.Add64"], apart := false }
def LimbMultipliesSaid : Prop := limbMultipliesRow.holds Try.pinned (OpenSpec.ofChange limbMultipliesSpec)

/-- ITS FALSE NEIGHBOUR: 'it returns false'. Refute it at one input. -/
def limbMultipliesWrong : ChangeSpec := { name := "limbMultiplies", fn := fun _ => fun
  | [d1, d2] => { results := [.lit (.bool false)], args := [d1, d2] }
  | _ => none }
def LimbMultipliesWrongFalsely : Prop := limbMultipliesRow.holds Try.pinned (OpenSpec.ofChange limbMultipliesWrong)

/-- 'chroniclelaw01.LimbSpreads': WHATEVER THE INPUT: true; the input reads as it did. -/
def limbSpreadsSpec : ChangeSpec := { name := "limbSpreads", fn := fun _ => fun
  | [d1, d2, d3] => { results := [.lit (.bool true)], args := [d1, d2, d3] }
  | _ => none }
def limbSpreadsRow : OpenClaim := { program := "ytgmbgidcgdammaa", sum := "374423a0d807e0cf9c2abd93f4eb73b65482a0fddaa06de4d9d12a0952e6b94e", func := "chronicle/chroniclelaw01.LimbSpreads", spec := "limbSpreads", inPlace := ["math/bits.Add64"], apart := false }
def LimbSpreadsSaid : Prop := limbSpreadsRow.holds Try.pinned (OpenSpec.ofChange limbSpreadsSpec)

/-- ITS FALSE NEIGHBOUR: 'it returns false'. Refute it at one input. -/
def limbSpreadsWrong : ChangeSpec := { name := "limbSpreads", fn := fun _ => fun
  | [d1, d2, d3] => { results := [.lit (.bool false)], args := [d1, d2, d3] }
  | _ => none }
def LimbSpreadsWrongFalsely : Prop := limbSpreadsRow.holds Try.pinned (OpenSpec.ofChange limbSpreadsWrong)

/-- 'chroniclelaw03.CodecTakes': WHATEVER THE INPUT: true; the input reads as it did. -/
def codecTakesSpec : ChangeSpec := { name := "codecTakes", fn := fun _ => fun
  | [d] => { results := [.lit (.bool true)], args := [d] }
  | _ => none }
def codecTakesRow : OpenClaim := { program := "ytgmbgidcgdammaa", sum := "374423a0d807e0cf9c2abd93f4eb73b65482a0fddaa06de4d9d12a0952e6b94e", func := "chronicle/chroniclelaw03.CodecTakes", spec := "codecTakes", apart := false }
def CodecTakesSaid : Prop := codecTakesRow.holds Try.pinned (OpenSpec.ofChange codecTakesSpec)

/-- ITS FALSE NEIGHBOUR: 'it returns false'. Refute it at one input. -/
def codecTakesWrong : ChangeSpec := { name := "codecTakes", fn := fun _ => fun
  | [d] => { results := [.lit (.bool false)], args := [d] }
  | _ => none }
def CodecTakesWrongFalsely : Prop := codecTakesRow.holds Try.pinned (OpenSpec.ofChange codecTakesWrong)

/-- 'chroniclelaw03.CodecHalves': WHATEVER THE INPUT: true; the input reads as it did. -/
def codecHalvesSpec : ChangeSpec := { name := "codecHalves", fn := fun _ => fun
  | [d1, d2] => { results := [.lit (.bool true)], args := [d1, d2] }
  | _ => none }
def codecHalvesRow : OpenClaim := { program := "ytgmbgidcgdammaa", sum := "374423a0d807e0cf9c2abd93f4eb73b65482a0fddaa06de4d9d12a0952e6b94e", func := "chronicle/chroniclelaw03.CodecHalves", spec := "codecHalves", apart := false }
def CodecHalvesSaid : Prop := codecHalvesRow.holds Try.pinned (OpenSpec.ofChange codecHalvesSpec)

/-- ITS FALSE NEIGHBOUR: 'it returns false'. Refute it at one input. -/
def codecHalvesWrong : ChangeSpec := { name := "codecHalves", fn := fun _ => fun
  | [d1, d2] => { results := [.lit (.bool false)], args := [d1, d2] }
  | _ => none }
def CodecHalvesWrongFalsely : Prop := codecHalvesRow.holds Try.pinned (OpenSpec.ofChange codecHalvesWrong)

/-- 'chroniclelaw01.LimbPicks': WHATEVER THE INPUT: true; the input reads as it did. -/
def limbPicksSpec : ChangeSpec := { name := "limbPicks", fn := fun _ => fun
  | [d1, d2, d3] => { results := [.lit (.bool true)], args := [d1, d2, d3] }
  | _ => none }
def limbPicksRow : OpenClaim := { program := "ytgmbgidcgdammaa", sum := "374423a0d807e0cf9c2abd93f4eb73b65482a0fddaa06de4d9d12a0952e6b94e", func := "chronicle/chroniclelaw01.LimbPicks", spec := "limbPicks", inPlace := ["math/bits.Add64"], apart := false }
def LimbPicksSaid : Prop := limbPicksRow.holds Try.pinned (OpenSpec.ofChange limbPicksSpec)

/-- ITS FALSE NEIGHBOUR: 'it returns false'. Refute it at one input. -/
def limbPicksWrong : ChangeSpec := { name := "limbPicks", fn := fun _ => fun
  | [d1, d2, d3] => { results := [.lit (.bool false)], args := [d1, d2, d3] }
  | _ => none }
def LimbPicksWrongFalsely : Prop := limbPicksRow.holds Try.pinned (OpenSpec.ofChange limbPicksWrong)

/-- 'chroniclelaw01.LimbBack': WHATEVER THE INPUT: true; the input reads as it did. -/
def limbBackSpec : ChangeSpec := { name := "limbBack", fn := fun _ => fun
  | [d1, d2] => { results := [.lit (.bool true)], args := [d1, d2] }
  | _ => none }
def limbBackRow : OpenClaim := { program := "ytgmbgidcgdammaa", sum := "374423a0d807e0cf9c2abd93f4eb73b65482a0fddaa06de4d9d12a0952e6b94e", func := "chronicle/chroniclelaw01.LimbBack", spec := "limbBack", inPlace := ["math/bits.Add64", "math/bits.Sub64"], apart := false }
def LimbBackSaid : Prop := limbBackRow.holds Try.pinned (OpenSpec.ofChange limbBackSpec)

/-- ITS FALSE NEIGHBOUR: 'it returns false'. Refute it at one input. -/
def limbBackWrong : ChangeSpec := { name := "limbBack", fn := fun _ => fun
  | [d1, d2] => { results := [.lit (.bool false)], args := [d1, d2] }
  | _ => none }
def LimbBackWrongFalsely : Prop := limbBackRow.holds Try.pinned (OpenSpec.ofChange limbBackWrong)

/-- 'chroniclelaw01.LimbReckons': WHATEVER THE INPUT: true; the input reads as it did. -/
def limbReckonsSpec : ChangeSpec := { name := "limbReckons", fn := fun _ => fun
  | [d1, d2, d3] => { results := [.lit (.bool true)], args := [d1, d2, d3] }
  | _ => none }
def limbReckonsRow : OpenClaim := { program := "ytgmbgidcgdammaa", sum := "374423a0d807e0cf9c2abd93f4eb73b65482a0fddaa06de4d9d12a0952e6b94e", func := "chronicle/chroniclelaw01.LimbReckons", spec := "limbReckons", inPlace := ["math/bits.Add64", "math/bits.Sub64"], apart := false }
def LimbReckonsSaid : Prop := limbReckonsRow.holds Try.pinned (OpenSpec.ofChange limbReckonsSpec)

/-- ITS FALSE NEIGHBOUR: 'it returns false'. Refute it at one input. -/
def limbReckonsWrong : ChangeSpec := { name := "limbReckons", fn := fun _ => fun
  | [d1, d2, d3] => { results := [.lit (.bool false)], args := [d1, d2, d3] }
  | _ => none }
def LimbReckonsWrongFalsely : Prop := limbReckonsRow.holds Try.pinned (OpenSpec.ofChange limbReckonsWrong)

/- THE SECOND FORM. 'bulk': how many values and letters a reading holds, each counted each time it is reached (what is shared counts as often as it is met; a slice's spare places count too). A statement '..UptoSaid' is the law's where the arguments, and the package variables that the reading takes, are together of bulk at most 1048576: NARROWER than '..Said'. Prove '..Said' where nothing that the law and all that it calls make is longer than what came in: it says more and counts as full. Else prove '..UptoSaid'. A law counts once. -/
mutual
def uptoBulk {H : Type} : DataW H → Nat
  | .lit (.string bytes) => bytes.length + 1
  | .lit _ => 1
  | .nil => 1
  | .ptr d => uptoBulk d + 1
  | .slice elems spare => uptoBulkAll elems + uptoBulkAll spare + 1
  | .agg parts => uptoBulkAll parts + 1
  | .iface _ d => uptoBulk d + 1
  | .map entries => uptoBulkEntries entries + 1
  | .held _ => 1
def uptoBulkAll {H : Type} : List (DataW H) → Nat
  | [] => 0
  | d :: r => uptoBulk d + uptoBulkAll r
def uptoBulkEntries {H : Type} : List (Lit × DataW H) → Nat
  | [] => 0
  | x :: r => uptoBulkEntry x + uptoBulkEntries r
def uptoBulkEntry {H : Type} : Lit × DataW H → Nat
  | (.string bytes, d) => bytes.length + uptoBulk d + 1
  | (_, d) => uptoBulk d + 1
 end
def uptoSmall : (H : Type) → List (DataW H) → Bool := fun _ ds => decide (uptoBulkAll ds ≤ 1048576)
def OpenSpec.upto (s : _root_.Go.ChangeSpec) : _root_.Go.OpenSpec := { _root_.Go.OpenSpec.ofChange s with cond := some uptoSmall }

/-- 'chroniclelaw03.CodecOrder', WHERE WHAT IT READS IS OF BULK AT MOST 1048576: true; the input reads as it did. -/
def codecOrderUptoRow : OpenClaim := { program := "ytgmbgidcgdammaa", sum := "374423a0d807e0cf9c2abd93f4eb73b65482a0fddaa06de4d9d12a0952e6b94e", func := "chronicle/chroniclelaw03.CodecOrder", spec := "codecOrder", apart := false, narrowed := true }
def CodecOrderUptoSaid : Prop := codecOrderUptoRow.holds Try.pinned (OpenSpec.upto codecOrderSpec)

/-- 'chroniclelaw01.LimbBits', WHERE WHAT IT READS IS OF BULK AT MOST 1048576: true; the input reads as it did. -/
def limbBitsUptoRow : OpenClaim := { program := "ytgmbgidcgdammaa", sum := "374423a0d807e0cf9c2abd93f4eb73b65482a0fddaa06de4d9d12a0952e6b94e", func := "chronicle/chroniclelaw01.LimbBits", spec := "limbBits", inPlace := ["math/bits.Add64"], apart := false, narrowed := true }
def LimbBitsUptoSaid : Prop := limbBitsUptoRow.holds Try.pinned (OpenSpec.upto limbBitsSpec)

/-- 'chroniclelaw01.LimbFull', WHERE WHAT IT READS IS OF BULK AT MOST 1048576: true; the input reads as it did. -/
def limbFullUptoRow : OpenClaim := { program := "ytgmbgidcgdammaa", sum := "374423a0d807e0cf9c2abd93f4eb73b65482a0fddaa06de4d9d12a0952e6b94e", func := "chronicle/chroniclelaw01.LimbFull", spec := "limbFull", inPlace := ["math/bits.Add64", "math/bits.Sub64"], apart := false, narrowed := true }
def LimbFullUptoSaid : Prop := limbFullUptoRow.holds Try.pinned (OpenSpec.upto limbFullSpec)

/-- 'chroniclelaw10.DerEncodes', WHERE WHAT IT READS IS OF BULK AT MOST 1048576: true; the input reads as it did. -/
def derEncodesUptoRow : OpenClaim := { program := "ytgmbgidcgdammaa", sum := "374423a0d807e0cf9c2abd93f4eb73b65482a0fddaa06de4d9d12a0952e6b94e", func := "chronicle/chroniclelaw10.DerEncodes", spec := "derEncodes", apart := false, narrowed := true }
def DerEncodesUptoSaid : Prop := derEncodesUptoRow.holds Try.pinned (OpenSpec.upto derEncodesSpec)

/-- 'chroniclelaw10.DerSizes', WHERE WHAT IT READS IS OF BULK AT MOST 1048576: true; the input reads as it did. -/
def derSizesUptoRow : OpenClaim := { program := "ytgmbgidcgdammaa", sum := "374423a0d807e0cf9c2abd93f4eb73b65482a0fddaa06de4d9d12a0952e6b94e", func := "chronicle/chroniclelaw10.DerSizes", spec := "derSizes", apart := false, narrowed := true }
def DerSizesUptoSaid : Prop := derSizesUptoRow.holds Try.pinned (OpenSpec.upto derSizesSpec)

/-- 'chroniclelaw03.CodecBack', WHERE WHAT IT READS IS OF BULK AT MOST 1048576: true; the input reads as it did. -/
def codecBackUptoRow : OpenClaim := { program := "ytgmbgidcgdammaa", sum := "374423a0d807e0cf9c2abd93f4eb73b65482a0fddaa06de4d9d12a0952e6b94e", func := "chronicle/chroniclelaw03.CodecBack", spec := "codecBack", apart := false, narrowed := true }
def CodecBackUptoSaid : Prop := codecBackUptoRow.holds Try.pinned (OpenSpec.upto codecBackSpec)

/-- 'chroniclelaw01.LimbMultiplies', WHERE WHAT IT READS IS OF BULK AT MOST 1048576: true; the input reads as it did. -/
def limbMultipliesUptoRow : OpenClaim := { program := "ytgmbgidcgdammaa", sum := "374423a0d807e0cf9c2abd93f4eb73b65482a0fddaa06de4d9d12a0952e6b94e", func := "chronicle/chroniclelaw01.LimbMultiplies", spec := "limbMultiplies", inPlace := ["math/bits.Add64"], apart := false, narrowed := true }
def LimbMultipliesUptoSaid : Prop := limbMultipliesUptoRow.holds Try.pinned (OpenSpec.upto limbMultipliesSpec)

/-- 'chroniclelaw01.LimbSpreads', WHERE WHAT IT READS IS OF BULK AT MOST 1048576: true; the input reads as it did. -/
def limbSpreadsUptoRow : OpenClaim := { program := "ytgmbgidcgdammaa", sum := "374423a0d807e0cf9c2abd93f4eb73b65482a0fddaa06de4d9d12a0952e6b94e", func := "chronicle/chroniclelaw01.LimbSpreads", spec := "limbSpreads", inPlace := ["math/bits.Add64"], apart := false, narrowed := true }
def LimbSpreadsUptoSaid : Prop := limbSpreadsUptoRow.holds Try.pinned (OpenSpec.upto limbSpreadsSpec)

/-- 'chroniclelaw03.CodecTakes', WHERE WHAT IT READS IS OF BULK AT MOST 1048576: true; the input reads as it did. -/
def codecTakesUptoRow : OpenClaim := { program := "ytgmbgidcgdammaa", sum := "374423a0d807e0cf9c2abd93f4eb73b65482a0fddaa06de4d9d12a0952e6b94e", func := "chronicle/chroniclelaw03.CodecTakes", spec := "codecTakes", apart := false, narrowed := true }
def CodecTakesUptoSaid : Prop := codecTakesUptoRow.holds Try.pinned (OpenSpec.upto codecTakesSpec)

/-- 'chroniclelaw03.CodecHalves', WHERE WHAT IT READS IS OF BULK AT MOST 1048576: true; the input reads as it did. -/
def codecHalvesUptoRow : OpenClaim := { program := "ytgmbgidcgdammaa", sum := "374423a0d807e0cf9c2abd93f4eb73b65482a0fddaa06de4d9d12a0952e6b94e", func := "chronicle/chroniclelaw03.CodecHalves", spec := "codecHalves", apart := false, narrowed := true }
def CodecHalvesUptoSaid : Prop := codecHalvesUptoRow.holds Try.pinned (OpenSpec.upto codecHalvesSpec)

/-- 'chroniclelaw01.LimbPicks', WHERE WHAT IT READS IS OF BULK AT MOST 1048576: true; the input reads as it did. -/
def limbPicksUptoRow : OpenClaim := { program := "ytgmbgidcgdammaa", sum := "374423a0d807e0cf9c2abd93f4eb73b65482a0fddaa06de4d9d12a0952e6b94e", func := "chronicle/chroniclelaw01.LimbPicks", spec := "limbPicks", inPlace := ["math/bits.Add64"], apart := false, narrowed := true }
def LimbPicksUptoSaid : Prop := limbPicksUptoRow.holds Try.pinned (OpenSpec.upto limbPicksSpec)

/-- 'chroniclelaw01.LimbBack', WHERE WHAT IT READS IS OF BULK AT MOST 1048576: true; the input reads as it did. -/
def limbBackUptoRow : OpenClaim := { program := "ytgmbgidcgdammaa", sum := "374423a0d807e0cf9c2abd93f4eb73b65482a0fddaa06de4d9d12a0952e6b94e", func := "chronicle/chroniclelaw01.LimbBack", spec := "limbBack", inPlace := ["math/bits.Add64", "math/bits.Sub64"], apart := false, narrowed := true }
def LimbBackUptoSaid : Prop := limbBackUptoRow.holds Try.pinned (OpenSpec.upto limbBackSpec)

/-- 'chroniclelaw01.LimbReckons', WHERE WHAT IT READS IS OF BULK AT MOST 1048576: true; the input reads as it did. -/
def limbReckonsUptoRow : OpenClaim := { program := "ytgmbgidcgdammaa", sum := "374423a0d807e0cf9c2abd93f4eb73b65482a0fddaa06de4d9d12a0952e6b94e", func := "chronicle/chroniclelaw01.LimbReckons", spec := "limbReckons", inPlace := ["math/bits.Add64", "math/bits.Sub64"], apart := false, narrowed := true }
def LimbReckonsUptoSaid : Prop := limbReckonsUptoRow.holds Try.pinned (OpenSpec.upto limbReckonsSpec)

end Rows
end Go.Proofs.Ytgmbgidcgdammaa
