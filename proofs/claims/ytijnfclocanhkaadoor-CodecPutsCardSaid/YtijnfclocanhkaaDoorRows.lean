/-
  NARROWER THAN 'FOR EVERY INPUT', by the rows' own cells (each row's printed sentence says how): CodecPuts: laid · FieldReduces: laid · FieldPower: laid · FieldPowers: laid · FieldInverse: laid · FieldRing: laid · FieldMinus: laid · FieldLess: laid · FieldReckons: laid.
  DERIVED. THE GIVEN ROWS OF THIS SEAT. 9 by the template 'for every input the law returns true; each argument reads behind the call as it read before'; 0 by the template 'total and deterministic' (their statements: YtijnfclocanhkaaDoorTotals.lean).
  GIVEN WITH THE SEED: the statements are not yours to turn. If you find one false, say at which input.
  Laid BY PROGRAM, IN A SANDBOX (cutbox-rows.mjs): the forced cells as the released guide's own fill.sh prints them over the translation f71989da5cfb9808… (all of the seat's roots in one cut). By AI agents, Wed Nov 11 2026. No macro, syntax, notation, axiom, sorry.
-/
import Derived.Test.YtijnfclocanhkaaDoorChecked
import GoSem.Claim
import GoSem.ClaimJoined
import GoSem.ClaimMapViews
import Derived.JoinedTies
import Derived.KernelRfl
namespace Go.Proofs.YtijnfclocanhkaaDoor
/- THE CELL 'sum', in the pinned program and in every row, IS THE sha256 OF THE DUMP (.gsa) THAT YtijnfclocanhkaaDoorProg.lean LOADS. Nothing in Lean hashes anything: it is a label: what it is worth is what the hold of that sum in a sandbox is worth. -/
noncomputable def Tryd.pinned : Pinned := { name := "ytijnfclocanhkaadoor", sum := "f71989da5cfb9808aa9499b9604f6bc1eb02b671c2ed2fa23a7ba23ca0ddc538", checked := Tryd.checked }
namespace Rows
def none {H : Type} : Left H := { results := [], args := [] }

/- WHAT THE LISTED PACKAGE-LEVEL VARIABLES READ AS WHEN THE CALL BEGINS. Each datum BY PROGRAM (the guide's laid-datum.mjs) off the statement by which the dump's own 'gosem.cut.vars' lays the variable. In a bare row this is a premise. The card (YtijnfclocanhkaaDoorCards.lean) ties it to the program's text. -/
def laid_chronicle_field_moduli {H : Type} : DataW H := .agg [.agg [.agg [.lit (.int .u64 18446744073709551615), .lit (.int .u64 4294967295), .lit (.int .u64 0), .lit (.int .u64 18446744069414584321)], .agg [.lit (.int .u64 3), .lit (.int .u64 18446744056529682431), .lit (.int .u64 18446744073709551614), .lit (.int .u64 21474836477)], .lit (.int .u64 1)], .agg [.agg [.lit (.int .u64 17562291160714782033), .lit (.int .u64 13611842547513532036), .lit (.int .u64 18446744073709551615), .lit (.int .u64 18446744069414584320)], .agg [.lit (.int .u64 9449762124159643298), .lit (.int .u64 5087230966250696614), .lit (.int .u64 2901921493521525849), .lit (.int .u64 7413256579398063648)], .lit (.int .u64 14758798090332847183)], .agg [.agg [.lit (.int .u64 18446744073709551597), .lit (.int .u64 18446744073709551615), .lit (.int .u64 18446744073709551615), .lit (.int .u64 9223372036854775807)], .agg [.lit (.int .u64 1444), .lit (.int .u64 0), .lit (.int .u64 0), .lit (.int .u64 0)], .lit (.int .u64 9708812670373448219)], .agg [.agg [.lit (.int .u64 6346243789798364141), .lit (.int .u64 1503914060200516822), .lit (.int .u64 0), .lit (.int .u64 1152921504606846976)], .agg [.lit (.int .u64 11819153939886771969), .lit (.int .u64 14991950615390032711), .lit (.int .u64 14910419812499177061), .lit (.int .u64 259310039853996605)], .lit (.int .u64 15183074304973897243)]]

/-- 'chroniclelaw03.CodecPuts': WHATEVER THE INPUT: true; the input reads as it did. -/
def codecPutsSpec : ChangeSpec := { name := "codecPuts", fn := fun _ => fun
  | [d1, d2] => { results := [.lit (.bool true)], args := [d1, d2] }
  | _ => none }
def codecPutsRow : OpenClaim := { program := "ytijnfclocanhkaadoor", sum := "f71989da5cfb9808aa9499b9604f6bc1eb02b671c2ed2fa23a7ba23ca0ddc538", func := "chronicle/chroniclelaw03.CodecPuts", spec := "codecPuts", named := ["chronicle/field.moduli"], apart := false, laid := [("chronicle/field.moduli", laid_chronicle_field_moduli)] }
def CodecPutsSaid : Prop := codecPutsRow.holds Tryd.pinned (OpenSpec.ofChange codecPutsSpec)

/-- ITS FALSE NEIGHBOUR: 'it returns false'. Refute it at one input. -/
def codecPutsWrong : ChangeSpec := { name := "codecPuts", fn := fun _ => fun
  | [d1, d2] => { results := [.lit (.bool false)], args := [d1, d2] }
  | _ => none }
def CodecPutsWrongFalsely : Prop := codecPutsRow.holds Tryd.pinned (OpenSpec.ofChange codecPutsWrong)

/-- 'chroniclelaw02.FieldReduces': WHATEVER THE INPUT: true; the input reads as it did. -/
def fieldReducesSpec : ChangeSpec := { name := "fieldReduces", fn := fun _ => fun
  | [d1, d2] => { results := [.lit (.bool true)], args := [d1, d2] }
  | _ => none }
def fieldReducesRow : OpenClaim := { program := "ytijnfclocanhkaadoor", sum := "f71989da5cfb9808aa9499b9604f6bc1eb02b671c2ed2fa23a7ba23ca0ddc538", func := "chronicle/chroniclelaw02.FieldReduces", spec := "fieldReduces", inPlace := ["math/bits.Sub64", "math/bits.Add64"], named := ["chronicle/field.moduli"], apart := false, laid := [("chronicle/field.moduli", laid_chronicle_field_moduli)] }
def FieldReducesSaid : Prop := fieldReducesRow.holds Tryd.pinned (OpenSpec.ofChange fieldReducesSpec)

/-- ITS FALSE NEIGHBOUR: 'it returns false'. Refute it at one input. -/
def fieldReducesWrong : ChangeSpec := { name := "fieldReduces", fn := fun _ => fun
  | [d1, d2] => { results := [.lit (.bool false)], args := [d1, d2] }
  | _ => none }
def FieldReducesWrongFalsely : Prop := fieldReducesRow.holds Tryd.pinned (OpenSpec.ofChange fieldReducesWrong)

/-- 'chroniclelaw02.FieldPower': WHATEVER THE INPUT: true; the input reads as it did. -/
def fieldPowerSpec : ChangeSpec := { name := "fieldPower", fn := fun _ => fun
  | [d1, d2, d3] => { results := [.lit (.bool true)], args := [d1, d2, d3] }
  | _ => none }
def fieldPowerRow : OpenClaim := { program := "ytijnfclocanhkaadoor", sum := "f71989da5cfb9808aa9499b9604f6bc1eb02b671c2ed2fa23a7ba23ca0ddc538", func := "chronicle/chroniclelaw02.FieldPower", spec := "fieldPower", inPlace := ["math/bits.Sub64", "math/bits.Add64"], unfollowed := true, recurses := true, named := ["chronicle/field.moduli"], apart := false, laid := [("chronicle/field.moduli", laid_chronicle_field_moduli)] }
def FieldPowerSaid : Prop := fieldPowerRow.holds Tryd.pinned (OpenSpec.ofChange fieldPowerSpec)

/-- ITS FALSE NEIGHBOUR: 'it returns false'. Refute it at one input. -/
def fieldPowerWrong : ChangeSpec := { name := "fieldPower", fn := fun _ => fun
  | [d1, d2, d3] => { results := [.lit (.bool false)], args := [d1, d2, d3] }
  | _ => none }
def FieldPowerWrongFalsely : Prop := fieldPowerRow.holds Tryd.pinned (OpenSpec.ofChange fieldPowerWrong)

/-- 'chroniclelaw02.FieldPowers': WHATEVER THE INPUT: true; the input reads as it did. -/
def fieldPowersSpec : ChangeSpec := { name := "fieldPowers", fn := fun _ => fun
  | [d1, d2, d3] => { results := [.lit (.bool true)], args := [d1, d2, d3] }
  | _ => none }
def fieldPowersRow : OpenClaim := { program := "ytijnfclocanhkaadoor", sum := "f71989da5cfb9808aa9499b9604f6bc1eb02b671c2ed2fa23a7ba23ca0ddc538", func := "chronicle/chroniclelaw02.FieldPowers", spec := "fieldPowers", inPlace := ["math/bits.Sub64", "math/bits.Add64"], unfollowed := true, recurses := true, named := ["chronicle/field.moduli"], apart := false, laid := [("chronicle/field.moduli", laid_chronicle_field_moduli)] }
def FieldPowersSaid : Prop := fieldPowersRow.holds Tryd.pinned (OpenSpec.ofChange fieldPowersSpec)

/-- ITS FALSE NEIGHBOUR: 'it returns false'. Refute it at one input. -/
def fieldPowersWrong : ChangeSpec := { name := "fieldPowers", fn := fun _ => fun
  | [d1, d2, d3] => { results := [.lit (.bool false)], args := [d1, d2, d3] }
  | _ => none }
def FieldPowersWrongFalsely : Prop := fieldPowersRow.holds Tryd.pinned (OpenSpec.ofChange fieldPowersWrong)

/-- 'chroniclelaw02.FieldInverse': WHATEVER THE INPUT: true; the input reads as it did. -/
def fieldInverseSpec : ChangeSpec := { name := "fieldInverse", fn := fun _ => fun
  | [d1, d2] => { results := [.lit (.bool true)], args := [d1, d2] }
  | _ => none }
def fieldInverseRow : OpenClaim := { program := "ytijnfclocanhkaadoor", sum := "f71989da5cfb9808aa9499b9604f6bc1eb02b671c2ed2fa23a7ba23ca0ddc538", func := "chronicle/chroniclelaw02.FieldInverse", spec := "fieldInverse", inPlace := ["math/bits.Sub64", "math/bits.Add64"], unfollowed := true, recurses := true, named := ["chronicle/field.moduli"], apart := false, laid := [("chronicle/field.moduli", laid_chronicle_field_moduli)] }
def FieldInverseSaid : Prop := fieldInverseRow.holds Tryd.pinned (OpenSpec.ofChange fieldInverseSpec)

/-- ITS FALSE NEIGHBOUR: 'it returns false'. Refute it at one input. -/
def fieldInverseWrong : ChangeSpec := { name := "fieldInverse", fn := fun _ => fun
  | [d1, d2] => { results := [.lit (.bool false)], args := [d1, d2] }
  | _ => none }
def FieldInverseWrongFalsely : Prop := fieldInverseRow.holds Tryd.pinned (OpenSpec.ofChange fieldInverseWrong)

/-- 'chroniclelaw02.FieldRing': WHATEVER THE INPUT: true; the input reads as it did. -/
def fieldRingSpec : ChangeSpec := { name := "fieldRing", fn := fun _ => fun
  | [d1, d2] => { results := [.lit (.bool true)], args := [d1, d2] }
  | _ => none }
def fieldRingRow : OpenClaim := { program := "ytijnfclocanhkaadoor", sum := "f71989da5cfb9808aa9499b9604f6bc1eb02b671c2ed2fa23a7ba23ca0ddc538", func := "chronicle/chroniclelaw02.FieldRing", spec := "fieldRing", inPlace := ["math/bits.Sub64", "math/bits.Add64"], named := ["chronicle/field.moduli"], apart := false, laid := [("chronicle/field.moduli", laid_chronicle_field_moduli)] }
def FieldRingSaid : Prop := fieldRingRow.holds Tryd.pinned (OpenSpec.ofChange fieldRingSpec)

/-- ITS FALSE NEIGHBOUR: 'it returns false'. Refute it at one input. -/
def fieldRingWrong : ChangeSpec := { name := "fieldRing", fn := fun _ => fun
  | [d1, d2] => { results := [.lit (.bool false)], args := [d1, d2] }
  | _ => none }
def FieldRingWrongFalsely : Prop := fieldRingRow.holds Tryd.pinned (OpenSpec.ofChange fieldRingWrong)

/-- 'chroniclelaw02.FieldMinus': WHATEVER THE INPUT: true; the input reads as it did. -/
def fieldMinusSpec : ChangeSpec := { name := "fieldMinus", fn := fun _ => fun
  | [d1, d2, d3] => { results := [.lit (.bool true)], args := [d1, d2, d3] }
  | _ => none }
def fieldMinusRow : OpenClaim := { program := "ytijnfclocanhkaadoor", sum := "f71989da5cfb9808aa9499b9604f6bc1eb02b671c2ed2fa23a7ba23ca0ddc538", func := "chronicle/chroniclelaw02.FieldMinus", spec := "fieldMinus", inPlace := ["math/bits.Sub64", "math/bits.Add64"], named := ["chronicle/field.moduli"], apart := false, laid := [("chronicle/field.moduli", laid_chronicle_field_moduli)] }
def FieldMinusSaid : Prop := fieldMinusRow.holds Tryd.pinned (OpenSpec.ofChange fieldMinusSpec)

/-- ITS FALSE NEIGHBOUR: 'it returns false'. Refute it at one input. -/
def fieldMinusWrong : ChangeSpec := { name := "fieldMinus", fn := fun _ => fun
  | [d1, d2, d3] => { results := [.lit (.bool false)], args := [d1, d2, d3] }
  | _ => none }
def FieldMinusWrongFalsely : Prop := fieldMinusRow.holds Tryd.pinned (OpenSpec.ofChange fieldMinusWrong)

/-- 'chroniclelaw02.FieldLess': WHATEVER THE INPUT: true; the input reads as it did. -/
def fieldLessSpec : ChangeSpec := { name := "fieldLess", fn := fun _ => fun
  | [d1, d2, d3] => { results := [.lit (.bool true)], args := [d1, d2, d3] }
  | _ => none }
def fieldLessRow : OpenClaim := { program := "ytijnfclocanhkaadoor", sum := "f71989da5cfb9808aa9499b9604f6bc1eb02b671c2ed2fa23a7ba23ca0ddc538", func := "chronicle/chroniclelaw02.FieldLess", spec := "fieldLess", inPlace := ["math/bits.Sub64", "math/bits.Add64"], named := ["chronicle/field.moduli"], apart := false, laid := [("chronicle/field.moduli", laid_chronicle_field_moduli)] }
def FieldLessSaid : Prop := fieldLessRow.holds Tryd.pinned (OpenSpec.ofChange fieldLessSpec)

/-- ITS FALSE NEIGHBOUR: 'it returns false'. Refute it at one input. -/
def fieldLessWrong : ChangeSpec := { name := "fieldLess", fn := fun _ => fun
  | [d1, d2, d3] => { results := [.lit (.bool false)], args := [d1, d2, d3] }
  | _ => none }
def FieldLessWrongFalsely : Prop := fieldLessRow.holds Tryd.pinned (OpenSpec.ofChange fieldLessWrong)

/-- 'chroniclelaw02.FieldReckons': WHATEVER THE INPUT: true; the input reads as it did. -/
def fieldReckonsSpec : ChangeSpec := { name := "fieldReckons", fn := fun _ => fun
  | [d1, d2, d3] => { results := [.lit (.bool true)], args := [d1, d2, d3] }
  | _ => none }
def fieldReckonsRow : OpenClaim := { program := "ytijnfclocanhkaadoor", sum := "f71989da5cfb9808aa9499b9604f6bc1eb02b671c2ed2fa23a7ba23ca0ddc538", func := "chronicle/chroniclelaw02.FieldReckons", spec := "fieldReckons", inPlace := ["math/bits.Sub64", "math/bits.Add64"], unfollowed := true, recurses := true, named := ["chronicle/field.moduli"], apart := false, laid := [("chronicle/field.moduli", laid_chronicle_field_moduli)] }
def FieldReckonsSaid : Prop := fieldReckonsRow.holds Tryd.pinned (OpenSpec.ofChange fieldReckonsSpec)

/-- ITS FALSE NEIGHBOUR: 'it returns false'. Refute it at one input. -/
def fieldReckonsWrong : ChangeSpec := { name := "fieldReckons", fn := fun _ => fun
  | [d1, d2, d3] => { results := [.lit (.bool false)], args := [d1, d2, d3] }
  | _ => none }
def FieldReckonsWrongFalsely : Prop := fieldReckonsRow.holds Tryd.pinned (OpenSpec.ofChange fieldReckonsWrong)

/- THE SECOND FORM. 'bulk': how many values and letters a reading holds, each counted each time it is reached (what is shared counts as often as it is met; a slice's spare places count too). A statement '..UptoSaid' is the law's where the arguments, and the package variables that the reading takes, are together of bulk at most 1048576: NARROWER than '..Said'. Prove '..Said' where nothing that the law and all that it calls make is longer than what came in: it says more and counts as full. Else prove '..UptoSaid'. A law counts once. -/
mutual
def uptoBulk {H : Type} : DataW H → Nat
  | .lit (.string bytes) => bytes.length + 1
  | .lit _ => 1
  | .nil => 1
  | .ptr d => uptoBulk d + 1
  | .slice elems spare => uptoBulkAll elems + uptoBulkAll spare + 1
  | .agg parts => uptoBulkAll parts + 1
  | .iface _ d => uptoBulk d + 1
  | .map entries => uptoBulkEntries entries + 1
  | .held _ => 1
def uptoBulkAll {H : Type} : List (DataW H) → Nat
  | [] => 0
  | d :: r => uptoBulk d + uptoBulkAll r
def uptoBulkEntries {H : Type} : List (Lit × DataW H) → Nat
  | [] => 0
  | x :: r => uptoBulkEntry x + uptoBulkEntries r
def uptoBulkEntry {H : Type} : Lit × DataW H → Nat
  | (.string bytes, d) => bytes.length + uptoBulk d + 1
  | (_, d) => uptoBulk d + 1
 end
def uptoSmall : (H : Type) → List (DataW H) → Bool := fun _ ds => decide (uptoBulkAll ds ≤ 1048576)
def OpenSpec.upto (s : _root_.Go.ChangeSpec) : _root_.Go.OpenSpec := { _root_.Go.OpenSpec.ofChange s with cond := some uptoSmall }

/-- 'chroniclelaw03.CodecPuts', WHERE WHAT IT READS IS OF BULK AT MOST 1048576: true; the input reads as it did. -/
def codecPutsUptoRow : OpenClaim := { program := "ytijnfclocanhkaadoor", sum := "f71989da5cfb9808aa9499b9604f6bc1eb02b671c2ed2fa23a7ba23ca0ddc538", func := "chronicle/chroniclelaw03.CodecPuts", spec := "codecPuts", named := ["chronicle/field.moduli"], apart := false, laid := [("chronicle/field.moduli", laid_chronicle_field_moduli)], narrowed := true }
def CodecPutsUptoSaid : Prop := codecPutsUptoRow.holds Tryd.pinned (OpenSpec.upto codecPutsSpec)

/-- 'chroniclelaw02.FieldReduces', WHERE WHAT IT READS IS OF BULK AT MOST 1048576: true; the input reads as it did. -/
def fieldReducesUptoRow : OpenClaim := { program := "ytijnfclocanhkaadoor", sum := "f71989da5cfb9808aa9499b9604f6bc1eb02b671c2ed2fa23a7ba23ca0ddc538", func := "chronicle/chroniclelaw02.FieldReduces", spec := "fieldReduces", inPlace := ["math/bits.Sub64", "math/bits.Add64"], named := ["chronicle/field.moduli"], apart := false, laid := [("chronicle/field.moduli", laid_chronicle_field_moduli)], narrowed := true }
def FieldReducesUptoSaid : Prop := fieldReducesUptoRow.holds Tryd.pinned (OpenSpec.upto fieldReducesSpec)

/-- 'chroniclelaw02.FieldPower', WHERE WHAT IT READS IS OF BULK AT MOST 1048576: true; the input reads as it did. -/
def fieldPowerUptoRow : OpenClaim := { program := "ytijnfclocanhkaadoor", sum := "f71989da5cfb9808aa9499b9604f6bc1eb02b671c2ed2fa23a7ba23ca0ddc538", func := "chronicle/chroniclelaw02.FieldPower", spec := "fieldPower", inPlace := ["math/bits.Sub64", "math/bits.Add64"], unfollowed := true, recurses := true, named := ["chronicle/field.moduli"], apart := false, laid := [("chronicle/field.moduli", laid_chronicle_field_moduli)], narrowed := true }
def FieldPowerUptoSaid : Prop := fieldPowerUptoRow.holds Tryd.pinned (OpenSpec.upto fieldPowerSpec)

/-- 'chroniclelaw02.FieldPowers', WHERE WHAT IT READS IS OF BULK AT MOST 1048576: true; the input reads as it did. -/
def fieldPowersUptoRow : OpenClaim := { program := "ytijnfclocanhkaadoor", sum := "f71989da5cfb9808aa9499b9604f6bc1eb02b671c2ed2fa23a7ba23ca0ddc538", func := "chronicle/chroniclelaw02.FieldPowers", spec := "fieldPowers", inPlace := ["math/bits.Sub64", "math/bits.Add64"], unfollowed := true, recurses := true, named := ["chronicle/field.moduli"], apart := false, laid := [("chronicle/field.moduli", laid_chronicle_field_moduli)], narrowed := true }
def FieldPowersUptoSaid : Prop := fieldPowersUptoRow.holds Tryd.pinned (OpenSpec.upto fieldPowersSpec)

/-- 'chroniclelaw02.FieldInverse', WHERE WHAT IT READS IS OF BULK AT MOST 1048576: true; the input reads as it did. -/
def fieldInverseUptoRow : OpenClaim := { program := "ytijnfclocanhkaadoor", sum := "f71989da5cfb9808aa9499b9604f6bc1eb02b671c2ed2fa23a7ba23ca0ddc538", func := "chronicle/chroniclelaw02.FieldInverse", spec := "fieldInverse", inPlace := ["math/bits.Sub64", "math/bits.Add64"], unfollowed := true, recurses := true, named := ["chronicle/field.moduli"], apart := false, laid := [("chronicle/field.moduli", laid_chronicle_field_moduli)], narrowed := true }
def FieldInverseUptoSaid : Prop := fieldInverseUptoRow.holds Tryd.pinned (OpenSpec.upto fieldInverseSpec)

/-- 'chroniclelaw02.FieldRing', WHERE WHAT IT READS IS OF BULK AT MOST 1048576: true; the input reads as it did. -/
def fieldRingUptoRow : OpenClaim := { program := "ytijnfclocanhkaadoor", sum := "f71989da5cfb9808aa9499b9604f6bc1eb02b671c2ed2fa23a7ba23ca0ddc538", func := "chronicle/chroniclelaw02.FieldRing", spec := "fieldRing", inPlace := ["math/bits.Sub64", "math/bits.Add64"], named := ["chronicle/field.moduli"], apart := false, laid := [("chronicle/field.moduli", laid_chronicle_field_moduli)], narrowed := true }
def FieldRingUptoSaid : Prop := fieldRingUptoRow.holds Tryd.pinned (OpenSpec.upto fieldRingSpec)

/-- 'chroniclelaw02.FieldMinus', WHERE WHAT IT READS IS OF BULK AT MOST 1048576: true; the input reads as it did. -/
def fieldMinusUptoRow : OpenClaim := { program := "ytijnfclocanhkaadoor", sum := "f71989da5cfb9808aa9499b9604f6bc1eb02b671c2ed2fa23a7ba23ca0ddc538", func := "chronicle/chroniclelaw02.FieldMinus", spec := "fieldMinus", inPlace := ["math/bits.Sub64", "math/bits.Add64"], named := ["chronicle/field.moduli"], apart := false, laid := [("chronicle/field.moduli", laid_chronicle_field_moduli)], narrowed := true }
def FieldMinusUptoSaid : Prop := fieldMinusUptoRow.holds Tryd.pinned (OpenSpec.upto fieldMinusSpec)

/-- 'chroniclelaw02.FieldLess', WHERE WHAT IT READS IS OF BULK AT MOST 1048576: true; the input reads as it did. -/
def fieldLessUptoRow : OpenClaim := { program := "ytijnfclocanhkaadoor", sum := "f71989da5cfb9808aa9499b9604f6bc1eb02b671c2ed2fa23a7ba23ca0ddc538", func := "chronicle/chroniclelaw02.FieldLess", spec := "fieldLess", inPlace := ["math/bits.Sub64", "math/bits.Add64"], named := ["chronicle/field.moduli"], apart := false, laid := [("chronicle/field.moduli", laid_chronicle_field_moduli)], narrowed := true }
def FieldLessUptoSaid : Prop := fieldLessUptoRow.holds Tryd.pinned (OpenSpec.upto fieldLessSpec)

/-- 'chroniclelaw02.FieldReckons', WHERE WHAT IT READS IS OF BULK AT MOST 1048576: true; the input reads as it did. -/
def fieldReckonsUptoRow : OpenClaim := { program := "ytijnfclocanhkaadoor", sum := "f71989da5cfb9808aa9499b9604f6bc1eb02b671c2ed2fa23a7ba23ca0ddc538", func := "chronicle/chroniclelaw02.FieldReckons", spec := "fieldReckons", inPlace := ["math/bits.Sub64", "math/bits.Add64"], unfollowed := true, recurses := true, named := ["chronicle/field.moduli"], apart := false, laid := [("chronicle/field.moduli", laid_chronicle_field_moduli)], narrowed := true }
def FieldReckonsUptoSaid : Prop := fieldReckonsUptoRow.holds Tryd.pinned (OpenSpec.upto fieldReckonsSpec)

end Rows
end Go.Proofs.YtijnfclocanhkaaDoor
