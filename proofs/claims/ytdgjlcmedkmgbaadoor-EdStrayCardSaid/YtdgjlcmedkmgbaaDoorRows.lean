/-
  NARROWER THAN 'FOR EVERY INPUT', by the rows' own cells (each row's printed sentence says how): EdAdds: laid · EdMultiplies: laid · EdBoth: laid · EdGroup: laid · EdOrder: laid · EdTwice: laid · EdStray: laid · EdBytes: laid.
  DERIVED. THE GIVEN ROWS OF THIS SEAT. 8 by the template 'for every input the law returns true; each argument reads behind the call as it read before'; 0 by the template 'total and deterministic' (their statements: YtdgjlcmedkmgbaaDoorTotals.lean).
  GIVEN WITH THE SEED: the statements are not yours to turn. If you find one false, say at which input.
  Laid BY PROGRAM, IN A SANDBOX (cutbox-rows.mjs): the forced cells as the released guide's own fill.sh prints them over the translation a7ce280744496ce5… (all of the seat's roots in one cut). By AI agents, Wed Nov 11 2026. No macro, syntax, notation, axiom, sorry.
-/
import Derived.Test.YtdgjlcmedkmgbaaDoorChecked
import GoSem.Claim
import GoSem.ClaimJoined
import GoSem.ClaimMapViews
import Derived.JoinedTies
import Derived.KernelRfl
namespace Go.Proofs.YtdgjlcmedkmgbaaDoor
/- THE CELL 'sum', in the pinned program and in every row, IS THE sha256 OF THE DUMP (.gsa) THAT YtdgjlcmedkmgbaaDoorProg.lean LOADS. Nothing in Lean hashes anything: it is a label: what it is worth is what the hold of that sum in a sandbox is worth. -/
noncomputable def Tryd.pinned : Pinned := { name := "ytdgjlcmedkmgbaadoor", sum := "a7ce280744496ce50b1228e3477bba341c35e3f8c8d855d0c9be4ad9c92a0431", checked := Tryd.checked }
namespace Rows
def none {H : Type} : Left H := { results := [], args := [] }

/- WHAT THE LISTED PACKAGE-LEVEL VARIABLES READ AS WHEN THE CALL BEGINS. Each datum BY PROGRAM (the guide's laid-datum.mjs) off the statement by which the dump's own 'gosem.cut.vars' lays the variable. In a bare row this is a premise. The card (YtdgjlcmedkmgbaaDoorCards.lean) ties it to the program's text. -/
def laid_chronicle_field_moduli {H : Type} : DataW H := .agg [.agg [.agg [.lit (.int .u64 18446744073709551615), .lit (.int .u64 4294967295), .lit (.int .u64 0), .lit (.int .u64 18446744069414584321)], .agg [.lit (.int .u64 3), .lit (.int .u64 18446744056529682431), .lit (.int .u64 18446744073709551614), .lit (.int .u64 21474836477)], .lit (.int .u64 1)], .agg [.agg [.lit (.int .u64 17562291160714782033), .lit (.int .u64 13611842547513532036), .lit (.int .u64 18446744073709551615), .lit (.int .u64 18446744069414584320)], .agg [.lit (.int .u64 9449762124159643298), .lit (.int .u64 5087230966250696614), .lit (.int .u64 2901921493521525849), .lit (.int .u64 7413256579398063648)], .lit (.int .u64 14758798090332847183)], .agg [.agg [.lit (.int .u64 18446744073709551597), .lit (.int .u64 18446744073709551615), .lit (.int .u64 18446744073709551615), .lit (.int .u64 9223372036854775807)], .agg [.lit (.int .u64 1444), .lit (.int .u64 0), .lit (.int .u64 0), .lit (.int .u64 0)], .lit (.int .u64 9708812670373448219)], .agg [.agg [.lit (.int .u64 6346243789798364141), .lit (.int .u64 1503914060200516822), .lit (.int .u64 0), .lit (.int .u64 1152921504606846976)], .agg [.lit (.int .u64 11819153939886771969), .lit (.int .u64 14991950615390032711), .lit (.int .u64 14910419812499177061), .lit (.int .u64 259310039853996605)], .lit (.int .u64 15183074304973897243)]]
def laid_chronicle_ed_d {H : Type} : DataW H := .agg [.lit (.int .u64 8496970652267935907), .lit (.int .u64 31536524315187371), .lit (.int .u64 10144147576115030168), .lit (.int .u64 5909686906226998899)]
def laid_chronicle_ed_twice {H : Type} : DataW H := .agg [.lit (.int .u64 16993941304535871833), .lit (.int .u64 63073048630374742), .lit (.int .u64 1841551078520508720), .lit (.int .u64 2596001775599221991)]
def laid_chronicle_ed_one {H : Type} : DataW H := .agg [.lit (.int .u64 1), .lit (.int .u64 0), .lit (.int .u64 0), .lit (.int .u64 0)]
def laid_chronicle_ed_neutral {H : Type} : DataW H := .agg [.agg [.lit (.int .u64 0), .lit (.int .u64 0), .lit (.int .u64 0), .lit (.int .u64 0)], .agg [.lit (.int .u64 1), .lit (.int .u64 0), .lit (.int .u64 0), .lit (.int .u64 0)], .agg [.lit (.int .u64 1), .lit (.int .u64 0), .lit (.int .u64 0), .lit (.int .u64 0)], .agg [.lit (.int .u64 0), .lit (.int .u64 0), .lit (.int .u64 0), .lit (.int .u64 0)]]
def laid_chronicle_ed_root {H : Type} : DataW H := .agg [.lit (.int .u64 14190309331451158704), .lit (.int .u64 3405592160176694392), .lit (.int .u64 3120150775007532967), .lit (.int .u64 3135389899092516619)]

/-- 'chroniclelaw09.EdAdds': WHATEVER THE INPUT: true; the input reads as it did. -/
def edAddsSpec : ChangeSpec := { name := "edAdds", fn := fun _ => fun
  | [d1, d2] => { results := [.lit (.bool true)], args := [d1, d2] }
  | _ => none }
def edAddsRow : OpenClaim := { program := "ytdgjlcmedkmgbaadoor", sum := "a7ce280744496ce50b1228e3477bba341c35e3f8c8d855d0c9be4ad9c92a0431", func := "chronicle/chroniclelaw09.EdAdds", spec := "edAdds", inPlace := ["math/bits.Sub64", "math/bits.Add64"], unfollowed := true, recurses := true, named := ["chronicle/ed.one", "chronicle/ed.d", "chronicle/field.moduli", "chronicle/ed.neutral", "chronicle/ed.twice"], apart := false, laid := [("chronicle/field.moduli", laid_chronicle_field_moduli), ("chronicle/ed.d", laid_chronicle_ed_d), ("chronicle/ed.twice", laid_chronicle_ed_twice), ("chronicle/ed.one", laid_chronicle_ed_one), ("chronicle/ed.neutral", laid_chronicle_ed_neutral)] }
def EdAddsSaid : Prop := edAddsRow.holds Tryd.pinned (OpenSpec.ofChange edAddsSpec)

/-- ITS FALSE NEIGHBOUR: 'it returns false'. Refute it at one input. -/
def edAddsWrong : ChangeSpec := { name := "edAdds", fn := fun _ => fun
  | [d1, d2] => { results := [.lit (.bool false)], args := [d1, d2] }
  | _ => none }
def EdAddsWrongFalsely : Prop := edAddsRow.holds Tryd.pinned (OpenSpec.ofChange edAddsWrong)

/-- 'chroniclelaw09.EdMultiplies': WHATEVER THE INPUT: true; the input reads as it did. -/
def edMultipliesSpec : ChangeSpec := { name := "edMultiplies", fn := fun _ => fun
  | [d1, d2] => { results := [.lit (.bool true)], args := [d1, d2] }
  | _ => none }
def edMultipliesRow : OpenClaim := { program := "ytdgjlcmedkmgbaadoor", sum := "a7ce280744496ce50b1228e3477bba341c35e3f8c8d855d0c9be4ad9c92a0431", func := "chronicle/chroniclelaw09.EdMultiplies", spec := "edMultiplies", inPlace := ["math/bits.Sub64", "math/bits.Add64"], unfollowed := true, recurses := true, named := ["chronicle/ed.one", "chronicle/ed.d", "chronicle/field.moduli", "chronicle/ed.neutral", "chronicle/ed.twice"], apart := false, laid := [("chronicle/field.moduli", laid_chronicle_field_moduli), ("chronicle/ed.d", laid_chronicle_ed_d), ("chronicle/ed.twice", laid_chronicle_ed_twice), ("chronicle/ed.one", laid_chronicle_ed_one), ("chronicle/ed.neutral", laid_chronicle_ed_neutral)] }
def EdMultipliesSaid : Prop := edMultipliesRow.holds Tryd.pinned (OpenSpec.ofChange edMultipliesSpec)

/-- ITS FALSE NEIGHBOUR: 'it returns false'. Refute it at one input. -/
def edMultipliesWrong : ChangeSpec := { name := "edMultiplies", fn := fun _ => fun
  | [d1, d2] => { results := [.lit (.bool false)], args := [d1, d2] }
  | _ => none }
def EdMultipliesWrongFalsely : Prop := edMultipliesRow.holds Tryd.pinned (OpenSpec.ofChange edMultipliesWrong)

/-- 'chroniclelaw09.EdBoth': WHATEVER THE INPUT: true; the input reads as it did. -/
def edBothSpec : ChangeSpec := { name := "edBoth", fn := fun _ => fun
  | [d1, d2, d3] => { results := [.lit (.bool true)], args := [d1, d2, d3] }
  | _ => none }
def edBothRow : OpenClaim := { program := "ytdgjlcmedkmgbaadoor", sum := "a7ce280744496ce50b1228e3477bba341c35e3f8c8d855d0c9be4ad9c92a0431", func := "chronicle/chroniclelaw09.EdBoth", spec := "edBoth", inPlace := ["math/bits.Sub64", "math/bits.Add64"], unfollowed := true, recurses := true, named := ["chronicle/ed.neutral", "chronicle/ed.one", "chronicle/ed.d", "chronicle/field.moduli", "chronicle/ed.twice"], apart := false, laid := [("chronicle/field.moduli", laid_chronicle_field_moduli), ("chronicle/ed.d", laid_chronicle_ed_d), ("chronicle/ed.twice", laid_chronicle_ed_twice), ("chronicle/ed.one", laid_chronicle_ed_one), ("chronicle/ed.neutral", laid_chronicle_ed_neutral)] }
def EdBothSaid : Prop := edBothRow.holds Tryd.pinned (OpenSpec.ofChange edBothSpec)

/-- ITS FALSE NEIGHBOUR: 'it returns false'. Refute it at one input. -/
def edBothWrong : ChangeSpec := { name := "edBoth", fn := fun _ => fun
  | [d1, d2, d3] => { results := [.lit (.bool false)], args := [d1, d2, d3] }
  | _ => none }
def EdBothWrongFalsely : Prop := edBothRow.holds Tryd.pinned (OpenSpec.ofChange edBothWrong)

/-- 'chroniclelaw09.EdGroup': WHATEVER THE INPUT: true; the input reads as it did. -/
def edGroupSpec : ChangeSpec := { name := "edGroup", fn := fun _ => fun
  | [d1, d2, d3] => { results := [.lit (.bool true)], args := [d1, d2, d3] }
  | _ => none }
def edGroupRow : OpenClaim := { program := "ytdgjlcmedkmgbaadoor", sum := "a7ce280744496ce50b1228e3477bba341c35e3f8c8d855d0c9be4ad9c92a0431", func := "chronicle/chroniclelaw09.EdGroup", spec := "edGroup", inPlace := ["math/bits.Sub64", "math/bits.Add64"], unfollowed := true, recurses := true, named := ["chronicle/ed.neutral", "chronicle/ed.one", "chronicle/ed.d", "chronicle/field.moduli", "chronicle/ed.twice"], apart := false, laid := [("chronicle/field.moduli", laid_chronicle_field_moduli), ("chronicle/ed.d", laid_chronicle_ed_d), ("chronicle/ed.twice", laid_chronicle_ed_twice), ("chronicle/ed.one", laid_chronicle_ed_one), ("chronicle/ed.neutral", laid_chronicle_ed_neutral)] }
def EdGroupSaid : Prop := edGroupRow.holds Tryd.pinned (OpenSpec.ofChange edGroupSpec)

/-- ITS FALSE NEIGHBOUR: 'it returns false'. Refute it at one input. -/
def edGroupWrong : ChangeSpec := { name := "edGroup", fn := fun _ => fun
  | [d1, d2, d3] => { results := [.lit (.bool false)], args := [d1, d2, d3] }
  | _ => none }
def EdGroupWrongFalsely : Prop := edGroupRow.holds Tryd.pinned (OpenSpec.ofChange edGroupWrong)

/-- 'chroniclelaw09.EdOrder': WHATEVER THE INPUT: true; the input reads as it did. -/
def edOrderSpec : ChangeSpec := { name := "edOrder", fn := fun _ => fun
  | [d] => { results := [.lit (.bool true)], args := [d] }
  | _ => none }
def edOrderRow : OpenClaim := { program := "ytdgjlcmedkmgbaadoor", sum := "a7ce280744496ce50b1228e3477bba341c35e3f8c8d855d0c9be4ad9c92a0431", func := "chronicle/chroniclelaw09.EdOrder", spec := "edOrder", inPlace := ["math/bits.Sub64", "math/bits.Add64"], unfollowed := true, recurses := true, named := ["chronicle/ed.neutral", "chronicle/ed.one", "chronicle/ed.d", "chronicle/field.moduli", "chronicle/ed.twice"], apart := false, laid := [("chronicle/field.moduli", laid_chronicle_field_moduli), ("chronicle/ed.d", laid_chronicle_ed_d), ("chronicle/ed.twice", laid_chronicle_ed_twice), ("chronicle/ed.one", laid_chronicle_ed_one), ("chronicle/ed.neutral", laid_chronicle_ed_neutral)] }
def EdOrderSaid : Prop := edOrderRow.holds Tryd.pinned (OpenSpec.ofChange edOrderSpec)

/-- ITS FALSE NEIGHBOUR: 'it returns false'. Refute it at one input. -/
def edOrderWrong : ChangeSpec := { name := "edOrder", fn := fun _ => fun
  | [d] => { results := [.lit (.bool false)], args := [d] }
  | _ => none }
def EdOrderWrongFalsely : Prop := edOrderRow.holds Tryd.pinned (OpenSpec.ofChange edOrderWrong)

/-- 'chroniclelaw09.EdTwice': WHATEVER THE INPUT: true; the input reads as it did. -/
def edTwiceSpec : ChangeSpec := { name := "edTwice", fn := fun _ => fun
  | [d1, d2] => { results := [.lit (.bool true)], args := [d1, d2] }
  | _ => none }
def edTwiceRow : OpenClaim := { program := "ytdgjlcmedkmgbaadoor", sum := "a7ce280744496ce50b1228e3477bba341c35e3f8c8d855d0c9be4ad9c92a0431", func := "chronicle/chroniclelaw09.EdTwice", spec := "edTwice", inPlace := ["math/bits.Sub64", "math/bits.Add64"], unfollowed := true, recurses := true, named := ["chronicle/ed.neutral", "chronicle/ed.one", "chronicle/ed.d", "chronicle/field.moduli", "chronicle/ed.twice"], apart := false, laid := [("chronicle/field.moduli", laid_chronicle_field_moduli), ("chronicle/ed.d", laid_chronicle_ed_d), ("chronicle/ed.twice", laid_chronicle_ed_twice), ("chronicle/ed.one", laid_chronicle_ed_one), ("chronicle/ed.neutral", laid_chronicle_ed_neutral)] }
def EdTwiceSaid : Prop := edTwiceRow.holds Tryd.pinned (OpenSpec.ofChange edTwiceSpec)

/-- ITS FALSE NEIGHBOUR: 'it returns false'. Refute it at one input. -/
def edTwiceWrong : ChangeSpec := { name := "edTwice", fn := fun _ => fun
  | [d1, d2] => { results := [.lit (.bool false)], args := [d1, d2] }
  | _ => none }
def EdTwiceWrongFalsely : Prop := edTwiceRow.holds Tryd.pinned (OpenSpec.ofChange edTwiceWrong)

/-- 'chroniclelaw09.EdStray': WHATEVER THE INPUT: true; the input reads as it did. -/
def edStraySpec : ChangeSpec := { name := "edStray", fn := fun _ => fun
  | [d1, d2] => { results := [.lit (.bool true)], args := [d1, d2] }
  | _ => none }
def edStrayRow : OpenClaim := { program := "ytdgjlcmedkmgbaadoor", sum := "a7ce280744496ce50b1228e3477bba341c35e3f8c8d855d0c9be4ad9c92a0431", func := "chronicle/chroniclelaw09.EdStray", spec := "edStray", inPlace := ["math/bits.Sub64", "math/bits.Add64"], unfollowed := true, recurses := true, named := ["chronicle/ed.one", "chronicle/ed.d", "chronicle/field.moduli", "chronicle/ed.neutral", "chronicle/ed.twice"], apart := false, laid := [("chronicle/field.moduli", laid_chronicle_field_moduli), ("chronicle/ed.d", laid_chronicle_ed_d), ("chronicle/ed.twice", laid_chronicle_ed_twice), ("chronicle/ed.one", laid_chronicle_ed_one), ("chronicle/ed.neutral", laid_chronicle_ed_neutral)] }
def EdStraySaid : Prop := edStrayRow.holds Tryd.pinned (OpenSpec.ofChange edStraySpec)

/-- ITS FALSE NEIGHBOUR: 'it returns false'. Refute it at one input. -/
def edStrayWrong : ChangeSpec := { name := "edStray", fn := fun _ => fun
  | [d1, d2] => { results := [.lit (.bool false)], args := [d1, d2] }
  | _ => none }
def EdStrayWrongFalsely : Prop := edStrayRow.holds Tryd.pinned (OpenSpec.ofChange edStrayWrong)

/-- 'chroniclelaw09.EdBytes': WHATEVER THE INPUT: true; the input reads as it did. -/
def edBytesSpec : ChangeSpec := { name := "edBytes", fn := fun _ => fun
  | [d1, d2] => { results := [.lit (.bool true)], args := [d1, d2] }
  | _ => none }
def edBytesRow : OpenClaim := { program := "ytdgjlcmedkmgbaadoor", sum := "a7ce280744496ce50b1228e3477bba341c35e3f8c8d855d0c9be4ad9c92a0431", func := "chronicle/chroniclelaw09.EdBytes", spec := "edBytes", inPlace := ["math/bits.Sub64", "math/bits.Add64"], unfollowed := true, recurses := true, named := ["chronicle/ed.one", "chronicle/ed.d", "chronicle/field.moduli", "chronicle/ed.root"], apart := false, laid := [("chronicle/field.moduli", laid_chronicle_field_moduli), ("chronicle/ed.d", laid_chronicle_ed_d), ("chronicle/ed.root", laid_chronicle_ed_root), ("chronicle/ed.one", laid_chronicle_ed_one)] }
def EdBytesSaid : Prop := edBytesRow.holds Tryd.pinned (OpenSpec.ofChange edBytesSpec)

/-- ITS FALSE NEIGHBOUR: 'it returns false'. Refute it at one input. -/
def edBytesWrong : ChangeSpec := { name := "edBytes", fn := fun _ => fun
  | [d1, d2] => { results := [.lit (.bool false)], args := [d1, d2] }
  | _ => none }
def EdBytesWrongFalsely : Prop := edBytesRow.holds Tryd.pinned (OpenSpec.ofChange edBytesWrong)

/- THE SECOND FORM. 'bulk': how many values and letters a reading holds, each counted each time it is reached (what is shared counts as often as it is met; a slice's spare places count too). A statement '..UptoSaid' is the law's where the arguments, and the package variables that the reading takes, are together of bulk at most 1048576: NARROWER than '..Said'. Prove '..Said' where nothing that the law and all that it calls make is longer than what came in: it says more and counts as full. Else prove '..UptoSaid'. A law counts once. -/
mutual
def uptoBulk {H : Type} : DataW H → Nat
  | .lit (.string bytes) => bytes.length + 1
  | .lit _ => 1
  | .nil => 1
  | .ptr d => uptoBulk d + 1
  | .slice elems spare => uptoBulkAll elems + uptoBulkAll spare + 1
  | .agg parts => uptoBulkAll parts + 1
  | .iface _ d => uptoBulk d + 1
  | .map entries => uptoBulkEntries entries + 1
  | .held _ => 1
def uptoBulkAll {H : Type} : List (DataW H) → Nat
  | [] => 0
  | d :: r => uptoBulk d + uptoBulkAll r
def uptoBulkEntries {H : Type} : List (Lit × DataW H) → Nat
  | [] => 0
  | x :: r => uptoBulkEntry x + uptoBulkEntries r
def uptoBulkEntry {H : Type} : Lit × DataW H → Nat
  | (.string bytes, d) => bytes.length + uptoBulk d + 1
  | (_, d) => uptoBulk d + 1
 end
def uptoSmall : (H : Type) → List (DataW H) → Bool := fun _ ds => decide (uptoBulkAll ds ≤ 1048576)
def OpenSpec.upto (s : _root_.Go.ChangeSpec) : _root_.Go.OpenSpec := { _root_.Go.OpenSpec.ofChange s with cond := some uptoSmall }

/-- 'chroniclelaw09.EdAdds', WHERE WHAT IT READS IS OF BULK AT MOST 1048576: true; the input reads as it did. -/
def edAddsUptoRow : OpenClaim := { program := "ytdgjlcmedkmgbaadoor", sum := "a7ce280744496ce50b1228e3477bba341c35e3f8c8d855d0c9be4ad9c92a0431", func := "chronicle/chroniclelaw09.EdAdds", spec := "edAdds", inPlace := ["math/bits.Sub64", "math/bits.Add64"], unfollowed := true, recurses := true, named := ["chronicle/ed.one", "chronicle/ed.d", "chronicle/field.moduli", "chronicle/ed.neutral", "chronicle/ed.twice"], apart := false, laid := [("chronicle/field.moduli", laid_chronicle_field_moduli), ("chronicle/ed.d", laid_chronicle_ed_d), ("chronicle/ed.twice", laid_chronicle_ed_twice), ("chronicle/ed.one", laid_chronicle_ed_one), ("chronicle/ed.neutral", laid_chronicle_ed_neutral)], narrowed := true }
def EdAddsUptoSaid : Prop := edAddsUptoRow.holds Tryd.pinned (OpenSpec.upto edAddsSpec)

/-- 'chroniclelaw09.EdMultiplies', WHERE WHAT IT READS IS OF BULK AT MOST 1048576: true; the input reads as it did. -/
def edMultipliesUptoRow : OpenClaim := { program := "ytdgjlcmedkmgbaadoor", sum := "a7ce280744496ce50b1228e3477bba341c35e3f8c8d855d0c9be4ad9c92a0431", func := "chronicle/chroniclelaw09.EdMultiplies", spec := "edMultiplies", inPlace := ["math/bits.Sub64", "math/bits.Add64"], unfollowed := true, recurses := true, named := ["chronicle/ed.one", "chronicle/ed.d", "chronicle/field.moduli", "chronicle/ed.neutral", "chronicle/ed.twice"], apart := false, laid := [("chronicle/field.moduli", laid_chronicle_field_moduli), ("chronicle/ed.d", laid_chronicle_ed_d), ("chronicle/ed.twice", laid_chronicle_ed_twice), ("chronicle/ed.one", laid_chronicle_ed_one), ("chronicle/ed.neutral", laid_chronicle_ed_neutral)], narrowed := true }
def EdMultipliesUptoSaid : Prop := edMultipliesUptoRow.holds Tryd.pinned (OpenSpec.upto edMultipliesSpec)

/-- 'chroniclelaw09.EdBoth', WHERE WHAT IT READS IS OF BULK AT MOST 1048576: true; the input reads as it did. -/
def edBothUptoRow : OpenClaim := { program := "ytdgjlcmedkmgbaadoor", sum := "a7ce280744496ce50b1228e3477bba341c35e3f8c8d855d0c9be4ad9c92a0431", func := "chronicle/chroniclelaw09.EdBoth", spec := "edBoth", inPlace := ["math/bits.Sub64", "math/bits.Add64"], unfollowed := true, recurses := true, named := ["chronicle/ed.neutral", "chronicle/ed.one", "chronicle/ed.d", "chronicle/field.moduli", "chronicle/ed.twice"], apart := false, laid := [("chronicle/field.moduli", laid_chronicle_field_moduli), ("chronicle/ed.d", laid_chronicle_ed_d), ("chronicle/ed.twice", laid_chronicle_ed_twice), ("chronicle/ed.one", laid_chronicle_ed_one), ("chronicle/ed.neutral", laid_chronicle_ed_neutral)], narrowed := true }
def EdBothUptoSaid : Prop := edBothUptoRow.holds Tryd.pinned (OpenSpec.upto edBothSpec)

/-- 'chroniclelaw09.EdGroup', WHERE WHAT IT READS IS OF BULK AT MOST 1048576: true; the input reads as it did. -/
def edGroupUptoRow : OpenClaim := { program := "ytdgjlcmedkmgbaadoor", sum := "a7ce280744496ce50b1228e3477bba341c35e3f8c8d855d0c9be4ad9c92a0431", func := "chronicle/chroniclelaw09.EdGroup", spec := "edGroup", inPlace := ["math/bits.Sub64", "math/bits.Add64"], unfollowed := true, recurses := true, named := ["chronicle/ed.neutral", "chronicle/ed.one", "chronicle/ed.d", "chronicle/field.moduli", "chronicle/ed.twice"], apart := false, laid := [("chronicle/field.moduli", laid_chronicle_field_moduli), ("chronicle/ed.d", laid_chronicle_ed_d), ("chronicle/ed.twice", laid_chronicle_ed_twice), ("chronicle/ed.one", laid_chronicle_ed_one), ("chronicle/ed.neutral", laid_chronicle_ed_neutral)], narrowed := true }
def EdGroupUptoSaid : Prop := edGroupUptoRow.holds Tryd.pinned (OpenSpec.upto edGroupSpec)

/-- 'chroniclelaw09.EdOrder', WHERE WHAT IT READS IS OF BULK AT MOST 1048576: true; the input reads as it did. -/
def edOrderUptoRow : OpenClaim := { program := "ytdgjlcmedkmgbaadoor", sum := "a7ce280744496ce50b1228e3477bba341c35e3f8c8d855d0c9be4ad9c92a0431", func := "chronicle/chroniclelaw09.EdOrder", spec := "edOrder", inPlace := ["math/bits.Sub64", "math/bits.Add64"], unfollowed := true, recurses := true, named := ["chronicle/ed.neutral", "chronicle/ed.one", "chronicle/ed.d", "chronicle/field.moduli", "chronicle/ed.twice"], apart := false, laid := [("chronicle/field.moduli", laid_chronicle_field_moduli), ("chronicle/ed.d", laid_chronicle_ed_d), ("chronicle/ed.twice", laid_chronicle_ed_twice), ("chronicle/ed.one", laid_chronicle_ed_one), ("chronicle/ed.neutral", laid_chronicle_ed_neutral)], narrowed := true }
def EdOrderUptoSaid : Prop := edOrderUptoRow.holds Tryd.pinned (OpenSpec.upto edOrderSpec)

/-- 'chroniclelaw09.EdTwice', WHERE WHAT IT READS IS OF BULK AT MOST 1048576: true; the input reads as it did. -/
def edTwiceUptoRow : OpenClaim := { program := "ytdgjlcmedkmgbaadoor", sum := "a7ce280744496ce50b1228e3477bba341c35e3f8c8d855d0c9be4ad9c92a0431", func := "chronicle/chroniclelaw09.EdTwice", spec := "edTwice", inPlace := ["math/bits.Sub64", "math/bits.Add64"], unfollowed := true, recurses := true, named := ["chronicle/ed.neutral", "chronicle/ed.one", "chronicle/ed.d", "chronicle/field.moduli", "chronicle/ed.twice"], apart := false, laid := [("chronicle/field.moduli", laid_chronicle_field_moduli), ("chronicle/ed.d", laid_chronicle_ed_d), ("chronicle/ed.twice", laid_chronicle_ed_twice), ("chronicle/ed.one", laid_chronicle_ed_one), ("chronicle/ed.neutral", laid_chronicle_ed_neutral)], narrowed := true }
def EdTwiceUptoSaid : Prop := edTwiceUptoRow.holds Tryd.pinned (OpenSpec.upto edTwiceSpec)

/-- 'chroniclelaw09.EdStray', WHERE WHAT IT READS IS OF BULK AT MOST 1048576: true; the input reads as it did. -/
def edStrayUptoRow : OpenClaim := { program := "ytdgjlcmedkmgbaadoor", sum := "a7ce280744496ce50b1228e3477bba341c35e3f8c8d855d0c9be4ad9c92a0431", func := "chronicle/chroniclelaw09.EdStray", spec := "edStray", inPlace := ["math/bits.Sub64", "math/bits.Add64"], unfollowed := true, recurses := true, named := ["chronicle/ed.one", "chronicle/ed.d", "chronicle/field.moduli", "chronicle/ed.neutral", "chronicle/ed.twice"], apart := false, laid := [("chronicle/field.moduli", laid_chronicle_field_moduli), ("chronicle/ed.d", laid_chronicle_ed_d), ("chronicle/ed.twice", laid_chronicle_ed_twice), ("chronicle/ed.one", laid_chronicle_ed_one), ("chronicle/ed.neutral", laid_chronicle_ed_neutral)], narrowed := true }
def EdStrayUptoSaid : Prop := edStrayUptoRow.holds Tryd.pinned (OpenSpec.upto edStraySpec)

/-- 'chroniclelaw09.EdBytes', WHERE WHAT IT READS IS OF BULK AT MOST 1048576: true; the input reads as it did. -/
def edBytesUptoRow : OpenClaim := { program := "ytdgjlcmedkmgbaadoor", sum := "a7ce280744496ce50b1228e3477bba341c35e3f8c8d855d0c9be4ad9c92a0431", func := "chronicle/chroniclelaw09.EdBytes", spec := "edBytes", inPlace := ["math/bits.Sub64", "math/bits.Add64"], unfollowed := true, recurses := true, named := ["chronicle/ed.one", "chronicle/ed.d", "chronicle/field.moduli", "chronicle/ed.root"], apart := false, laid := [("chronicle/field.moduli", laid_chronicle_field_moduli), ("chronicle/ed.d", laid_chronicle_ed_d), ("chronicle/ed.root", laid_chronicle_ed_root), ("chronicle/ed.one", laid_chronicle_ed_one)], narrowed := true }
def EdBytesUptoSaid : Prop := edBytesUptoRow.holds Tryd.pinned (OpenSpec.upto edBytesSpec)

end Rows
end Go.Proofs.YtdgjlcmedkmgbaaDoor
