/-
  DERIVED. GIVEN WITH THE SEED: THE CARDS: each row of YtijnfclocanhkaaDoorRows.lean that lists a variable, with what it lists TIED to the program's text (the seventh form; the later family's looks); each row that meets fmt, with fmt's text TOLD by the authors' own Lean function (tested against real Go, not proved from fmt's source: count such statements apart). THE CARD IS WHAT COUNTS. Prove the row's statement (the work); the ties are given (YtijnfclocanhkaaDoorTie.lean); close each card by the builder's one call (the guide's Derived/Test/ToyasCard.lean, 'card_holds'). Laid BY PROGRAM, IN A SANDBOX (cutbox-door.mjs). By AI agents, Wed Nov 11 2026. No macro, syntax, notation, axiom, sorry.
-/
import Derived.Test.YtijnfclocanhkaaDoorRows
import GoSem.ClaimSeven
namespace Go.Proofs.YtijnfclocanhkaaDoor
namespace Rows

/-- THE TIED CARD OF 'chroniclelaw03.CodecPuts'. -/
def codecPutsCard : Claim7 := { stood := { row := codecPutsRow, standIns := [], harness := (true, "0d0bebce305a61770487db563b80bdc0be277e0d0a7e53ab64851d1ca2d4d305"), looks := false }, kinds := [], alts := [], laidByText := true, laidKinds := [.data], laidTests := true, laidLooks := .later }
def CodecPutsCardSaid : Prop := Claim7.holds Tryd.pinned (.plain (OpenSpec.ofChange codecPutsSpec)) codecPutsCard

/-- THE TIED CARD OF 'chroniclelaw02.FieldReduces'. -/
def fieldReducesCard : Claim7 := { stood := { row := fieldReducesRow, standIns := [], harness := (true, "0d0bebce305a61770487db563b80bdc0be277e0d0a7e53ab64851d1ca2d4d305"), looks := false }, kinds := [], alts := [], laidByText := true, laidKinds := [.data], laidTests := true, laidLooks := .later }
def FieldReducesCardSaid : Prop := Claim7.holds Tryd.pinned (.plain (OpenSpec.ofChange fieldReducesSpec)) fieldReducesCard

/-- THE TIED CARD OF 'chroniclelaw02.FieldPower'. -/
def fieldPowerCard : Claim7 := { stood := { row := fieldPowerRow, standIns := [], harness := (true, "0d0bebce305a61770487db563b80bdc0be277e0d0a7e53ab64851d1ca2d4d305"), looks := false }, kinds := [], alts := [], laidByText := true, laidKinds := [.data], laidTests := true, laidLooks := .later }
def FieldPowerCardSaid : Prop := Claim7.holds Tryd.pinned (.plain (OpenSpec.ofChange fieldPowerSpec)) fieldPowerCard

/-- THE TIED CARD OF 'chroniclelaw02.FieldPowers'. -/
def fieldPowersCard : Claim7 := { stood := { row := fieldPowersRow, standIns := [], harness := (true, "0d0bebce305a61770487db563b80bdc0be277e0d0a7e53ab64851d1ca2d4d305"), looks := false }, kinds := [], alts := [], laidByText := true, laidKinds := [.data], laidTests := true, laidLooks := .later }
def FieldPowersCardSaid : Prop := Claim7.holds Tryd.pinned (.plain (OpenSpec.ofChange fieldPowersSpec)) fieldPowersCard

/-- THE TIED CARD OF 'chroniclelaw02.FieldInverse'. -/
def fieldInverseCard : Claim7 := { stood := { row := fieldInverseRow, standIns := [], harness := (true, "0d0bebce305a61770487db563b80bdc0be277e0d0a7e53ab64851d1ca2d4d305"), looks := false }, kinds := [], alts := [], laidByText := true, laidKinds := [.data], laidTests := true, laidLooks := .later }
def FieldInverseCardSaid : Prop := Claim7.holds Tryd.pinned (.plain (OpenSpec.ofChange fieldInverseSpec)) fieldInverseCard

/-- THE TIED CARD OF 'chroniclelaw02.FieldRing'. -/
def fieldRingCard : Claim7 := { stood := { row := fieldRingRow, standIns := [], harness := (true, "0d0bebce305a61770487db563b80bdc0be277e0d0a7e53ab64851d1ca2d4d305"), looks := false }, kinds := [], alts := [], laidByText := true, laidKinds := [.data], laidTests := true, laidLooks := .later }
def FieldRingCardSaid : Prop := Claim7.holds Tryd.pinned (.plain (OpenSpec.ofChange fieldRingSpec)) fieldRingCard

/-- THE TIED CARD OF 'chroniclelaw02.FieldMinus'. -/
def fieldMinusCard : Claim7 := { stood := { row := fieldMinusRow, standIns := [], harness := (true, "0d0bebce305a61770487db563b80bdc0be277e0d0a7e53ab64851d1ca2d4d305"), looks := false }, kinds := [], alts := [], laidByText := true, laidKinds := [.data], laidTests := true, laidLooks := .later }
def FieldMinusCardSaid : Prop := Claim7.holds Tryd.pinned (.plain (OpenSpec.ofChange fieldMinusSpec)) fieldMinusCard

/-- THE TIED CARD OF 'chroniclelaw02.FieldLess'. -/
def fieldLessCard : Claim7 := { stood := { row := fieldLessRow, standIns := [], harness := (true, "0d0bebce305a61770487db563b80bdc0be277e0d0a7e53ab64851d1ca2d4d305"), looks := false }, kinds := [], alts := [], laidByText := true, laidKinds := [.data], laidTests := true, laidLooks := .later }
def FieldLessCardSaid : Prop := Claim7.holds Tryd.pinned (.plain (OpenSpec.ofChange fieldLessSpec)) fieldLessCard

/-- THE TIED CARD OF 'chroniclelaw02.FieldReckons'. -/
def fieldReckonsCard : Claim7 := { stood := { row := fieldReckonsRow, standIns := [], harness := (true, "0d0bebce305a61770487db563b80bdc0be277e0d0a7e53ab64851d1ca2d4d305"), looks := false }, kinds := [], alts := [], laidByText := true, laidKinds := [.data], laidTests := true, laidLooks := .later }
def FieldReckonsCardSaid : Prop := Claim7.holds Tryd.pinned (.plain (OpenSpec.ofChange fieldReckonsSpec)) fieldReckonsCard

/-- THE SECOND FORM's CARD OF 'chroniclelaw03.CodecPuts'. -/
def codecPutsUptoCard : Claim7 := { stood := { row := codecPutsUptoRow, standIns := [], harness := (true, "0d0bebce305a61770487db563b80bdc0be277e0d0a7e53ab64851d1ca2d4d305"), looks := false }, kinds := [], alts := [], laidByText := true, laidKinds := [.data], laidTests := true, laidLooks := .later }
def CodecPutsUptoCardSaid : Prop := Claim7.holds Tryd.pinned (.plain (OpenSpec.upto codecPutsSpec)) codecPutsUptoCard

/-- THE SECOND FORM's CARD OF 'chroniclelaw02.FieldReduces'. -/
def fieldReducesUptoCard : Claim7 := { stood := { row := fieldReducesUptoRow, standIns := [], harness := (true, "0d0bebce305a61770487db563b80bdc0be277e0d0a7e53ab64851d1ca2d4d305"), looks := false }, kinds := [], alts := [], laidByText := true, laidKinds := [.data], laidTests := true, laidLooks := .later }
def FieldReducesUptoCardSaid : Prop := Claim7.holds Tryd.pinned (.plain (OpenSpec.upto fieldReducesSpec)) fieldReducesUptoCard

/-- THE SECOND FORM's CARD OF 'chroniclelaw02.FieldPower'. -/
def fieldPowerUptoCard : Claim7 := { stood := { row := fieldPowerUptoRow, standIns := [], harness := (true, "0d0bebce305a61770487db563b80bdc0be277e0d0a7e53ab64851d1ca2d4d305"), looks := false }, kinds := [], alts := [], laidByText := true, laidKinds := [.data], laidTests := true, laidLooks := .later }
def FieldPowerUptoCardSaid : Prop := Claim7.holds Tryd.pinned (.plain (OpenSpec.upto fieldPowerSpec)) fieldPowerUptoCard

/-- THE SECOND FORM's CARD OF 'chroniclelaw02.FieldPowers'. -/
def fieldPowersUptoCard : Claim7 := { stood := { row := fieldPowersUptoRow, standIns := [], harness := (true, "0d0bebce305a61770487db563b80bdc0be277e0d0a7e53ab64851d1ca2d4d305"), looks := false }, kinds := [], alts := [], laidByText := true, laidKinds := [.data], laidTests := true, laidLooks := .later }
def FieldPowersUptoCardSaid : Prop := Claim7.holds Tryd.pinned (.plain (OpenSpec.upto fieldPowersSpec)) fieldPowersUptoCard

/-- THE SECOND FORM's CARD OF 'chroniclelaw02.FieldInverse'. -/
def fieldInverseUptoCard : Claim7 := { stood := { row := fieldInverseUptoRow, standIns := [], harness := (true, "0d0bebce305a61770487db563b80bdc0be277e0d0a7e53ab64851d1ca2d4d305"), looks := false }, kinds := [], alts := [], laidByText := true, laidKinds := [.data], laidTests := true, laidLooks := .later }
def FieldInverseUptoCardSaid : Prop := Claim7.holds Tryd.pinned (.plain (OpenSpec.upto fieldInverseSpec)) fieldInverseUptoCard

/-- THE SECOND FORM's CARD OF 'chroniclelaw02.FieldRing'. -/
def fieldRingUptoCard : Claim7 := { stood := { row := fieldRingUptoRow, standIns := [], harness := (true, "0d0bebce305a61770487db563b80bdc0be277e0d0a7e53ab64851d1ca2d4d305"), looks := false }, kinds := [], alts := [], laidByText := true, laidKinds := [.data], laidTests := true, laidLooks := .later }
def FieldRingUptoCardSaid : Prop := Claim7.holds Tryd.pinned (.plain (OpenSpec.upto fieldRingSpec)) fieldRingUptoCard

/-- THE SECOND FORM's CARD OF 'chroniclelaw02.FieldMinus'. -/
def fieldMinusUptoCard : Claim7 := { stood := { row := fieldMinusUptoRow, standIns := [], harness := (true, "0d0bebce305a61770487db563b80bdc0be277e0d0a7e53ab64851d1ca2d4d305"), looks := false }, kinds := [], alts := [], laidByText := true, laidKinds := [.data], laidTests := true, laidLooks := .later }
def FieldMinusUptoCardSaid : Prop := Claim7.holds Tryd.pinned (.plain (OpenSpec.upto fieldMinusSpec)) fieldMinusUptoCard

/-- THE SECOND FORM's CARD OF 'chroniclelaw02.FieldLess'. -/
def fieldLessUptoCard : Claim7 := { stood := { row := fieldLessUptoRow, standIns := [], harness := (true, "0d0bebce305a61770487db563b80bdc0be277e0d0a7e53ab64851d1ca2d4d305"), looks := false }, kinds := [], alts := [], laidByText := true, laidKinds := [.data], laidTests := true, laidLooks := .later }
def FieldLessUptoCardSaid : Prop := Claim7.holds Tryd.pinned (.plain (OpenSpec.upto fieldLessSpec)) fieldLessUptoCard

/-- THE SECOND FORM's CARD OF 'chroniclelaw02.FieldReckons'. -/
def fieldReckonsUptoCard : Claim7 := { stood := { row := fieldReckonsUptoRow, standIns := [], harness := (true, "0d0bebce305a61770487db563b80bdc0be277e0d0a7e53ab64851d1ca2d4d305"), looks := false }, kinds := [], alts := [], laidByText := true, laidKinds := [.data], laidTests := true, laidLooks := .later }
def FieldReckonsUptoCardSaid : Prop := Claim7.holds Tryd.pinned (.plain (OpenSpec.upto fieldReckonsSpec)) fieldReckonsUptoCard
end Rows
end Go.Proofs.YtijnfclocanhkaaDoor
