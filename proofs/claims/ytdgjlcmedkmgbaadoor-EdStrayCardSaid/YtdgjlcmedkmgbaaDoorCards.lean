/-
  DERIVED. GIVEN WITH THE SEED: THE CARDS: each row of YtdgjlcmedkmgbaaDoorRows.lean that lists a variable, with what it lists TIED to the program's text (the seventh form; the later family's looks); each row that meets fmt, with fmt's text TOLD by the authors' own Lean function (tested against real Go, not proved from fmt's source: count such statements apart). THE CARD IS WHAT COUNTS. Prove the row's statement (the work); the ties are given (YtdgjlcmedkmgbaaDoorTie.lean); close each card by the builder's one call (the guide's Derived/Test/ToyasCard.lean, 'card_holds'). Laid BY PROGRAM, IN A SANDBOX (cutbox-door.mjs). By AI agents, Wed Nov 11 2026. No macro, syntax, notation, axiom, sorry.
-/
import Derived.Test.YtdgjlcmedkmgbaaDoorRows
import GoSem.ClaimSeven
namespace Go.Proofs.YtdgjlcmedkmgbaaDoor
namespace Rows

/-- THE TIED CARD OF 'chroniclelaw09.EdAdds'. -/
def edAddsCard : Claim7 := { stood := { row := edAddsRow, standIns := [], harness := (true, "ef08ecad9228e038a0c6fd56da7a0931c0ed981256441873f658ebc073500f68"), looks := false }, kinds := [], alts := [], laidByText := true, laidKinds := [.data, .data, .data, .data, .data], laidTests := true, laidLooks := .later }
def EdAddsCardSaid : Prop := Claim7.holds Tryd.pinned (.plain (OpenSpec.ofChange edAddsSpec)) edAddsCard

/-- THE TIED CARD OF 'chroniclelaw09.EdMultiplies'. -/
def edMultipliesCard : Claim7 := { stood := { row := edMultipliesRow, standIns := [], harness := (true, "ef08ecad9228e038a0c6fd56da7a0931c0ed981256441873f658ebc073500f68"), looks := false }, kinds := [], alts := [], laidByText := true, laidKinds := [.data, .data, .data, .data, .data], laidTests := true, laidLooks := .later }
def EdMultipliesCardSaid : Prop := Claim7.holds Tryd.pinned (.plain (OpenSpec.ofChange edMultipliesSpec)) edMultipliesCard

/-- THE TIED CARD OF 'chroniclelaw09.EdBoth'. -/
def edBothCard : Claim7 := { stood := { row := edBothRow, standIns := [], harness := (true, "ef08ecad9228e038a0c6fd56da7a0931c0ed981256441873f658ebc073500f68"), looks := false }, kinds := [], alts := [], laidByText := true, laidKinds := [.data, .data, .data, .data, .data], laidTests := true, laidLooks := .later }
def EdBothCardSaid : Prop := Claim7.holds Tryd.pinned (.plain (OpenSpec.ofChange edBothSpec)) edBothCard

/-- THE TIED CARD OF 'chroniclelaw09.EdGroup'. -/
def edGroupCard : Claim7 := { stood := { row := edGroupRow, standIns := [], harness := (true, "ef08ecad9228e038a0c6fd56da7a0931c0ed981256441873f658ebc073500f68"), looks := false }, kinds := [], alts := [], laidByText := true, laidKinds := [.data, .data, .data, .data, .data], laidTests := true, laidLooks := .later }
def EdGroupCardSaid : Prop := Claim7.holds Tryd.pinned (.plain (OpenSpec.ofChange edGroupSpec)) edGroupCard

/-- THE TIED CARD OF 'chroniclelaw09.EdOrder'. -/
def edOrderCard : Claim7 := { stood := { row := edOrderRow, standIns := [], harness := (true, "ef08ecad9228e038a0c6fd56da7a0931c0ed981256441873f658ebc073500f68"), looks := false }, kinds := [], alts := [], laidByText := true, laidKinds := [.data, .data, .data, .data, .data], laidTests := true, laidLooks := .later }
def EdOrderCardSaid : Prop := Claim7.holds Tryd.pinned (.plain (OpenSpec.ofChange edOrderSpec)) edOrderCard

/-- THE TIED CARD OF 'chroniclelaw09.EdTwice'. -/
def edTwiceCard : Claim7 := { stood := { row := edTwiceRow, standIns := [], harness := (true, "ef08ecad9228e038a0c6fd56da7a0931c0ed981256441873f658ebc073500f68"), looks := false }, kinds := [], alts := [], laidByText := true, laidKinds := [.data, .data, .data, .data, .data], laidTests := true, laidLooks := .later }
def EdTwiceCardSaid : Prop := Claim7.holds Tryd.pinned (.plain (OpenSpec.ofChange edTwiceSpec)) edTwiceCard

/-- THE TIED CARD OF 'chroniclelaw09.EdStray'. -/
def edStrayCard : Claim7 := { stood := { row := edStrayRow, standIns := [], harness := (true, "ef08ecad9228e038a0c6fd56da7a0931c0ed981256441873f658ebc073500f68"), looks := false }, kinds := [], alts := [], laidByText := true, laidKinds := [.data, .data, .data, .data, .data], laidTests := true, laidLooks := .later }
def EdStrayCardSaid : Prop := Claim7.holds Tryd.pinned (.plain (OpenSpec.ofChange edStraySpec)) edStrayCard

/-- THE TIED CARD OF 'chroniclelaw09.EdBytes'. -/
def edBytesCard : Claim7 := { stood := { row := edBytesRow, standIns := [], harness := (true, "ef08ecad9228e038a0c6fd56da7a0931c0ed981256441873f658ebc073500f68"), looks := false }, kinds := [], alts := [], laidByText := true, laidKinds := [.data, .data, .data, .data], laidTests := true, laidLooks := .later }
def EdBytesCardSaid : Prop := Claim7.holds Tryd.pinned (.plain (OpenSpec.ofChange edBytesSpec)) edBytesCard

/-- THE SECOND FORM's CARD OF 'chroniclelaw09.EdAdds'. -/
def edAddsUptoCard : Claim7 := { stood := { row := edAddsUptoRow, standIns := [], harness := (true, "ef08ecad9228e038a0c6fd56da7a0931c0ed981256441873f658ebc073500f68"), looks := false }, kinds := [], alts := [], laidByText := true, laidKinds := [.data, .data, .data, .data, .data], laidTests := true, laidLooks := .later }
def EdAddsUptoCardSaid : Prop := Claim7.holds Tryd.pinned (.plain (OpenSpec.upto edAddsSpec)) edAddsUptoCard

/-- THE SECOND FORM's CARD OF 'chroniclelaw09.EdMultiplies'. -/
def edMultipliesUptoCard : Claim7 := { stood := { row := edMultipliesUptoRow, standIns := [], harness := (true, "ef08ecad9228e038a0c6fd56da7a0931c0ed981256441873f658ebc073500f68"), looks := false }, kinds := [], alts := [], laidByText := true, laidKinds := [.data, .data, .data, .data, .data], laidTests := true, laidLooks := .later }
def EdMultipliesUptoCardSaid : Prop := Claim7.holds Tryd.pinned (.plain (OpenSpec.upto edMultipliesSpec)) edMultipliesUptoCard

/-- THE SECOND FORM's CARD OF 'chroniclelaw09.EdBoth'. -/
def edBothUptoCard : Claim7 := { stood := { row := edBothUptoRow, standIns := [], harness := (true, "ef08ecad9228e038a0c6fd56da7a0931c0ed981256441873f658ebc073500f68"), looks := false }, kinds := [], alts := [], laidByText := true, laidKinds := [.data, .data, .data, .data, .data], laidTests := true, laidLooks := .later }
def EdBothUptoCardSaid : Prop := Claim7.holds Tryd.pinned (.plain (OpenSpec.upto edBothSpec)) edBothUptoCard

/-- THE SECOND FORM's CARD OF 'chroniclelaw09.EdGroup'. -/
def edGroupUptoCard : Claim7 := { stood := { row := edGroupUptoRow, standIns := [], harness := (true, "ef08ecad9228e038a0c6fd56da7a0931c0ed981256441873f658ebc073500f68"), looks := false }, kinds := [], alts := [], laidByText := true, laidKinds := [.data, .data, .data, .data, .data], laidTests := true, laidLooks := .later }
def EdGroupUptoCardSaid : Prop := Claim7.holds Tryd.pinned (.plain (OpenSpec.upto edGroupSpec)) edGroupUptoCard

/-- THE SECOND FORM's CARD OF 'chroniclelaw09.EdOrder'. -/
def edOrderUptoCard : Claim7 := { stood := { row := edOrderUptoRow, standIns := [], harness := (true, "ef08ecad9228e038a0c6fd56da7a0931c0ed981256441873f658ebc073500f68"), looks := false }, kinds := [], alts := [], laidByText := true, laidKinds := [.data, .data, .data, .data, .data], laidTests := true, laidLooks := .later }
def EdOrderUptoCardSaid : Prop := Claim7.holds Tryd.pinned (.plain (OpenSpec.upto edOrderSpec)) edOrderUptoCard

/-- THE SECOND FORM's CARD OF 'chroniclelaw09.EdTwice'. -/
def edTwiceUptoCard : Claim7 := { stood := { row := edTwiceUptoRow, standIns := [], harness := (true, "ef08ecad9228e038a0c6fd56da7a0931c0ed981256441873f658ebc073500f68"), looks := false }, kinds := [], alts := [], laidByText := true, laidKinds := [.data, .data, .data, .data, .data], laidTests := true, laidLooks := .later }
def EdTwiceUptoCardSaid : Prop := Claim7.holds Tryd.pinned (.plain (OpenSpec.upto edTwiceSpec)) edTwiceUptoCard

/-- THE SECOND FORM's CARD OF 'chroniclelaw09.EdStray'. -/
def edStrayUptoCard : Claim7 := { stood := { row := edStrayUptoRow, standIns := [], harness := (true, "ef08ecad9228e038a0c6fd56da7a0931c0ed981256441873f658ebc073500f68"), looks := false }, kinds := [], alts := [], laidByText := true, laidKinds := [.data, .data, .data, .data, .data], laidTests := true, laidLooks := .later }
def EdStrayUptoCardSaid : Prop := Claim7.holds Tryd.pinned (.plain (OpenSpec.upto edStraySpec)) edStrayUptoCard

/-- THE SECOND FORM's CARD OF 'chroniclelaw09.EdBytes'. -/
def edBytesUptoCard : Claim7 := { stood := { row := edBytesUptoRow, standIns := [], harness := (true, "ef08ecad9228e038a0c6fd56da7a0931c0ed981256441873f658ebc073500f68"), looks := false }, kinds := [], alts := [], laidByText := true, laidKinds := [.data, .data, .data, .data], laidTests := true, laidLooks := .later }
def EdBytesUptoCardSaid : Prop := Claim7.holds Tryd.pinned (.plain (OpenSpec.upto edBytesSpec)) edBytesUptoCard
end Rows
end Go.Proofs.YtdgjlcmedkmgbaaDoor
