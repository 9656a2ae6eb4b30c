/-
  DERIVED. GIVEN WITH THE SEED: THE CARDS: each row of YtdbfhipnhnhkjaaDoorRows.lean that lists a variable, with what it lists TIED to the program's text (the seventh form; the later family's looks); each row that meets fmt, with fmt's text TOLD by the authors' own Lean function (tested against real Go, not proved from fmt's source: count such statements apart). THE CARD IS WHAT COUNTS. Prove the row's statement (the work); the ties are given (YtdbfhipnhnhkjaaDoorTie.lean); close each card by the builder's one call (the guide's Derived/Test/ToyasCard.lean, 'card_holds'). Laid BY PROGRAM, IN A SANDBOX (cutbox-door.mjs). By AI agents, Wed Nov 11 2026. No macro, syntax, notation, axiom, sorry.
-/
import Derived.Test.YtdbfhipnhnhkjaaDoorRows
import GoSem.ClaimSeven
namespace Go.Proofs.YtdbfhipnhnhkjaaDoor
namespace Rows

/-- THE TIED CARD OF 'chroniclelaw06.Sha512Sums'. -/
def sha512SumsCard : Claim7 := { stood := { row := sha512SumsRow, standIns := [], harness := (true, "d4471c6b0cda84b059e00ea120f7ca07223482966678d25de1f8e1cf0bb2a768"), looks := false }, kinds := [], alts := [], laidByText := true, laidKinds := [.data, .data], laidTests := true, laidLooks := .later }
def Sha512SumsCardSaid : Prop := Claim7.holds Tryd.pinned (.plain (OpenSpec.ofChange sha512SumsSpec)) sha512SumsCard

/-- THE TIED CARD OF 'chroniclelaw06.Sha512Parts'. -/
def sha512PartsCard : Claim7 := { stood := { row := sha512PartsRow, standIns := [], harness := (true, "d4471c6b0cda84b059e00ea120f7ca07223482966678d25de1f8e1cf0bb2a768"), looks := false }, kinds := [], alts := [], laidByText := true, laidKinds := [.data, .data], laidTests := true, laidLooks := .later }
def Sha512PartsCardSaid : Prop := Claim7.holds Tryd.pinned (.plain (OpenSpec.ofChange sha512PartsSpec)) sha512PartsCard

/-- THE TIED CARD OF 'chroniclelaw06.Sha512Ends'. -/
def sha512EndsCard : Claim7 := { stood := { row := sha512EndsRow, standIns := [], harness := (true, "d4471c6b0cda84b059e00ea120f7ca07223482966678d25de1f8e1cf0bb2a768"), looks := false }, kinds := [], alts := [], laidByText := true, laidKinds := [.data, .data], laidTests := true, laidLooks := .later }
def Sha512EndsCardSaid : Prop := Claim7.holds Tryd.pinned (.plain (OpenSpec.ofChange sha512EndsSpec)) sha512EndsCard

/-- THE TIED CARD OF 'chroniclelaw06.Sha512Cut'. -/
def sha512CutCard : Claim7 := { stood := { row := sha512CutRow, standIns := [], harness := (true, "d4471c6b0cda84b059e00ea120f7ca07223482966678d25de1f8e1cf0bb2a768"), looks := false }, kinds := [], alts := [], laidByText := true, laidKinds := [.data, .data], laidTests := true, laidLooks := .later }
def Sha512CutCardSaid : Prop := Claim7.holds Tryd.pinned (.plain (OpenSpec.ofChange sha512CutSpec)) sha512CutCard

/-- THE SECOND FORM's CARD OF 'chroniclelaw06.Sha512Sums'. -/
def sha512SumsUptoCard : Claim7 := { stood := { row := sha512SumsUptoRow, standIns := [], harness := (true, "d4471c6b0cda84b059e00ea120f7ca07223482966678d25de1f8e1cf0bb2a768"), looks := false }, kinds := [], alts := [], laidByText := true, laidKinds := [.data, .data], laidTests := true, laidLooks := .later }
def Sha512SumsUptoCardSaid : Prop := Claim7.holds Tryd.pinned (.plain (OpenSpec.upto sha512SumsSpec)) sha512SumsUptoCard

/-- THE SECOND FORM's CARD OF 'chroniclelaw06.Sha512Parts'. -/
def sha512PartsUptoCard : Claim7 := { stood := { row := sha512PartsUptoRow, standIns := [], harness := (true, "d4471c6b0cda84b059e00ea120f7ca07223482966678d25de1f8e1cf0bb2a768"), looks := false }, kinds := [], alts := [], laidByText := true, laidKinds := [.data, .data], laidTests := true, laidLooks := .later }
def Sha512PartsUptoCardSaid : Prop := Claim7.holds Tryd.pinned (.plain (OpenSpec.upto sha512PartsSpec)) sha512PartsUptoCard

/-- THE SECOND FORM's CARD OF 'chroniclelaw06.Sha512Ends'. -/
def sha512EndsUptoCard : Claim7 := { stood := { row := sha512EndsUptoRow, standIns := [], harness := (true, "d4471c6b0cda84b059e00ea120f7ca07223482966678d25de1f8e1cf0bb2a768"), looks := false }, kinds := [], alts := [], laidByText := true, laidKinds := [.data, .data], laidTests := true, laidLooks := .later }
def Sha512EndsUptoCardSaid : Prop := Claim7.holds Tryd.pinned (.plain (OpenSpec.upto sha512EndsSpec)) sha512EndsUptoCard

/-- THE SECOND FORM's CARD OF 'chroniclelaw06.Sha512Cut'. -/
def sha512CutUptoCard : Claim7 := { stood := { row := sha512CutUptoRow, standIns := [], harness := (true, "d4471c6b0cda84b059e00ea120f7ca07223482966678d25de1f8e1cf0bb2a768"), looks := false }, kinds := [], alts := [], laidByText := true, laidKinds := [.data, .data], laidTests := true, laidLooks := .later }
def Sha512CutUptoCardSaid : Prop := Claim7.holds Tryd.pinned (.plain (OpenSpec.upto sha512CutSpec)) sha512CutUptoCard
end Rows
end Go.Proofs.YtdbfhipnhnhkjaaDoor
