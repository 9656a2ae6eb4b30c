/-
  DERIVED. GIVEN WITH THE SEED: THE CARDS: each row of YtkckmpnkacdchaaDoorRows.lean that lists a variable, with what it lists TIED to the program's text (the seventh form; the later family's looks); each row that meets fmt, with fmt's text TOLD by the authors' own Lean function (tested against real Go, not proved from fmt's source: count such statements apart). THE CARD IS WHAT COUNTS. Prove the row's statement (the work); the ties are given (YtkckmpnkacdchaaDoorTie.lean); close each card by the builder's one call (the guide's Derived/Test/ToyasCard.lean, 'card_holds'). Laid BY PROGRAM, IN A SANDBOX (cutbox-door.mjs). By AI agents, Wed Nov 11 2026. No macro, syntax, notation, axiom, sorry.
-/
import Derived.Test.YtkckmpnkacdchaaDoorRows
import GoSem.ClaimSeven
namespace Go.Proofs.YtkckmpnkacdchaaDoor
namespace Rows

/-- THE TIED CARD OF 'chroniclelaw12.EddsaRight'. -/
def eddsaRightCard : Claim7 := { stood := { row := eddsaRightRow, standIns := [], harness := (true, "a450fd80f72fce861973d2998f6a70346d8bc6d8f50c82a483f353232726367d"), looks := false }, kinds := [], alts := [], laidByText := true, laidKinds := [.data, .data, .data, .data, .data, .data, .data, .data], laidTests := true, laidLooks := .later }
def EddsaRightCardSaid : Prop := Claim7.holds Tryd.pinned (.plain (OpenSpec.ofChange eddsaRightSpec)) eddsaRightCard

/-- THE TIED CARD OF 'chroniclelaw12.EddsaAbove'. -/
def eddsaAboveCard : Claim7 := { stood := { row := eddsaAboveRow, standIns := [], harness := (true, "a450fd80f72fce861973d2998f6a70346d8bc6d8f50c82a483f353232726367d"), looks := false }, kinds := [], alts := [], laidByText := true, laidKinds := [.data, .data, .data, .data, .data, .data, .data, .data], laidTests := true, laidLooks := .later }
def EddsaAboveCardSaid : Prop := Claim7.holds Tryd.pinned (.plain (OpenSpec.ofChange eddsaAboveSpec)) eddsaAboveCard

/-- THE TIED CARD OF 'chroniclelaw12.EddsaSigns'. -/
def eddsaSignsCard : Claim7 := { stood := { row := eddsaSignsRow, standIns := [], harness := (true, "a450fd80f72fce861973d2998f6a70346d8bc6d8f50c82a483f353232726367d"), looks := false }, kinds := [], alts := [], laidByText := true, laidKinds := [.data, .data, .data, .data, .data, .data, .data], laidTests := true, laidLooks := .later }
def EddsaSignsCardSaid : Prop := Claim7.holds Tryd.pinned (.plain (OpenSpec.ofChange eddsaSignsSpec)) eddsaSignsCard

/-- THE TIED CARD OF 'chroniclelaw12.EddsaKeys'. -/
def eddsaKeysCard : Claim7 := { stood := { row := eddsaKeysRow, standIns := [], harness := (true, "a450fd80f72fce861973d2998f6a70346d8bc6d8f50c82a483f353232726367d"), looks := false }, kinds := [], alts := [], laidByText := true, laidKinds := [.data, .data, .data, .data, .data, .data, .data], laidTests := true, laidLooks := .later }
def EddsaKeysCardSaid : Prop := Claim7.holds Tryd.pinned (.plain (OpenSpec.ofChange eddsaKeysSpec)) eddsaKeysCard

/-- THE TIED CARD OF 'chroniclelaw12.EddsaVerifies'. -/
def eddsaVerifiesCard : Claim7 := { stood := { row := eddsaVerifiesRow, standIns := [], harness := (true, "a450fd80f72fce861973d2998f6a70346d8bc6d8f50c82a483f353232726367d"), looks := false }, kinds := [], alts := [], laidByText := true, laidKinds := [.data, .data, .data, .data, .data, .data, .data, .data], laidTests := true, laidLooks := .later }
def EddsaVerifiesCardSaid : Prop := Claim7.holds Tryd.pinned (.plain (OpenSpec.ofChange eddsaVerifiesSpec)) eddsaVerifiesCard

/-- THE SECOND FORM's CARD OF 'chroniclelaw12.EddsaRight'. -/
def eddsaRightUptoCard : Claim7 := { stood := { row := eddsaRightUptoRow, standIns := [], harness := (true, "a450fd80f72fce861973d2998f6a70346d8bc6d8f50c82a483f353232726367d"), looks := false }, kinds := [], alts := [], laidByText := true, laidKinds := [.data, .data, .data, .data, .data, .data, .data, .data], laidTests := true, laidLooks := .later }
def EddsaRightUptoCardSaid : Prop := Claim7.holds Tryd.pinned (.plain (OpenSpec.upto eddsaRightSpec)) eddsaRightUptoCard

/-- THE SECOND FORM's CARD OF 'chroniclelaw12.EddsaAbove'. -/
def eddsaAboveUptoCard : Claim7 := { stood := { row := eddsaAboveUptoRow, standIns := [], harness := (true, "a450fd80f72fce861973d2998f6a70346d8bc6d8f50c82a483f353232726367d"), looks := false }, kinds := [], alts := [], laidByText := true, laidKinds := [.data, .data, .data, .data, .data, .data, .data, .data], laidTests := true, laidLooks := .later }
def EddsaAboveUptoCardSaid : Prop := Claim7.holds Tryd.pinned (.plain (OpenSpec.upto eddsaAboveSpec)) eddsaAboveUptoCard

/-- THE SECOND FORM's CARD OF 'chroniclelaw12.EddsaSigns'. -/
def eddsaSignsUptoCard : Claim7 := { stood := { row := eddsaSignsUptoRow, standIns := [], harness := (true, "a450fd80f72fce861973d2998f6a70346d8bc6d8f50c82a483f353232726367d"), looks := false }, kinds := [], alts := [], laidByText := true, laidKinds := [.data, .data, .data, .data, .data, .data, .data], laidTests := true, laidLooks := .later }
def EddsaSignsUptoCardSaid : Prop := Claim7.holds Tryd.pinned (.plain (OpenSpec.upto eddsaSignsSpec)) eddsaSignsUptoCard

/-- THE SECOND FORM's CARD OF 'chroniclelaw12.EddsaKeys'. -/
def eddsaKeysUptoCard : Claim7 := { stood := { row := eddsaKeysUptoRow, standIns := [], harness := (true, "a450fd80f72fce861973d2998f6a70346d8bc6d8f50c82a483f353232726367d"), looks := false }, kinds := [], alts := [], laidByText := true, laidKinds := [.data, .data, .data, .data, .data, .data, .data], laidTests := true, laidLooks := .later }
def EddsaKeysUptoCardSaid : Prop := Claim7.holds Tryd.pinned (.plain (OpenSpec.upto eddsaKeysSpec)) eddsaKeysUptoCard

/-- THE SECOND FORM's CARD OF 'chroniclelaw12.EddsaVerifies'. -/
def eddsaVerifiesUptoCard : Claim7 := { stood := { row := eddsaVerifiesUptoRow, standIns := [], harness := (true, "a450fd80f72fce861973d2998f6a70346d8bc6d8f50c82a483f353232726367d"), looks := false }, kinds := [], alts := [], laidByText := true, laidKinds := [.data, .data, .data, .data, .data, .data, .data, .data], laidTests := true, laidLooks := .later }
def EddsaVerifiesUptoCardSaid : Prop := Claim7.holds Tryd.pinned (.plain (OpenSpec.upto eddsaVerifiesSpec)) eddsaVerifiesUptoCard
end Rows
end Go.Proofs.YtkckmpnkacdchaaDoor
