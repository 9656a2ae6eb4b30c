/-
  DERIVED. GIVEN WITH THE SEED: THE PROGRAM's TIES (one call each: nine closed facts by the kernel) AND EACH ROW's TIE, after the 31st guide's Derived/Test/Toyas{Tie, Card}.lean. No idea stands in it: it is a product of the set-up. Laid BY PROGRAM, IN A SANDBOX (cutbox-door.mjs). By AI agents, Wed Nov 11 2026. No macro, syntax, notation, axiom, sorry.
-/
import Derived.Test.YtkckmpnkacdchaaDoorRows
import Derived.LaidByTextLater
import Derived.SevenTiedAt
import Derived.LaidSub
import Derived.LaidOnce
namespace Go.Proofs.YtkckmpnkacdchaaDoor
open Go
set_option maxRecDepth 100000
theorem seatTie1 : Tryd.prog.laidByTextLater [("chronicle/field.moduli", Rows.laid_chronicle_field_moduli), ("chronicle/ed.d", Rows.laid_chronicle_ed_d), ("chronicle/ed.twice", Rows.laid_chronicle_ed_twice), ("chronicle/ed.root", Rows.laid_chronicle_ed_root), ("chronicle/ed.one", Rows.laid_chronicle_ed_one), ("chronicle/ed.neutral", Rows.laid_chronicle_ed_neutral), ("chronicle/sha512.first", Rows.laid_chronicle_sha512_first), ("chronicle/sha512.constants", Rows.laid_chronicle_sha512_constants)] [.data, .data, .data, .data, .data, .data, .data, .data] true :=
  Program.laidByTextLater_by_one 63 8 81 (by kernel_rfl) (by kernel_rfl) (by kernel_rfl) (by kernel_rfl) (by kernel_rfl) (by kernel_rfl) (fun _ _ => by kernel_rfl)
theorem noOwnUnsafe : Tryd.pinned.checked.prog.headLifts.contains "ownunsafe" = false := by kernel_rfl
theorem tie : Tryd.prog.laidByTextLater [("chronicle/field.moduli", Rows.laid_chronicle_field_moduli), ("chronicle/ed.d", Rows.laid_chronicle_ed_d), ("chronicle/ed.twice", Rows.laid_chronicle_ed_twice), ("chronicle/ed.root", Rows.laid_chronicle_ed_root), ("chronicle/ed.one", Rows.laid_chronicle_ed_one), ("chronicle/ed.neutral", Rows.laid_chronicle_ed_neutral), ("chronicle/sha512.first", Rows.laid_chronicle_sha512_first), ("chronicle/sha512.constants", Rows.laid_chronicle_sha512_constants)] [.data, .data, .data, .data, .data, .data, .data, .data] true :=
  Program.laidByTextLater.sub seatTie1 ["chronicle/field.moduli", "chronicle/ed.d", "chronicle/ed.twice", "chronicle/ed.root", "chronicle/ed.one", "chronicle/ed.neutral", "chronicle/sha512.first", "chronicle/sha512.constants"] (by kernel_rfl) (by kernel_rfl)
theorem eddsaRight_row_tie : Rows.eddsaRightRow.laidByTextAt .later Tryd.pinned [.data, .data, .data, .data, .data, .data, .data, .data] true :=
  OpenClaim.laidByTextAt_later rfl rfl tie noOwnUnsafe
theorem eddsaAbove_row_tie : Rows.eddsaAboveRow.laidByTextAt .later Tryd.pinned [.data, .data, .data, .data, .data, .data, .data, .data] true :=
  OpenClaim.laidByTextAt_later rfl rfl tie noOwnUnsafe
theorem eddsaVerifies_row_tie : Rows.eddsaVerifiesRow.laidByTextAt .later Tryd.pinned [.data, .data, .data, .data, .data, .data, .data, .data] true :=
  OpenClaim.laidByTextAt_later rfl rfl tie noOwnUnsafe
theorem tie2 : Tryd.prog.laidByTextLater [("chronicle/field.moduli", Rows.laid_chronicle_field_moduli), ("chronicle/ed.d", Rows.laid_chronicle_ed_d), ("chronicle/ed.twice", Rows.laid_chronicle_ed_twice), ("chronicle/ed.one", Rows.laid_chronicle_ed_one), ("chronicle/ed.neutral", Rows.laid_chronicle_ed_neutral), ("chronicle/sha512.first", Rows.laid_chronicle_sha512_first), ("chronicle/sha512.constants", Rows.laid_chronicle_sha512_constants)] [.data, .data, .data, .data, .data, .data, .data] true :=
  Program.laidByTextLater.sub seatTie1 ["chronicle/field.moduli", "chronicle/ed.d", "chronicle/ed.twice", "chronicle/ed.one", "chronicle/ed.neutral", "chronicle/sha512.first", "chronicle/sha512.constants"] (by kernel_rfl) (by kernel_rfl)
theorem eddsaSigns_row_tie : Rows.eddsaSignsRow.laidByTextAt .later Tryd.pinned [.data, .data, .data, .data, .data, .data, .data] true :=
  OpenClaim.laidByTextAt_later rfl rfl tie2 noOwnUnsafe
theorem eddsaKeys_row_tie : Rows.eddsaKeysRow.laidByTextAt .later Tryd.pinned [.data, .data, .data, .data, .data, .data, .data] true :=
  OpenClaim.laidByTextAt_later rfl rfl tie2 noOwnUnsafe
theorem eddsaRightUpto_row_tie : Rows.eddsaRightUptoRow.laidByTextAt .later Tryd.pinned [.data, .data, .data, .data, .data, .data, .data, .data] true :=
  OpenClaim.laidByTextAt_later rfl rfl tie noOwnUnsafe
theorem eddsaAboveUpto_row_tie : Rows.eddsaAboveUptoRow.laidByTextAt .later Tryd.pinned [.data, .data, .data, .data, .data, .data, .data, .data] true :=
  OpenClaim.laidByTextAt_later rfl rfl tie noOwnUnsafe
theorem eddsaSignsUpto_row_tie : Rows.eddsaSignsUptoRow.laidByTextAt .later Tryd.pinned [.data, .data, .data, .data, .data, .data, .data] true :=
  OpenClaim.laidByTextAt_later rfl rfl tie2 noOwnUnsafe
theorem eddsaKeysUpto_row_tie : Rows.eddsaKeysUptoRow.laidByTextAt .later Tryd.pinned [.data, .data, .data, .data, .data, .data, .data] true :=
  OpenClaim.laidByTextAt_later rfl rfl tie2 noOwnUnsafe
theorem eddsaVerifiesUpto_row_tie : Rows.eddsaVerifiesUptoRow.laidByTextAt .later Tryd.pinned [.data, .data, .data, .data, .data, .data, .data, .data] true :=
  OpenClaim.laidByTextAt_later rfl rfl tie noOwnUnsafe
end Go.Proofs.YtkckmpnkacdchaaDoor
