/-
  DERIVED. GIVEN WITH THE SEED: THE PROGRAM's TIES (one call each: nine closed facts by the kernel) AND EACH ROW's TIE, after the 31st guide's Derived/Test/Toyas{Tie, Card}.lean. No idea stands in it: it is a product of the set-up. Laid BY PROGRAM, IN A SANDBOX (cutbox-door.mjs). By AI agents, Wed Nov 11 2026. No macro, syntax, notation, axiom, sorry.
-/
import Derived.Test.YtdgjlcmedkmgbaaDoorRows
import Derived.LaidByTextLater
import Derived.SevenTiedAt
import Derived.LaidSub
import Derived.LaidOnce
namespace Go.Proofs.YtdgjlcmedkmgbaaDoor
open Go
set_option maxRecDepth 100000
theorem seatTie1 : Tryd.prog.laidByTextLater [("chronicle/field.moduli", Rows.laid_chronicle_field_moduli), ("chronicle/ed.d", Rows.laid_chronicle_ed_d), ("chronicle/ed.twice", Rows.laid_chronicle_ed_twice), ("chronicle/ed.root", Rows.laid_chronicle_ed_root), ("chronicle/ed.one", Rows.laid_chronicle_ed_one), ("chronicle/ed.neutral", Rows.laid_chronicle_ed_neutral)] [.data, .data, .data, .data, .data, .data] true :=
  Program.laidByTextLater_by_one 53 8 37 (by kernel_rfl) (by kernel_rfl) (by kernel_rfl) (by kernel_rfl) (by kernel_rfl) (by kernel_rfl) (fun _ _ => by kernel_rfl)
theorem noOwnUnsafe : Tryd.pinned.checked.prog.headLifts.contains "ownunsafe" = false := by kernel_rfl
theorem tie : Tryd.prog.laidByTextLater [("chronicle/field.moduli", Rows.laid_chronicle_field_moduli), ("chronicle/ed.d", Rows.laid_chronicle_ed_d), ("chronicle/ed.twice", Rows.laid_chronicle_ed_twice), ("chronicle/ed.one", Rows.laid_chronicle_ed_one), ("chronicle/ed.neutral", Rows.laid_chronicle_ed_neutral)] [.data, .data, .data, .data, .data] true :=
  Program.laidByTextLater.sub seatTie1 ["chronicle/field.moduli", "chronicle/ed.d", "chronicle/ed.twice", "chronicle/ed.one", "chronicle/ed.neutral"] (by kernel_rfl) (by kernel_rfl)
theorem edAdds_row_tie : Rows.edAddsRow.laidByTextAt .later Tryd.pinned [.data, .data, .data, .data, .data] true :=
  OpenClaim.laidByTextAt_later rfl rfl tie noOwnUnsafe
theorem edMultiplies_row_tie : Rows.edMultipliesRow.laidByTextAt .later Tryd.pinned [.data, .data, .data, .data, .data] true :=
  OpenClaim.laidByTextAt_later rfl rfl tie noOwnUnsafe
theorem edBoth_row_tie : Rows.edBothRow.laidByTextAt .later Tryd.pinned [.data, .data, .data, .data, .data] true :=
  OpenClaim.laidByTextAt_later rfl rfl tie noOwnUnsafe
theorem edGroup_row_tie : Rows.edGroupRow.laidByTextAt .later Tryd.pinned [.data, .data, .data, .data, .data] true :=
  OpenClaim.laidByTextAt_later rfl rfl tie noOwnUnsafe
theorem edOrder_row_tie : Rows.edOrderRow.laidByTextAt .later Tryd.pinned [.data, .data, .data, .data, .data] true :=
  OpenClaim.laidByTextAt_later rfl rfl tie noOwnUnsafe
theorem edTwice_row_tie : Rows.edTwiceRow.laidByTextAt .later Tryd.pinned [.data, .data, .data, .data, .data] true :=
  OpenClaim.laidByTextAt_later rfl rfl tie noOwnUnsafe
theorem edStray_row_tie : Rows.edStrayRow.laidByTextAt .later Tryd.pinned [.data, .data, .data, .data, .data] true :=
  OpenClaim.laidByTextAt_later rfl rfl tie noOwnUnsafe
theorem tie2 : Tryd.prog.laidByTextLater [("chronicle/field.moduli", Rows.laid_chronicle_field_moduli), ("chronicle/ed.d", Rows.laid_chronicle_ed_d), ("chronicle/ed.root", Rows.laid_chronicle_ed_root), ("chronicle/ed.one", Rows.laid_chronicle_ed_one)] [.data, .data, .data, .data] true :=
  Program.laidByTextLater.sub seatTie1 ["chronicle/field.moduli", "chronicle/ed.d", "chronicle/ed.root", "chronicle/ed.one"] (by kernel_rfl) (by kernel_rfl)
theorem edBytes_row_tie : Rows.edBytesRow.laidByTextAt .later Tryd.pinned [.data, .data, .data, .data] true :=
  OpenClaim.laidByTextAt_later rfl rfl tie2 noOwnUnsafe
theorem edAddsUpto_row_tie : Rows.edAddsUptoRow.laidByTextAt .later Tryd.pinned [.data, .data, .data, .data, .data] true :=
  OpenClaim.laidByTextAt_later rfl rfl tie noOwnUnsafe
theorem edMultipliesUpto_row_tie : Rows.edMultipliesUptoRow.laidByTextAt .later Tryd.pinned [.data, .data, .data, .data, .data] true :=
  OpenClaim.laidByTextAt_later rfl rfl tie noOwnUnsafe
theorem edBothUpto_row_tie : Rows.edBothUptoRow.laidByTextAt .later Tryd.pinned [.data, .data, .data, .data, .data] true :=
  OpenClaim.laidByTextAt_later rfl rfl tie noOwnUnsafe
theorem edGroupUpto_row_tie : Rows.edGroupUptoRow.laidByTextAt .later Tryd.pinned [.data, .data, .data, .data, .data] true :=
  OpenClaim.laidByTextAt_later rfl rfl tie noOwnUnsafe
theorem edOrderUpto_row_tie : Rows.edOrderUptoRow.laidByTextAt .later Tryd.pinned [.data, .data, .data, .data, .data] true :=
  OpenClaim.laidByTextAt_later rfl rfl tie noOwnUnsafe
theorem edTwiceUpto_row_tie : Rows.edTwiceUptoRow.laidByTextAt .later Tryd.pinned [.data, .data, .data, .data, .data] true :=
  OpenClaim.laidByTextAt_later rfl rfl tie noOwnUnsafe
theorem edStrayUpto_row_tie : Rows.edStrayUptoRow.laidByTextAt .later Tryd.pinned [.data, .data, .data, .data, .data] true :=
  OpenClaim.laidByTextAt_later rfl rfl tie noOwnUnsafe
theorem edBytesUpto_row_tie : Rows.edBytesUptoRow.laidByTextAt .later Tryd.pinned [.data, .data, .data, .data] true :=
  OpenClaim.laidByTextAt_later rfl rfl tie2 noOwnUnsafe
end Go.Proofs.YtdgjlcmedkmgbaaDoor
