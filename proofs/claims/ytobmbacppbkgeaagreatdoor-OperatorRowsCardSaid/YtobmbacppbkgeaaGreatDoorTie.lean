/-
  DERIVED. GIVEN WITH THE SEED: THE PROGRAM's TIES (one call each: nine closed facts by the kernel) AND EACH ROW's TIE, after the 31st guide's Derived/Test/Toyas{Tie, Card}.lean. No idea stands in it: it is a product of the set-up. Laid BY PROGRAM, IN A SANDBOX (cutbox-door.mjs). By AI agents, Wed Nov 11 2026. No macro, syntax, notation, axiom, sorry.
-/
import Derived.Test.YtobmbacppbkgeaaGreatDoorRows
import Derived.LaidByTextLater
import Derived.SevenTiedAt
import Derived.LaidSub
import Derived.LaidOnce
namespace Go.Proofs.YtobmbacppbkgeaaGreatDoor
open Go
set_option maxRecDepth 100000
theorem seatTie1 : Tryz.prog.laidByTextLater [("synoptic/place.corners", Rows.laid_synoptic_place_corners), ("synoptic/element.bounds", Rows.laid_synoptic_element_bounds)] [.data, .data] true :=
  Program.laidByTextLater_by_one 50 8 61 (by kernel_rfl) (by kernel_rfl) (by kernel_rfl) (by kernel_rfl) (by kernel_rfl) (by kernel_rfl) (fun _ _ => by kernel_rfl)
theorem noOwnUnsafe : Tryz.pinned.checked.prog.headLifts.contains "ownunsafe" = false := by kernel_rfl
theorem tie : Tryz.prog.laidByTextLater [("synoptic/place.corners", Rows.laid_synoptic_place_corners), ("synoptic/element.bounds", Rows.laid_synoptic_element_bounds)] [.data, .data] true :=
  Program.laidByTextLater.sub seatTie1 ["synoptic/place.corners", "synoptic/element.bounds"] (by kernel_rfl) (by kernel_rfl)
theorem operatorRows_row_tie : Rows.operatorRowsRow.laidByTextAt .later Tryz.pinned [.data, .data] true :=
  OpenClaim.laidByTextAt_later rfl rfl tie noOwnUnsafe
theorem operatorRowsUpto_row_tie : Rows.operatorRowsUptoRow.laidByTextAt .later Tryz.pinned [.data, .data] true :=
  OpenClaim.laidByTextAt_later rfl rfl tie noOwnUnsafe
end Go.Proofs.YtobmbacppbkgeaaGreatDoor
