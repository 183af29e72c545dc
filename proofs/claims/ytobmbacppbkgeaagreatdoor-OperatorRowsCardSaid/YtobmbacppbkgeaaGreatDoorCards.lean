/-
  DERIVED. GIVEN WITH THE SEED: THE CARDS: each row of YtobmbacppbkgeaaGreatDoorRows.lean that lists a variable, with what it lists TIED to the program's text (the seventh form; the later family's looks); each row that meets fmt, with fmt's text TOLD by the authors' own Lean function (tested against real Go, not proved from fmt's source: count such statements apart). THE CARD IS WHAT COUNTS. Prove the row's statement (the work); the ties are given (YtobmbacppbkgeaaGreatDoorTie.lean); close each card by the builder's one call (the guide's Derived/Test/ToyasCard.lean, 'card_holds'). Laid BY PROGRAM, IN A SANDBOX (cutbox-door.mjs). By AI agents, Wed Nov 11 2026. No macro, syntax, notation, axiom, sorry.
-/
import Derived.Test.YtobmbacppbkgeaaGreatDoorRows
import GoSem.ClaimSeven
namespace Go.Proofs.YtobmbacppbkgeaaGreatDoor
namespace Rows

/-- THE TIED CARD OF 'synopticlaw21.OperatorRows'. -/
def operatorRowsCard : Claim7 := { stood := { row := operatorRowsRow, standIns := [], harness := (true, "59fd0ac08d6e424dd37b1dc23a144debf07b699990cc763659bc6b5a1ba3d7f5"), looks := false }, kinds := [], alts := [], laidByText := true, laidKinds := [.data, .data], laidTests := true, laidLooks := .later }
def OperatorRowsCardSaid : Prop := Claim7.holds Tryz.pinned (.plain (OpenSpec.ofChange operatorRowsSpec)) operatorRowsCard

/-- THE SECOND FORM's CARD OF 'synopticlaw21.OperatorRows'. -/
def operatorRowsUptoCard : Claim7 := { stood := { row := operatorRowsUptoRow, standIns := [], harness := (true, "59fd0ac08d6e424dd37b1dc23a144debf07b699990cc763659bc6b5a1ba3d7f5"), looks := false }, kinds := [], alts := [], laidByText := true, laidKinds := [.data, .data], laidTests := true, laidLooks := .later }
def OperatorRowsUptoCardSaid : Prop := Claim7.holds Tryz.pinned (.plain (OpenSpec.upto operatorRowsSpec)) operatorRowsUptoCard
end Rows
end Go.Proofs.YtobmbacppbkgeaaGreatDoor
