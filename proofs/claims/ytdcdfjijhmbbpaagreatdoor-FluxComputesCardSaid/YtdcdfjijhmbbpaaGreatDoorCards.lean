/-
  DERIVED. GIVEN WITH THE SEED: THE CARDS: each row of YtdcdfjijhmbbpaaGreatDoorRows.lean that lists a variable, with what it lists TIED to the program's text (the seventh form; the later family's looks); each row that meets fmt, with fmt's text TOLD by the authors' own Lean function (tested against real Go, not proved from fmt's source: count such statements apart). THE CARD IS WHAT COUNTS. Prove the row's statement (the work); the ties are given (YtdcdfjijhmbbpaaGreatDoorTie.lean); close each card by the builder's one call (the guide's Derived/Test/ToyasCard.lean, 'card_holds'). Laid BY PROGRAM, IN A SANDBOX (cutbox-door.mjs). By AI agents, Wed Nov 11 2026. No macro, syntax, notation, axiom, sorry.
-/
import Derived.Test.YtdcdfjijhmbbpaaGreatDoorRows
import GoSem.ClaimSeven
namespace Go.Proofs.YtdcdfjijhmbbpaaGreatDoor
namespace Rows

/-- THE TIED CARD OF 'synopticlaw29.FluxLimits'. -/
def fluxLimitsCard : Claim7 := { stood := { row := fluxLimitsRow, standIns := [], harness := (true, "51d839c2816db67429b54af59c4a972d5657c94dc56235a12cfa31caf0b15104"), looks := false }, kinds := [], alts := [], laidByText := true, laidKinds := [.data], laidTests := true, laidLooks := .later }
def FluxLimitsCardSaid : Prop := Claim7.holds Tryz.pinned (.plain (OpenSpec.ofChange fluxLimitsSpec)) fluxLimitsCard

/-- THE TIED CARD OF 'synopticlaw29.FluxReverses'. -/
def fluxReversesCard : Claim7 := { stood := { row := fluxReversesRow, standIns := [], harness := (true, "51d839c2816db67429b54af59c4a972d5657c94dc56235a12cfa31caf0b15104"), looks := false }, kinds := [], alts := [], laidByText := true, laidKinds := [.data], laidTests := true, laidLooks := .later }
def FluxReversesCardSaid : Prop := Claim7.holds Tryz.pinned (.plain (OpenSpec.ofChange fluxReversesSpec)) fluxReversesCard

/-- THE TIED CARD OF 'synopticlaw29.FluxConserves'. -/
def fluxConservesCard : Claim7 := { stood := { row := fluxConservesRow, standIns := [], harness := (true, "51d839c2816db67429b54af59c4a972d5657c94dc56235a12cfa31caf0b15104"), looks := false }, kinds := [], alts := [], laidByText := true, laidKinds := [.data], laidTests := true, laidLooks := .later }
def FluxConservesCardSaid : Prop := Claim7.holds Tryz.pinned (.plain (OpenSpec.ofChange fluxConservesSpec)) fluxConservesCard

/-- THE TIED CARD OF 'synopticlaw29.FluxComputes'. -/
def fluxComputesCard : Claim7 := { stood := { row := fluxComputesRow, standIns := [], harness := (true, "51d839c2816db67429b54af59c4a972d5657c94dc56235a12cfa31caf0b15104"), looks := false }, kinds := [], alts := [], laidByText := true, laidKinds := [.data], laidTests := true, laidLooks := .later }
def FluxComputesCardSaid : Prop := Claim7.holds Tryz.pinned (.plain (OpenSpec.ofChange fluxComputesSpec)) fluxComputesCard

/-- THE SECOND FORM's CARD OF 'synopticlaw29.FluxLimits'. -/
def fluxLimitsUptoCard : Claim7 := { stood := { row := fluxLimitsUptoRow, standIns := [], harness := (true, "51d839c2816db67429b54af59c4a972d5657c94dc56235a12cfa31caf0b15104"), looks := false }, kinds := [], alts := [], laidByText := true, laidKinds := [.data], laidTests := true, laidLooks := .later }
def FluxLimitsUptoCardSaid : Prop := Claim7.holds Tryz.pinned (.plain (OpenSpec.upto fluxLimitsSpec)) fluxLimitsUptoCard

/-- THE SECOND FORM's CARD OF 'synopticlaw29.FluxReverses'. -/
def fluxReversesUptoCard : Claim7 := { stood := { row := fluxReversesUptoRow, standIns := [], harness := (true, "51d839c2816db67429b54af59c4a972d5657c94dc56235a12cfa31caf0b15104"), looks := false }, kinds := [], alts := [], laidByText := true, laidKinds := [.data], laidTests := true, laidLooks := .later }
def FluxReversesUptoCardSaid : Prop := Claim7.holds Tryz.pinned (.plain (OpenSpec.upto fluxReversesSpec)) fluxReversesUptoCard

/-- THE SECOND FORM's CARD OF 'synopticlaw29.FluxConserves'. -/
def fluxConservesUptoCard : Claim7 := { stood := { row := fluxConservesUptoRow, standIns := [], harness := (true, "51d839c2816db67429b54af59c4a972d5657c94dc56235a12cfa31caf0b15104"), looks := false }, kinds := [], alts := [], laidByText := true, laidKinds := [.data], laidTests := true, laidLooks := .later }
def FluxConservesUptoCardSaid : Prop := Claim7.holds Tryz.pinned (.plain (OpenSpec.upto fluxConservesSpec)) fluxConservesUptoCard

/-- THE SECOND FORM's CARD OF 'synopticlaw29.FluxComputes'. -/
def fluxComputesUptoCard : Claim7 := { stood := { row := fluxComputesUptoRow, standIns := [], harness := (true, "51d839c2816db67429b54af59c4a972d5657c94dc56235a12cfa31caf0b15104"), looks := false }, kinds := [], alts := [], laidByText := true, laidKinds := [.data], laidTests := true, laidLooks := .later }
def FluxComputesUptoCardSaid : Prop := Claim7.holds Tryz.pinned (.plain (OpenSpec.upto fluxComputesSpec)) fluxComputesUptoCard
end Rows
end Go.Proofs.YtdcdfjijhmbbpaaGreatDoor
