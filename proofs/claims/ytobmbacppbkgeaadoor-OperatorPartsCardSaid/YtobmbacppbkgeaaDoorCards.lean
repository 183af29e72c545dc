/-
  DERIVED. GIVEN WITH THE SEED: THE CARDS: each row of YtobmbacppbkgeaaDoorRows.lean that lists a variable, with what it lists TIED to the program's text (the seventh form; the later family's looks); each row that meets fmt, with fmt's text TOLD by the authors' own Lean function (tested against real Go, not proved from fmt's source: count such statements apart). THE CARD IS WHAT COUNTS. Prove the row's statement (the work); the ties are given (YtobmbacppbkgeaaDoorTie.lean); close each card by the builder's one call (the guide's Derived/Test/ToyasCard.lean, 'card_holds'). Laid BY PROGRAM, IN A SANDBOX (cutbox-door.mjs). By AI agents, Wed Nov 11 2026. No macro, syntax, notation, axiom, sorry.
-/
import Derived.Test.YtobmbacppbkgeaaDoorRows
import GoSem.ClaimSeven
namespace Go.Proofs.YtobmbacppbkgeaaDoor
namespace Rows

/-- THE TIED CARD OF 'synopticlaw21.OperatorLinear'. -/
def operatorLinearCard : Claim7 := { stood := { row := operatorLinearRow, standIns := [], harness := (true, "81ae432db77f333976018b694bf9e2af5a8f8aa5681fe2d43c809e9826d45061"), looks := false }, kinds := [], alts := [], laidByText := true, laidKinds := [.data, .data], laidTests := true, laidLooks := .later }
def OperatorLinearCardSaid : Prop := Claim7.holds Tryd.pinned (.plain (OpenSpec.ofChange operatorLinearSpec)) operatorLinearCard

/-- THE TIED CARD OF 'synopticlaw21.OperatorPlaces'. -/
def operatorPlacesCard : Claim7 := { stood := { row := operatorPlacesRow, standIns := [], harness := (true, "81ae432db77f333976018b694bf9e2af5a8f8aa5681fe2d43c809e9826d45061"), looks := false }, kinds := [], alts := [], laidByText := true, laidKinds := [.data, .data], laidTests := true, laidLooks := .later }
def OperatorPlacesCardSaid : Prop := Claim7.holds Tryd.pinned (.plain (OpenSpec.ofChange operatorPlacesSpec)) operatorPlacesCard

/-- THE TIED CARD OF 'synopticlaw21.OperatorAnswers'. -/
def operatorAnswersCard : Claim7 := { stood := { row := operatorAnswersRow, standIns := [], harness := (true, "81ae432db77f333976018b694bf9e2af5a8f8aa5681fe2d43c809e9826d45061"), looks := false }, kinds := [], alts := [], laidByText := true, laidKinds := [.data, .data], laidTests := true, laidLooks := .later }
def OperatorAnswersCardSaid : Prop := Claim7.holds Tryd.pinned (.plain (OpenSpec.ofChange operatorAnswersSpec)) operatorAnswersCard

/-- THE TIED CARD OF 'synopticlaw21.OperatorTransposed'. -/
def operatorTransposedCard : Claim7 := { stood := { row := operatorTransposedRow, standIns := [], harness := (true, "81ae432db77f333976018b694bf9e2af5a8f8aa5681fe2d43c809e9826d45061"), looks := false }, kinds := [], alts := [], laidByText := true, laidKinds := [.data, .data], laidTests := true, laidLooks := .later }
def OperatorTransposedCardSaid : Prop := Claim7.holds Tryd.pinned (.plain (OpenSpec.ofChange operatorTransposedSpec)) operatorTransposedCard

/-- THE TIED CARD OF 'synopticlaw21.OperatorParts'. -/
def operatorPartsCard : Claim7 := { stood := { row := operatorPartsRow, standIns := [], harness := (true, "81ae432db77f333976018b694bf9e2af5a8f8aa5681fe2d43c809e9826d45061"), looks := false }, kinds := [], alts := [], laidByText := true, laidKinds := [.data, .data], laidTests := true, laidLooks := .later }
def OperatorPartsCardSaid : Prop := Claim7.holds Tryd.pinned (.plain (OpenSpec.ofChange operatorPartsSpec)) operatorPartsCard

/-- THE SECOND FORM's CARD OF 'synopticlaw21.OperatorLinear'. -/
def operatorLinearUptoCard : Claim7 := { stood := { row := operatorLinearUptoRow, standIns := [], harness := (true, "81ae432db77f333976018b694bf9e2af5a8f8aa5681fe2d43c809e9826d45061"), looks := false }, kinds := [], alts := [], laidByText := true, laidKinds := [.data, .data], laidTests := true, laidLooks := .later }
def OperatorLinearUptoCardSaid : Prop := Claim7.holds Tryd.pinned (.plain (OpenSpec.upto operatorLinearSpec)) operatorLinearUptoCard

/-- THE SECOND FORM's CARD OF 'synopticlaw21.OperatorPlaces'. -/
def operatorPlacesUptoCard : Claim7 := { stood := { row := operatorPlacesUptoRow, standIns := [], harness := (true, "81ae432db77f333976018b694bf9e2af5a8f8aa5681fe2d43c809e9826d45061"), looks := false }, kinds := [], alts := [], laidByText := true, laidKinds := [.data, .data], laidTests := true, laidLooks := .later }
def OperatorPlacesUptoCardSaid : Prop := Claim7.holds Tryd.pinned (.plain (OpenSpec.upto operatorPlacesSpec)) operatorPlacesUptoCard

/-- THE SECOND FORM's CARD OF 'synopticlaw21.OperatorAnswers'. -/
def operatorAnswersUptoCard : Claim7 := { stood := { row := operatorAnswersUptoRow, standIns := [], harness := (true, "81ae432db77f333976018b694bf9e2af5a8f8aa5681fe2d43c809e9826d45061"), looks := false }, kinds := [], alts := [], laidByText := true, laidKinds := [.data, .data], laidTests := true, laidLooks := .later }
def OperatorAnswersUptoCardSaid : Prop := Claim7.holds Tryd.pinned (.plain (OpenSpec.upto operatorAnswersSpec)) operatorAnswersUptoCard

/-- THE SECOND FORM's CARD OF 'synopticlaw21.OperatorTransposed'. -/
def operatorTransposedUptoCard : Claim7 := { stood := { row := operatorTransposedUptoRow, standIns := [], harness := (true, "81ae432db77f333976018b694bf9e2af5a8f8aa5681fe2d43c809e9826d45061"), looks := false }, kinds := [], alts := [], laidByText := true, laidKinds := [.data, .data], laidTests := true, laidLooks := .later }
def OperatorTransposedUptoCardSaid : Prop := Claim7.holds Tryd.pinned (.plain (OpenSpec.upto operatorTransposedSpec)) operatorTransposedUptoCard

/-- THE SECOND FORM's CARD OF 'synopticlaw21.OperatorParts'. -/
def operatorPartsUptoCard : Claim7 := { stood := { row := operatorPartsUptoRow, standIns := [], harness := (true, "81ae432db77f333976018b694bf9e2af5a8f8aa5681fe2d43c809e9826d45061"), looks := false }, kinds := [], alts := [], laidByText := true, laidKinds := [.data, .data], laidTests := true, laidLooks := .later }
def OperatorPartsUptoCardSaid : Prop := Claim7.holds Tryd.pinned (.plain (OpenSpec.upto operatorPartsSpec)) operatorPartsUptoCard
end Rows
end Go.Proofs.YtobmbacppbkgeaaDoor
