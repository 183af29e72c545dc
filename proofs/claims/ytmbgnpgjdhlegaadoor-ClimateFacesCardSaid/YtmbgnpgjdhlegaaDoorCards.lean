/-
  DERIVED. GIVEN WITH THE SEED: THE CARDS: each row of YtmbgnpgjdhlegaaDoorRows.lean that lists a variable, with what it lists TIED to the program's text (the seventh form; the later family's looks); each row that meets fmt, with fmt's text TOLD by the authors' own Lean function (tested against real Go, not proved from fmt's source: count such statements apart). THE CARD IS WHAT COUNTS. Prove the row's statement (the work); the ties are given (YtmbgnpgjdhlegaaDoorTie.lean); close each card by the builder's one call (the guide's Derived/Test/ToyasCard.lean, 'card_holds'). Laid BY PROGRAM, IN A SANDBOX (cutbox-door.mjs). By AI agents, Wed Nov 11 2026. No macro, syntax, notation, axiom, sorry.
-/
import Derived.Test.YtmbgnpgjdhlegaaDoorRows
import GoSem.ClaimSeven
namespace Go.Proofs.YtmbgnpgjdhlegaaDoor
namespace Rows

/-- THE TIED CARD OF 'synopticlaw13.ClimateLearns'. -/
def climateLearnsCard : Claim7 := { stood := { row := climateLearnsRow, standIns := [], harness := (true, "cccf975aa6e27ccc840b90c1264bcc9d29dee5148ddbf75bdc203ff62b67c7f3"), looks := false }, kinds := [], alts := [], laidByText := true, laidKinds := [.data, .data], laidTests := true, laidLooks := .later }
def ClimateLearnsCardSaid : Prop := Claim7.holds Tryd.pinned (.plain (OpenSpec.ofChange climateLearnsSpec)) climateLearnsCard

/-- THE TIED CARD OF 'synopticlaw13.ClimatePlaces'. -/
def climatePlacesCard : Claim7 := { stood := { row := climatePlacesRow, standIns := [], harness := (true, "cccf975aa6e27ccc840b90c1264bcc9d29dee5148ddbf75bdc203ff62b67c7f3"), looks := false }, kinds := [], alts := [], laidByText := true, laidKinds := [.data, .data], laidTests := true, laidLooks := .later }
def ClimatePlacesCardSaid : Prop := Claim7.holds Tryd.pinned (.plain (OpenSpec.ofChange climatePlacesSpec)) climatePlacesCard

/-- THE TIED CARD OF 'synopticlaw13.ClimateFaces'. -/
def climateFacesCard : Claim7 := { stood := { row := climateFacesRow, standIns := [], harness := (true, "cccf975aa6e27ccc840b90c1264bcc9d29dee5148ddbf75bdc203ff62b67c7f3"), looks := false }, kinds := [], alts := [], laidByText := true, laidKinds := [.data, .data], laidTests := true, laidLooks := .later }
def ClimateFacesCardSaid : Prop := Claim7.holds Tryd.pinned (.plain (OpenSpec.ofChange climateFacesSpec)) climateFacesCard

/-- THE TIED CARD OF 'synopticlaw13.ClimateAnswers'. -/
def climateAnswersCard : Claim7 := { stood := { row := climateAnswersRow, standIns := [], harness := (true, "cccf975aa6e27ccc840b90c1264bcc9d29dee5148ddbf75bdc203ff62b67c7f3"), looks := false }, kinds := [], alts := [], laidByText := true, laidKinds := [.data, .data], laidTests := true, laidLooks := .later }
def ClimateAnswersCardSaid : Prop := Claim7.holds Tryd.pinned (.plain (OpenSpec.ofChange climateAnswersSpec)) climateAnswersCard

/-- THE SECOND FORM's CARD OF 'synopticlaw13.ClimateLearns'. -/
def climateLearnsUptoCard : Claim7 := { stood := { row := climateLearnsUptoRow, standIns := [], harness := (true, "cccf975aa6e27ccc840b90c1264bcc9d29dee5148ddbf75bdc203ff62b67c7f3"), looks := false }, kinds := [], alts := [], laidByText := true, laidKinds := [.data, .data], laidTests := true, laidLooks := .later }
def ClimateLearnsUptoCardSaid : Prop := Claim7.holds Tryd.pinned (.plain (OpenSpec.upto climateLearnsSpec)) climateLearnsUptoCard

/-- THE SECOND FORM's CARD OF 'synopticlaw13.ClimatePlaces'. -/
def climatePlacesUptoCard : Claim7 := { stood := { row := climatePlacesUptoRow, standIns := [], harness := (true, "cccf975aa6e27ccc840b90c1264bcc9d29dee5148ddbf75bdc203ff62b67c7f3"), looks := false }, kinds := [], alts := [], laidByText := true, laidKinds := [.data, .data], laidTests := true, laidLooks := .later }
def ClimatePlacesUptoCardSaid : Prop := Claim7.holds Tryd.pinned (.plain (OpenSpec.upto climatePlacesSpec)) climatePlacesUptoCard

/-- THE SECOND FORM's CARD OF 'synopticlaw13.ClimateFaces'. -/
def climateFacesUptoCard : Claim7 := { stood := { row := climateFacesUptoRow, standIns := [], harness := (true, "cccf975aa6e27ccc840b90c1264bcc9d29dee5148ddbf75bdc203ff62b67c7f3"), looks := false }, kinds := [], alts := [], laidByText := true, laidKinds := [.data, .data], laidTests := true, laidLooks := .later }
def ClimateFacesUptoCardSaid : Prop := Claim7.holds Tryd.pinned (.plain (OpenSpec.upto climateFacesSpec)) climateFacesUptoCard

/-- THE SECOND FORM's CARD OF 'synopticlaw13.ClimateAnswers'. -/
def climateAnswersUptoCard : Claim7 := { stood := { row := climateAnswersUptoRow, standIns := [], harness := (true, "cccf975aa6e27ccc840b90c1264bcc9d29dee5148ddbf75bdc203ff62b67c7f3"), looks := false }, kinds := [], alts := [], laidByText := true, laidKinds := [.data, .data], laidTests := true, laidLooks := .later }
def ClimateAnswersUptoCardSaid : Prop := Claim7.holds Tryd.pinned (.plain (OpenSpec.upto climateAnswersSpec)) climateAnswersUptoCard
end Rows
end Go.Proofs.YtmbgnpgjdhlegaaDoor
