/-
  DERIVED. GIVEN WITH THE SEED: THE CARDS: each row of YtoaanfjcjbghaaaGreatDoorRows.lean that lists a variable, with what it lists TIED to the program's text (the seventh form; the later family's looks); each row that meets fmt, with fmt's text TOLD by the authors' own Lean function (tested against real Go, not proved from fmt's source: count such statements apart). THE CARD IS WHAT COUNTS. Prove the row's statement (the work); the ties are given (YtoaanfjcjbghaaaGreatDoorTie.lean); close each card by the builder's one call (the guide's Derived/Test/ToyasCard.lean, 'card_holds'). Laid BY PROGRAM, IN A SANDBOX (cutbox-door.mjs). By AI agents, Wed Nov 11 2026. No macro, syntax, notation, axiom, sorry.
-/
import Derived.Test.YtoaanfjcjbghaaaGreatDoorRows
import GoSem.ClaimSeven
namespace Go.Proofs.YtoaanfjcjbghaaaGreatDoor
namespace Rows

/-- THE TIED CARD OF 'synopticlaw30.ModelSteps'. -/
def modelStepsCard : Claim7 := { stood := { row := modelStepsRow, standIns := [], harness := (true, "abc08e6050bea5ce75122cf73dfa77a43d1b25f0ea2478ca9cc4aef7babe9eb3"), looks := false }, kinds := [], alts := [], laidByText := true, laidKinds := [.data], laidTests := true, laidLooks := .later }
def ModelStepsCardSaid : Prop := Claim7.holds Tryz.pinned (.plain (OpenSpec.ofChange modelStepsSpec)) modelStepsCard

/-- THE TIED CARD OF 'synopticlaw30.ModelParts'. -/
def modelPartsCard : Claim7 := { stood := { row := modelPartsRow, standIns := [], harness := (true, "abc08e6050bea5ce75122cf73dfa77a43d1b25f0ea2478ca9cc4aef7babe9eb3"), looks := false }, kinds := [], alts := [], laidByText := true, laidKinds := [.data], laidTests := true, laidLooks := .later }
def ModelPartsCardSaid : Prop := Claim7.holds Tryz.pinned (.plain (OpenSpec.ofChange modelPartsSpec)) modelPartsCard

/-- THE TIED CARD OF 'synopticlaw30.ModelConserves'. -/
def modelConservesCard : Claim7 := { stood := { row := modelConservesRow, standIns := [], harness := (true, "abc08e6050bea5ce75122cf73dfa77a43d1b25f0ea2478ca9cc4aef7babe9eb3"), looks := false }, kinds := [], alts := [], laidByText := true, laidKinds := [.data], laidTests := true, laidLooks := .later }
def ModelConservesCardSaid : Prop := Claim7.holds Tryz.pinned (.plain (OpenSpec.ofChange modelConservesSpec)) modelConservesCard

/-- THE TIED CARD OF 'synopticlaw30.ModelRests'. -/
def modelRestsCard : Claim7 := { stood := { row := modelRestsRow, standIns := [], harness := (true, "abc08e6050bea5ce75122cf73dfa77a43d1b25f0ea2478ca9cc4aef7babe9eb3"), looks := false }, kinds := [], alts := [], laidByText := true, laidKinds := [.data], laidTests := true, laidLooks := .later }
def ModelRestsCardSaid : Prop := Claim7.holds Tryz.pinned (.plain (OpenSpec.ofChange modelRestsSpec)) modelRestsCard

/-- THE TIED CARD OF 'synopticlaw30.ModelLocal'. -/
def modelLocalCard : Claim7 := { stood := { row := modelLocalRow, standIns := [], harness := (true, "abc08e6050bea5ce75122cf73dfa77a43d1b25f0ea2478ca9cc4aef7babe9eb3"), looks := false }, kinds := [], alts := [], laidByText := true, laidKinds := [.data], laidTests := true, laidLooks := .later }
def ModelLocalCardSaid : Prop := Claim7.holds Tryz.pinned (.plain (OpenSpec.ofChange modelLocalSpec)) modelLocalCard

/-- THE TIED CARD OF 'synopticlaw33.ForecastThins'. -/
def forecastThinsCard : Claim7 := { stood := { row := forecastThinsRow, standIns := [], harness := (true, "abc08e6050bea5ce75122cf73dfa77a43d1b25f0ea2478ca9cc4aef7babe9eb3"), looks := false }, kinds := [], alts := [], laidByText := true, laidKinds := [.data], laidTests := true, laidLooks := .later }
def ForecastThinsCardSaid : Prop := Claim7.holds Tryz.pinned (.plain (OpenSpec.ofChange forecastThinsSpec)) forecastThinsCard

/-- THE TIED CARD OF 'synopticlaw33.ForecastResumes'. -/
def forecastResumesCard : Claim7 := { stood := { row := forecastResumesRow, standIns := [], harness := (true, "abc08e6050bea5ce75122cf73dfa77a43d1b25f0ea2478ca9cc4aef7babe9eb3"), looks := false }, kinds := [], alts := [], laidByText := true, laidKinds := [.data], laidTests := true, laidLooks := .later }
def ForecastResumesCardSaid : Prop := Claim7.holds Tryz.pinned (.plain (OpenSpec.ofChange forecastResumesSpec)) forecastResumesCard

/-- THE TIED CARD OF 'synopticlaw33.ForecastStores'. -/
def forecastStoresCard : Claim7 := { stood := { row := forecastStoresRow, standIns := [], harness := (true, "abc08e6050bea5ce75122cf73dfa77a43d1b25f0ea2478ca9cc4aef7babe9eb3"), looks := false }, kinds := [], alts := [], laidByText := true, laidKinds := [.data], laidTests := true, laidLooks := .later }
def ForecastStoresCardSaid : Prop := Claim7.holds Tryz.pinned (.plain (OpenSpec.ofChange forecastStoresSpec)) forecastStoresCard

/-- THE TIED CARD OF 'synopticlaw33.ForecastMakes'. -/
def forecastMakesCard : Claim7 := { stood := { row := forecastMakesRow, standIns := [], harness := (true, "abc08e6050bea5ce75122cf73dfa77a43d1b25f0ea2478ca9cc4aef7babe9eb3"), looks := false }, kinds := [], alts := [], laidByText := true, laidKinds := [.data], laidTests := true, laidLooks := .later }
def ForecastMakesCardSaid : Prop := Claim7.holds Tryz.pinned (.plain (OpenSpec.ofChange forecastMakesSpec)) forecastMakesCard

/-- THE SECOND FORM's CARD OF 'synopticlaw30.ModelSteps'. -/
def modelStepsUptoCard : Claim7 := { stood := { row := modelStepsUptoRow, standIns := [], harness := (true, "abc08e6050bea5ce75122cf73dfa77a43d1b25f0ea2478ca9cc4aef7babe9eb3"), looks := false }, kinds := [], alts := [], laidByText := true, laidKinds := [.data], laidTests := true, laidLooks := .later }
def ModelStepsUptoCardSaid : Prop := Claim7.holds Tryz.pinned (.plain (OpenSpec.upto modelStepsSpec)) modelStepsUptoCard

/-- THE SECOND FORM's CARD OF 'synopticlaw30.ModelParts'. -/
def modelPartsUptoCard : Claim7 := { stood := { row := modelPartsUptoRow, standIns := [], harness := (true, "abc08e6050bea5ce75122cf73dfa77a43d1b25f0ea2478ca9cc4aef7babe9eb3"), looks := false }, kinds := [], alts := [], laidByText := true, laidKinds := [.data], laidTests := true, laidLooks := .later }
def ModelPartsUptoCardSaid : Prop := Claim7.holds Tryz.pinned (.plain (OpenSpec.upto modelPartsSpec)) modelPartsUptoCard

/-- THE SECOND FORM's CARD OF 'synopticlaw30.ModelConserves'. -/
def modelConservesUptoCard : Claim7 := { stood := { row := modelConservesUptoRow, standIns := [], harness := (true, "abc08e6050bea5ce75122cf73dfa77a43d1b25f0ea2478ca9cc4aef7babe9eb3"), looks := false }, kinds := [], alts := [], laidByText := true, laidKinds := [.data], laidTests := true, laidLooks := .later }
def ModelConservesUptoCardSaid : Prop := Claim7.holds Tryz.pinned (.plain (OpenSpec.upto modelConservesSpec)) modelConservesUptoCard

/-- THE SECOND FORM's CARD OF 'synopticlaw30.ModelRests'. -/
def modelRestsUptoCard : Claim7 := { stood := { row := modelRestsUptoRow, standIns := [], harness := (true, "abc08e6050bea5ce75122cf73dfa77a43d1b25f0ea2478ca9cc4aef7babe9eb3"), looks := false }, kinds := [], alts := [], laidByText := true, laidKinds := [.data], laidTests := true, laidLooks := .later }
def ModelRestsUptoCardSaid : Prop := Claim7.holds Tryz.pinned (.plain (OpenSpec.upto modelRestsSpec)) modelRestsUptoCard

/-- THE SECOND FORM's CARD OF 'synopticlaw30.ModelLocal'. -/
def modelLocalUptoCard : Claim7 := { stood := { row := modelLocalUptoRow, standIns := [], harness := (true, "abc08e6050bea5ce75122cf73dfa77a43d1b25f0ea2478ca9cc4aef7babe9eb3"), looks := false }, kinds := [], alts := [], laidByText := true, laidKinds := [.data], laidTests := true, laidLooks := .later }
def ModelLocalUptoCardSaid : Prop := Claim7.holds Tryz.pinned (.plain (OpenSpec.upto modelLocalSpec)) modelLocalUptoCard

/-- THE SECOND FORM's CARD OF 'synopticlaw33.ForecastThins'. -/
def forecastThinsUptoCard : Claim7 := { stood := { row := forecastThinsUptoRow, standIns := [], harness := (true, "abc08e6050bea5ce75122cf73dfa77a43d1b25f0ea2478ca9cc4aef7babe9eb3"), looks := false }, kinds := [], alts := [], laidByText := true, laidKinds := [.data], laidTests := true, laidLooks := .later }
def ForecastThinsUptoCardSaid : Prop := Claim7.holds Tryz.pinned (.plain (OpenSpec.upto forecastThinsSpec)) forecastThinsUptoCard

/-- THE SECOND FORM's CARD OF 'synopticlaw33.ForecastResumes'. -/
def forecastResumesUptoCard : Claim7 := { stood := { row := forecastResumesUptoRow, standIns := [], harness := (true, "abc08e6050bea5ce75122cf73dfa77a43d1b25f0ea2478ca9cc4aef7babe9eb3"), looks := false }, kinds := [], alts := [], laidByText := true, laidKinds := [.data], laidTests := true, laidLooks := .later }
def ForecastResumesUptoCardSaid : Prop := Claim7.holds Tryz.pinned (.plain (OpenSpec.upto forecastResumesSpec)) forecastResumesUptoCard

/-- THE SECOND FORM's CARD OF 'synopticlaw33.ForecastStores'. -/
def forecastStoresUptoCard : Claim7 := { stood := { row := forecastStoresUptoRow, standIns := [], harness := (true, "abc08e6050bea5ce75122cf73dfa77a43d1b25f0ea2478ca9cc4aef7babe9eb3"), looks := false }, kinds := [], alts := [], laidByText := true, laidKinds := [.data], laidTests := true, laidLooks := .later }
def ForecastStoresUptoCardSaid : Prop := Claim7.holds Tryz.pinned (.plain (OpenSpec.upto forecastStoresSpec)) forecastStoresUptoCard

/-- THE SECOND FORM's CARD OF 'synopticlaw33.ForecastMakes'. -/
def forecastMakesUptoCard : Claim7 := { stood := { row := forecastMakesUptoRow, standIns := [], harness := (true, "abc08e6050bea5ce75122cf73dfa77a43d1b25f0ea2478ca9cc4aef7babe9eb3"), looks := false }, kinds := [], alts := [], laidByText := true, laidKinds := [.data], laidTests := true, laidLooks := .later }
def ForecastMakesUptoCardSaid : Prop := Claim7.holds Tryz.pinned (.plain (OpenSpec.upto forecastMakesSpec)) forecastMakesUptoCard
end Rows
end Go.Proofs.YtoaanfjcjbghaaaGreatDoor
