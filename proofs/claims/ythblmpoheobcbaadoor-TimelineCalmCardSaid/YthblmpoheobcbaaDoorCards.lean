/-
  DERIVED. GIVEN WITH THE SEED: THE CARDS: each row of YthblmpoheobcbaaDoorRows.lean that lists a variable, with what it lists TIED to the program's text (the seventh form; the later family's looks); each row that meets fmt, with fmt's text TOLD by the authors' own Lean function (tested against real Go, not proved from fmt's source: count such statements apart). THE CARD IS WHAT COUNTS. Prove the row's statement (the work); the ties are given (YthblmpoheobcbaaDoorTie.lean); close each card by the builder's one call (the guide's Derived/Test/ToyasCard.lean, 'card_holds'). Laid BY PROGRAM, IN A SANDBOX (cutbox-door.mjs). By AI agents, Wed Nov 11 2026. No macro, syntax, notation, axiom, sorry.
-/
import Derived.Test.YthblmpoheobcbaaDoorRows
import GoSem.ClaimSeven
namespace Go.Proofs.YthblmpoheobcbaaDoor
namespace Rows

/-- THE TIED CARD OF 'synopticlaw16.TimelineAnswers'. -/
def timelineAnswersCard : Claim7 := { stood := { row := timelineAnswersRow, standIns := [], harness := (true, "16955a89ca77a7d57b9b753baf7311ab4e3363bc2a2d1c5912ad67957301b62e"), looks := false }, kinds := [], alts := [], laidByText := true, laidKinds := [.data], laidTests := true, laidLooks := .later }
def TimelineAnswersCardSaid : Prop := Claim7.holds Tryd.pinned (.plain (OpenSpec.ofChange timelineAnswersSpec)) timelineAnswersCard

/-- THE TIED CARD OF 'synopticlaw16.TimelineOrder'. -/
def timelineOrderCard : Claim7 := { stood := { row := timelineOrderRow, standIns := [], harness := (true, "16955a89ca77a7d57b9b753baf7311ab4e3363bc2a2d1c5912ad67957301b62e"), looks := false }, kinds := [], alts := [], laidByText := true, laidKinds := [.data], laidTests := true, laidLooks := .later }
def TimelineOrderCardSaid : Prop := Claim7.holds Tryd.pinned (.plain (OpenSpec.ofChange timelineOrderSpec)) timelineOrderCard

/-- THE TIED CARD OF 'synopticlaw16.TimelineCalm'. -/
def timelineCalmCard : Claim7 := { stood := { row := timelineCalmRow, standIns := [], harness := (true, "16955a89ca77a7d57b9b753baf7311ab4e3363bc2a2d1c5912ad67957301b62e"), looks := false }, kinds := [], alts := [], laidByText := true, laidKinds := [.data], laidTests := true, laidLooks := .later }
def TimelineCalmCardSaid : Prop := Claim7.holds Tryd.pinned (.plain (OpenSpec.ofChange timelineCalmSpec)) timelineCalmCard

/-- THE TIED CARD OF 'synopticlaw16.TimelineSpike'. -/
def timelineSpikeCard : Claim7 := { stood := { row := timelineSpikeRow, standIns := [], harness := (true, "16955a89ca77a7d57b9b753baf7311ab4e3363bc2a2d1c5912ad67957301b62e"), looks := false }, kinds := [], alts := [], laidByText := true, laidKinds := [.data], laidTests := true, laidLooks := .later }
def TimelineSpikeCardSaid : Prop := Claim7.holds Tryd.pinned (.plain (OpenSpec.ofChange timelineSpikeSpec)) timelineSpikeCard

/-- THE TIED CARD OF 'synopticlaw16.TimelineShifted'. -/
def timelineShiftedCard : Claim7 := { stood := { row := timelineShiftedRow, standIns := [], harness := (true, "16955a89ca77a7d57b9b753baf7311ab4e3363bc2a2d1c5912ad67957301b62e"), looks := false }, kinds := [], alts := [], laidByText := true, laidKinds := [.data], laidTests := true, laidLooks := .later }
def TimelineShiftedCardSaid : Prop := Claim7.holds Tryd.pinned (.plain (OpenSpec.ofChange timelineShiftedSpec)) timelineShiftedCard

/-- THE TIED CARD OF 'synopticlaw16.TimelineElements'. -/
def timelineElementsCard : Claim7 := { stood := { row := timelineElementsRow, standIns := [], harness := (true, "16955a89ca77a7d57b9b753baf7311ab4e3363bc2a2d1c5912ad67957301b62e"), looks := false }, kinds := [], alts := [], laidByText := true, laidKinds := [.data], laidTests := true, laidLooks := .later }
def TimelineElementsCardSaid : Prop := Claim7.holds Tryd.pinned (.plain (OpenSpec.ofChange timelineElementsSpec)) timelineElementsCard

/-- THE SECOND FORM's CARD OF 'synopticlaw16.TimelineAnswers'. -/
def timelineAnswersUptoCard : Claim7 := { stood := { row := timelineAnswersUptoRow, standIns := [], harness := (true, "16955a89ca77a7d57b9b753baf7311ab4e3363bc2a2d1c5912ad67957301b62e"), looks := false }, kinds := [], alts := [], laidByText := true, laidKinds := [.data], laidTests := true, laidLooks := .later }
def TimelineAnswersUptoCardSaid : Prop := Claim7.holds Tryd.pinned (.plain (OpenSpec.upto timelineAnswersSpec)) timelineAnswersUptoCard

/-- THE SECOND FORM's CARD OF 'synopticlaw16.TimelineOrder'. -/
def timelineOrderUptoCard : Claim7 := { stood := { row := timelineOrderUptoRow, standIns := [], harness := (true, "16955a89ca77a7d57b9b753baf7311ab4e3363bc2a2d1c5912ad67957301b62e"), looks := false }, kinds := [], alts := [], laidByText := true, laidKinds := [.data], laidTests := true, laidLooks := .later }
def TimelineOrderUptoCardSaid : Prop := Claim7.holds Tryd.pinned (.plain (OpenSpec.upto timelineOrderSpec)) timelineOrderUptoCard

/-- THE SECOND FORM's CARD OF 'synopticlaw16.TimelineCalm'. -/
def timelineCalmUptoCard : Claim7 := { stood := { row := timelineCalmUptoRow, standIns := [], harness := (true, "16955a89ca77a7d57b9b753baf7311ab4e3363bc2a2d1c5912ad67957301b62e"), looks := false }, kinds := [], alts := [], laidByText := true, laidKinds := [.data], laidTests := true, laidLooks := .later }
def TimelineCalmUptoCardSaid : Prop := Claim7.holds Tryd.pinned (.plain (OpenSpec.upto timelineCalmSpec)) timelineCalmUptoCard

/-- THE SECOND FORM's CARD OF 'synopticlaw16.TimelineSpike'. -/
def timelineSpikeUptoCard : Claim7 := { stood := { row := timelineSpikeUptoRow, standIns := [], harness := (true, "16955a89ca77a7d57b9b753baf7311ab4e3363bc2a2d1c5912ad67957301b62e"), looks := false }, kinds := [], alts := [], laidByText := true, laidKinds := [.data], laidTests := true, laidLooks := .later }
def TimelineSpikeUptoCardSaid : Prop := Claim7.holds Tryd.pinned (.plain (OpenSpec.upto timelineSpikeSpec)) timelineSpikeUptoCard

/-- THE SECOND FORM's CARD OF 'synopticlaw16.TimelineShifted'. -/
def timelineShiftedUptoCard : Claim7 := { stood := { row := timelineShiftedUptoRow, standIns := [], harness := (true, "16955a89ca77a7d57b9b753baf7311ab4e3363bc2a2d1c5912ad67957301b62e"), looks := false }, kinds := [], alts := [], laidByText := true, laidKinds := [.data], laidTests := true, laidLooks := .later }
def TimelineShiftedUptoCardSaid : Prop := Claim7.holds Tryd.pinned (.plain (OpenSpec.upto timelineShiftedSpec)) timelineShiftedUptoCard

/-- THE SECOND FORM's CARD OF 'synopticlaw16.TimelineElements'. -/
def timelineElementsUptoCard : Claim7 := { stood := { row := timelineElementsUptoRow, standIns := [], harness := (true, "16955a89ca77a7d57b9b753baf7311ab4e3363bc2a2d1c5912ad67957301b62e"), looks := false }, kinds := [], alts := [], laidByText := true, laidKinds := [.data], laidTests := true, laidLooks := .later }
def TimelineElementsUptoCardSaid : Prop := Claim7.holds Tryd.pinned (.plain (OpenSpec.upto timelineElementsSpec)) timelineElementsUptoCard
end Rows
end Go.Proofs.YthblmpoheobcbaaDoor
