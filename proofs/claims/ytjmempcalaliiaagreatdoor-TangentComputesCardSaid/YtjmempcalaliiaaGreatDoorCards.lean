/-
  DERIVED. GIVEN WITH THE SEED: THE CARDS: each row of YtjmempcalaliiaaGreatDoorRows.lean that lists a variable, with what it lists TIED to the program's text (the seventh form; the later family's looks); each row that meets fmt, with fmt's text TOLD by the authors' own Lean function (tested against real Go, not proved from fmt's source: count such statements apart). THE CARD IS WHAT COUNTS. Prove the row's statement (the work); the ties are given (YtjmempcalaliiaaGreatDoorTie.lean); close each card by the builder's one call (the guide's Derived/Test/ToyasCard.lean, 'card_holds'). Laid BY PROGRAM, IN A SANDBOX (cutbox-door.mjs). By AI agents, Wed Nov 11 2026. No macro, syntax, notation, axiom, sorry.
-/
import Derived.Test.YtjmempcalaliiaaGreatDoorRows
import GoSem.ClaimSeven
namespace Go.Proofs.YtjmempcalaliiaaGreatDoor
namespace Rows

/-- THE TIED CARD OF 'synopticlaw31.TangentLinear'. -/
def tangentLinearCard : Claim7 := { stood := { row := tangentLinearRow, standIns := [], harness := (true, "12d20ebbf244515a911379c4ed5deb0d71ab10d0d8ade5b1e6a40ab08f262b20"), looks := false }, kinds := [], alts := [], laidByText := true, laidKinds := [.data], laidTests := true, laidLooks := .later }
def TangentLinearCardSaid : Prop := Claim7.holds Tryz.pinned (.plain (OpenSpec.ofChange tangentLinearSpec)) tangentLinearCard

/-- THE TIED CARD OF 'synopticlaw32.AdjointMass'. -/
def adjointMassCard : Claim7 := { stood := { row := adjointMassRow, standIns := [], harness := (true, "12d20ebbf244515a911379c4ed5deb0d71ab10d0d8ade5b1e6a40ab08f262b20"), looks := false }, kinds := [], alts := [], laidByText := true, laidKinds := [.data], laidTests := true, laidLooks := .later }
def AdjointMassCardSaid : Prop := Claim7.holds Tryz.pinned (.plain (OpenSpec.ofChange adjointMassSpec)) adjointMassCard

/-- THE TIED CARD OF 'synopticlaw32.AdjointComputes'. -/
def adjointComputesCard : Claim7 := { stood := { row := adjointComputesRow, standIns := [], harness := (true, "12d20ebbf244515a911379c4ed5deb0d71ab10d0d8ade5b1e6a40ab08f262b20"), looks := false }, kinds := [], alts := [], laidByText := true, laidKinds := [.data], laidTests := true, laidLooks := .later }
def AdjointComputesCardSaid : Prop := Claim7.holds Tryz.pinned (.plain (OpenSpec.ofChange adjointComputesSpec)) adjointComputesCard

/-- THE TIED CARD OF 'synopticlaw31.TangentComputes'. -/
def tangentComputesCard : Claim7 := { stood := { row := tangentComputesRow, standIns := [], harness := (true, "12d20ebbf244515a911379c4ed5deb0d71ab10d0d8ade5b1e6a40ab08f262b20"), looks := false }, kinds := [], alts := [], laidByText := true, laidKinds := [.data], laidTests := true, laidLooks := .later }
def TangentComputesCardSaid : Prop := Claim7.holds Tryz.pinned (.plain (OpenSpec.ofChange tangentComputesSpec)) tangentComputesCard

/-- THE TIED CARD OF 'synopticlaw32.AdjointExact'. -/
def adjointExactCard : Claim7 := { stood := { row := adjointExactRow, standIns := [], harness := (true, "12d20ebbf244515a911379c4ed5deb0d71ab10d0d8ade5b1e6a40ab08f262b20"), looks := false }, kinds := [], alts := [], laidByText := true, laidKinds := [.data], laidTests := true, laidLooks := .later }
def AdjointExactCardSaid : Prop := Claim7.holds Tryz.pinned (.plain (OpenSpec.ofChange adjointExactSpec)) adjointExactCard

/-- THE TIED CARD OF 'synopticlaw31.TangentExact'. -/
def tangentExactCard : Claim7 := { stood := { row := tangentExactRow, standIns := [], harness := (true, "12d20ebbf244515a911379c4ed5deb0d71ab10d0d8ade5b1e6a40ab08f262b20"), looks := false }, kinds := [], alts := [], laidByText := true, laidKinds := [.data], laidTests := true, laidLooks := .later }
def TangentExactCardSaid : Prop := Claim7.holds Tryz.pinned (.plain (OpenSpec.ofChange tangentExactSpec)) tangentExactCard

/-- THE TIED CARD OF 'synopticlaw31.TangentTwice'. -/
def tangentTwiceCard : Claim7 := { stood := { row := tangentTwiceRow, standIns := [], harness := (true, "12d20ebbf244515a911379c4ed5deb0d71ab10d0d8ade5b1e6a40ab08f262b20"), looks := false }, kinds := [], alts := [], laidByText := true, laidKinds := [.data], laidTests := true, laidLooks := .later }
def TangentTwiceCardSaid : Prop := Claim7.holds Tryz.pinned (.plain (OpenSpec.ofChange tangentTwiceSpec)) tangentTwiceCard

/-- THE TIED CARD OF 'synopticlaw32.AdjointSensitivity'. -/
def adjointSensitivityCard : Claim7 := { stood := { row := adjointSensitivityRow, standIns := [], harness := (true, "12d20ebbf244515a911379c4ed5deb0d71ab10d0d8ade5b1e6a40ab08f262b20"), looks := false }, kinds := [], alts := [], laidByText := true, laidKinds := [.data], laidTests := true, laidLooks := .later }
def AdjointSensitivityCardSaid : Prop := Claim7.holds Tryz.pinned (.plain (OpenSpec.ofChange adjointSensitivitySpec)) adjointSensitivityCard

/-- THE TIED CARD OF 'synopticlaw32.AdjointComposes'. -/
def adjointComposesCard : Claim7 := { stood := { row := adjointComposesRow, standIns := [], harness := (true, "12d20ebbf244515a911379c4ed5deb0d71ab10d0d8ade5b1e6a40ab08f262b20"), looks := false }, kinds := [], alts := [], laidByText := true, laidKinds := [.data], laidTests := true, laidLooks := .later }
def AdjointComposesCardSaid : Prop := Claim7.holds Tryz.pinned (.plain (OpenSpec.ofChange adjointComposesSpec)) adjointComposesCard

/-- THE SECOND FORM's CARD OF 'synopticlaw31.TangentLinear'. -/
def tangentLinearUptoCard : Claim7 := { stood := { row := tangentLinearUptoRow, standIns := [], harness := (true, "12d20ebbf244515a911379c4ed5deb0d71ab10d0d8ade5b1e6a40ab08f262b20"), looks := false }, kinds := [], alts := [], laidByText := true, laidKinds := [.data], laidTests := true, laidLooks := .later }
def TangentLinearUptoCardSaid : Prop := Claim7.holds Tryz.pinned (.plain (OpenSpec.upto tangentLinearSpec)) tangentLinearUptoCard

/-- THE SECOND FORM's CARD OF 'synopticlaw32.AdjointMass'. -/
def adjointMassUptoCard : Claim7 := { stood := { row := adjointMassUptoRow, standIns := [], harness := (true, "12d20ebbf244515a911379c4ed5deb0d71ab10d0d8ade5b1e6a40ab08f262b20"), looks := false }, kinds := [], alts := [], laidByText := true, laidKinds := [.data], laidTests := true, laidLooks := .later }
def AdjointMassUptoCardSaid : Prop := Claim7.holds Tryz.pinned (.plain (OpenSpec.upto adjointMassSpec)) adjointMassUptoCard

/-- THE SECOND FORM's CARD OF 'synopticlaw32.AdjointComputes'. -/
def adjointComputesUptoCard : Claim7 := { stood := { row := adjointComputesUptoRow, standIns := [], harness := (true, "12d20ebbf244515a911379c4ed5deb0d71ab10d0d8ade5b1e6a40ab08f262b20"), looks := false }, kinds := [], alts := [], laidByText := true, laidKinds := [.data], laidTests := true, laidLooks := .later }
def AdjointComputesUptoCardSaid : Prop := Claim7.holds Tryz.pinned (.plain (OpenSpec.upto adjointComputesSpec)) adjointComputesUptoCard

/-- THE SECOND FORM's CARD OF 'synopticlaw31.TangentComputes'. -/
def tangentComputesUptoCard : Claim7 := { stood := { row := tangentComputesUptoRow, standIns := [], harness := (true, "12d20ebbf244515a911379c4ed5deb0d71ab10d0d8ade5b1e6a40ab08f262b20"), looks := false }, kinds := [], alts := [], laidByText := true, laidKinds := [.data], laidTests := true, laidLooks := .later }
def TangentComputesUptoCardSaid : Prop := Claim7.holds Tryz.pinned (.plain (OpenSpec.upto tangentComputesSpec)) tangentComputesUptoCard

/-- THE SECOND FORM's CARD OF 'synopticlaw32.AdjointExact'. -/
def adjointExactUptoCard : Claim7 := { stood := { row := adjointExactUptoRow, standIns := [], harness := (true, "12d20ebbf244515a911379c4ed5deb0d71ab10d0d8ade5b1e6a40ab08f262b20"), looks := false }, kinds := [], alts := [], laidByText := true, laidKinds := [.data], laidTests := true, laidLooks := .later }
def AdjointExactUptoCardSaid : Prop := Claim7.holds Tryz.pinned (.plain (OpenSpec.upto adjointExactSpec)) adjointExactUptoCard

/-- THE SECOND FORM's CARD OF 'synopticlaw31.TangentExact'. -/
def tangentExactUptoCard : Claim7 := { stood := { row := tangentExactUptoRow, standIns := [], harness := (true, "12d20ebbf244515a911379c4ed5deb0d71ab10d0d8ade5b1e6a40ab08f262b20"), looks := false }, kinds := [], alts := [], laidByText := true, laidKinds := [.data], laidTests := true, laidLooks := .later }
def TangentExactUptoCardSaid : Prop := Claim7.holds Tryz.pinned (.plain (OpenSpec.upto tangentExactSpec)) tangentExactUptoCard

/-- THE SECOND FORM's CARD OF 'synopticlaw31.TangentTwice'. -/
def tangentTwiceUptoCard : Claim7 := { stood := { row := tangentTwiceUptoRow, standIns := [], harness := (true, "12d20ebbf244515a911379c4ed5deb0d71ab10d0d8ade5b1e6a40ab08f262b20"), looks := false }, kinds := [], alts := [], laidByText := true, laidKinds := [.data], laidTests := true, laidLooks := .later }
def TangentTwiceUptoCardSaid : Prop := Claim7.holds Tryz.pinned (.plain (OpenSpec.upto tangentTwiceSpec)) tangentTwiceUptoCard

/-- THE SECOND FORM's CARD OF 'synopticlaw32.AdjointSensitivity'. -/
def adjointSensitivityUptoCard : Claim7 := { stood := { row := adjointSensitivityUptoRow, standIns := [], harness := (true, "12d20ebbf244515a911379c4ed5deb0d71ab10d0d8ade5b1e6a40ab08f262b20"), looks := false }, kinds := [], alts := [], laidByText := true, laidKinds := [.data], laidTests := true, laidLooks := .later }
def AdjointSensitivityUptoCardSaid : Prop := Claim7.holds Tryz.pinned (.plain (OpenSpec.upto adjointSensitivitySpec)) adjointSensitivityUptoCard

/-- THE SECOND FORM's CARD OF 'synopticlaw32.AdjointComposes'. -/
def adjointComposesUptoCard : Claim7 := { stood := { row := adjointComposesUptoRow, standIns := [], harness := (true, "12d20ebbf244515a911379c4ed5deb0d71ab10d0d8ade5b1e6a40ab08f262b20"), looks := false }, kinds := [], alts := [], laidByText := true, laidKinds := [.data], laidTests := true, laidLooks := .later }
def AdjointComposesUptoCardSaid : Prop := Claim7.holds Tryz.pinned (.plain (OpenSpec.upto adjointComposesSpec)) adjointComposesUptoCard
end Rows
end Go.Proofs.YtjmempcalaliiaaGreatDoor
