/-
  NARROWER THAN 'FOR EVERY INPUT', by the rows' own cells (each row's printed sentence says how): TangentLinear: laid · AdjointMass: laid · AdjointComputes: laid · TangentComputes: laid · AdjointExact: laid · TangentExact: laid · TangentTwice: laid · AdjointSensitivity: laid · AdjointComposes: laid.
  DERIVED. THE GIVEN ROWS OF THIS SEAT. 9 by the template 'for every input the law returns true; each argument reads behind the call as it read before'; 0 by the template 'total and deterministic' (their statements: YtjmempcalaliiaaGreatDoorTotals.lean).
  GIVEN WITH THE SEED: the statements are not yours to turn. If you find one false, say at which input.
  Laid BY PROGRAM, IN A SANDBOX (cutbox-rows.mjs): the forced cells as the released guide's own fill.sh prints them over the translation aff06b476d4cbb9b… (all of the seat's roots in one cut). By AI agents, Wed Nov 11 2026. No macro, syntax, notation, axiom, sorry.
-/
import Derived.Test.YtjmempcalaliiaaGreatDoorChecked
import GoSem.Claim
import GoSem.ClaimJoined
import GoSem.ClaimMapViews
import Derived.JoinedTies
import Derived.KernelRfl
namespace Go.Proofs.YtjmempcalaliiaaGreatDoor
/- THE CELL 'sum', in the pinned program and in every row, IS THE sha256 OF THE DUMP (.gsa) THAT YtjmempcalaliiaaGreatDoorProg.lean LOADS. Nothing in Lean hashes anything: it is a label: what it is worth is what the hold of that sum in a sandbox is worth. -/
noncomputable def Tryz.pinned : Pinned := { name := "ytjmempcalaliiaagreatdoor", sum := "aff06b476d4cbb9bcc9e2cfd037050bda6e064d54201f998ab4e0465f1492a3a", checked := Tryz.checked }
namespace Rows
def none {H : Type} : Left H := { results := [], args := [] }

/- WHAT THE LISTED PACKAGE-LEVEL VARIABLES READ AS WHEN THE CALL BEGINS. Each datum BY PROGRAM (the guide's laid-datum.mjs) off the statement by which the dump's own 'gosem.cut.vars' lays the variable. In a bare row this is a premise. The card (YtjmempcalaliiaaGreatDoorCards.lean) ties it to the program's text. -/
def laid_synoptic_place_corners {H : Type} : DataW H := .agg [.agg [.lit (.int .i64 0), .lit (.int .i64 1), .lit (.int .i64 2)], .agg [.lit (.int .i64 0), .lit (.int .i64 2), .lit (.int .i64 3)], .agg [.lit (.int .i64 0), .lit (.int .i64 3), .lit (.int .i64 4)], .agg [.lit (.int .i64 0), .lit (.int .i64 4), .lit (.int .i64 5)], .agg [.lit (.int .i64 0), .lit (.int .i64 5), .lit (.int .i64 1)], .agg [.lit (.int .i64 1), .lit (.int .i64 6), .lit (.int .i64 2)], .agg [.lit (.int .i64 2), .lit (.int .i64 7), .lit (.int .i64 3)], .agg [.lit (.int .i64 3), .lit (.int .i64 8), .lit (.int .i64 4)], .agg [.lit (.int .i64 4), .lit (.int .i64 9), .lit (.int .i64 5)], .agg [.lit (.int .i64 5), .lit (.int .i64 10), .lit (.int .i64 1)], .agg [.lit (.int .i64 6), .lit (.int .i64 7), .lit (.int .i64 2)], .agg [.lit (.int .i64 7), .lit (.int .i64 8), .lit (.int .i64 3)], .agg [.lit (.int .i64 8), .lit (.int .i64 9), .lit (.int .i64 4)], .agg [.lit (.int .i64 9), .lit (.int .i64 10), .lit (.int .i64 5)], .agg [.lit (.int .i64 10), .lit (.int .i64 6), .lit (.int .i64 1)], .agg [.lit (.int .i64 11), .lit (.int .i64 7), .lit (.int .i64 6)], .agg [.lit (.int .i64 11), .lit (.int .i64 8), .lit (.int .i64 7)], .agg [.lit (.int .i64 11), .lit (.int .i64 9), .lit (.int .i64 8)], .agg [.lit (.int .i64 11), .lit (.int .i64 10), .lit (.int .i64 9)], .agg [.lit (.int .i64 11), .lit (.int .i64 6), .lit (.int .i64 10)]]

/-- 'synopticlaw31.TangentLinear': WHATEVER THE INPUT: true; the input reads as it did. -/
def tangentLinearSpec : ChangeSpec := { name := "tangentLinear", fn := fun _ => fun
  | [d1, d2] => { results := [.lit (.bool true)], args := [d1, d2] }
  | _ => none }
def tangentLinearRow : OpenClaim := { program := "ytjmempcalaliiaagreatdoor", sum := "aff06b476d4cbb9bcc9e2cfd037050bda6e064d54201f998ab4e0465f1492a3a", func := "synoptic/synopticlaw31.TangentLinear", spec := "tangentLinear", unfollowed := true, recurses := true, named := ["synoptic/place.corners"], plainKeys := false, apart := false, laid := [("synoptic/place.corners", laid_synoptic_place_corners)] }
def TangentLinearSaid : Prop := tangentLinearRow.holds Tryz.pinned (OpenSpec.ofChange tangentLinearSpec)

/-- ITS FALSE NEIGHBOUR: 'it returns false'. Refute it at one input. -/
def tangentLinearWrong : ChangeSpec := { name := "tangentLinear", fn := fun _ => fun
  | [d1, d2] => { results := [.lit (.bool false)], args := [d1, d2] }
  | _ => none }
def TangentLinearWrongFalsely : Prop := tangentLinearRow.holds Tryz.pinned (OpenSpec.ofChange tangentLinearWrong)

/-- 'synopticlaw32.AdjointMass': WHATEVER THE INPUT: true; the input reads as it did. -/
def adjointMassSpec : ChangeSpec := { name := "adjointMass", fn := fun _ => fun
  | [d1, d2] => { results := [.lit (.bool true)], args := [d1, d2] }
  | _ => none }
def adjointMassRow : OpenClaim := { program := "ytjmempcalaliiaagreatdoor", sum := "aff06b476d4cbb9bcc9e2cfd037050bda6e064d54201f998ab4e0465f1492a3a", func := "synoptic/synopticlaw32.AdjointMass", spec := "adjointMass", unfollowed := true, recurses := true, named := ["synoptic/place.corners"], plainKeys := false, apart := false, laid := [("synoptic/place.corners", laid_synoptic_place_corners)] }
def AdjointMassSaid : Prop := adjointMassRow.holds Tryz.pinned (OpenSpec.ofChange adjointMassSpec)

/-- ITS FALSE NEIGHBOUR: 'it returns false'. Refute it at one input. -/
def adjointMassWrong : ChangeSpec := { name := "adjointMass", fn := fun _ => fun
  | [d1, d2] => { results := [.lit (.bool false)], args := [d1, d2] }
  | _ => none }
def AdjointMassWrongFalsely : Prop := adjointMassRow.holds Tryz.pinned (OpenSpec.ofChange adjointMassWrong)

/-- 'synopticlaw32.AdjointComputes': WHATEVER THE INPUT: true; the input reads as it did. -/
def adjointComputesSpec : ChangeSpec := { name := "adjointComputes", fn := fun _ => fun
  | [d1, d2, d3, d4, d5] => { results := [.lit (.bool true)], args := [d1, d2, d3, d4, d5] }
  | _ => none }
def adjointComputesRow : OpenClaim := { program := "ytjmempcalaliiaagreatdoor", sum := "aff06b476d4cbb9bcc9e2cfd037050bda6e064d54201f998ab4e0465f1492a3a", func := "synoptic/synopticlaw32.AdjointComputes", spec := "adjointComputes", unfollowed := true, recurses := true, named := ["synoptic/place.corners"], plainKeys := false, apart := false, laid := [("synoptic/place.corners", laid_synoptic_place_corners)] }
def AdjointComputesSaid : Prop := adjointComputesRow.holds Tryz.pinned (OpenSpec.ofChange adjointComputesSpec)

/-- ITS FALSE NEIGHBOUR: 'it returns false'. Refute it at one input. -/
def adjointComputesWrong : ChangeSpec := { name := "adjointComputes", fn := fun _ => fun
  | [d1, d2, d3, d4, d5] => { results := [.lit (.bool false)], args := [d1, d2, d3, d4, d5] }
  | _ => none }
def AdjointComputesWrongFalsely : Prop := adjointComputesRow.holds Tryz.pinned (OpenSpec.ofChange adjointComputesWrong)

/-- 'synopticlaw31.TangentComputes': WHATEVER THE INPUT: true; the input reads as it did. -/
def tangentComputesSpec : ChangeSpec := { name := "tangentComputes", fn := fun _ => fun
  | [d1, d2, d3, d4] => { results := [.lit (.bool true)], args := [d1, d2, d3, d4] }
  | _ => none }
def tangentComputesRow : OpenClaim := { program := "ytjmempcalaliiaagreatdoor", sum := "aff06b476d4cbb9bcc9e2cfd037050bda6e064d54201f998ab4e0465f1492a3a", func := "synoptic/synopticlaw31.TangentComputes", spec := "tangentComputes", inPlace := ["math/bits.Add64"], unfollowed := true, recurses := true, named := ["synoptic/place.corners"], plainKeys := false, apart := false, laid := [("synoptic/place.corners", laid_synoptic_place_corners)] }
def TangentComputesSaid : Prop := tangentComputesRow.holds Tryz.pinned (OpenSpec.ofChange tangentComputesSpec)

/-- ITS FALSE NEIGHBOUR: 'it returns false'. Refute it at one input. -/
def tangentComputesWrong : ChangeSpec := { name := "tangentComputes", fn := fun _ => fun
  | [d1, d2, d3, d4] => { results := [.lit (.bool false)], args := [d1, d2, d3, d4] }
  | _ => none }
def TangentComputesWrongFalsely : Prop := tangentComputesRow.holds Tryz.pinned (OpenSpec.ofChange tangentComputesWrong)

/-- 'synopticlaw32.AdjointExact': WHATEVER THE INPUT: true; the input reads as it did. -/
def adjointExactSpec : ChangeSpec := { name := "adjointExact", fn := fun _ => fun
  | [d] => { results := [.lit (.bool true)], args := [d] }
  | _ => none }
def adjointExactRow : OpenClaim := { program := "ytjmempcalaliiaagreatdoor", sum := "aff06b476d4cbb9bcc9e2cfd037050bda6e064d54201f998ab4e0465f1492a3a", func := "synoptic/synopticlaw32.AdjointExact", spec := "adjointExact", inPlace := ["math/bits.Add64"], unfollowed := true, recurses := true, named := ["synoptic/place.corners"], plainKeys := false, apart := false, laid := [("synoptic/place.corners", laid_synoptic_place_corners)] }
def AdjointExactSaid : Prop := adjointExactRow.holds Tryz.pinned (OpenSpec.ofChange adjointExactSpec)

/-- ITS FALSE NEIGHBOUR: 'it returns false'. Refute it at one input. -/
def adjointExactWrong : ChangeSpec := { name := "adjointExact", fn := fun _ => fun
  | [d] => { results := [.lit (.bool false)], args := [d] }
  | _ => none }
def AdjointExactWrongFalsely : Prop := adjointExactRow.holds Tryz.pinned (OpenSpec.ofChange adjointExactWrong)

/-- 'synopticlaw31.TangentExact': WHATEVER THE INPUT: true; the input reads as it did. -/
def tangentExactSpec : ChangeSpec := { name := "tangentExact", fn := fun _ => fun
  | [d] => { results := [.lit (.bool true)], args := [d] }
  | _ => none }
def tangentExactRow : OpenClaim := { program := "ytjmempcalaliiaagreatdoor", sum := "aff06b476d4cbb9bcc9e2cfd037050bda6e064d54201f998ab4e0465f1492a3a", func := "synoptic/synopticlaw31.TangentExact", spec := "tangentExact", unfollowed := true, recurses := true, named := ["synoptic/place.corners"], plainKeys := false, apart := false, laid := [("synoptic/place.corners", laid_synoptic_place_corners)] }
def TangentExactSaid : Prop := tangentExactRow.holds Tryz.pinned (OpenSpec.ofChange tangentExactSpec)

/-- ITS FALSE NEIGHBOUR: 'it returns false'. Refute it at one input. -/
def tangentExactWrong : ChangeSpec := { name := "tangentExact", fn := fun _ => fun
  | [d] => { results := [.lit (.bool false)], args := [d] }
  | _ => none }
def TangentExactWrongFalsely : Prop := tangentExactRow.holds Tryz.pinned (OpenSpec.ofChange tangentExactWrong)

/-- 'synopticlaw31.TangentTwice': WHATEVER THE INPUT: true; the input reads as it did. -/
def tangentTwiceSpec : ChangeSpec := { name := "tangentTwice", fn := fun _ => fun
  | [d] => { results := [.lit (.bool true)], args := [d] }
  | _ => none }
def tangentTwiceRow : OpenClaim := { program := "ytjmempcalaliiaagreatdoor", sum := "aff06b476d4cbb9bcc9e2cfd037050bda6e064d54201f998ab4e0465f1492a3a", func := "synoptic/synopticlaw31.TangentTwice", spec := "tangentTwice", unfollowed := true, recurses := true, named := ["synoptic/place.corners"], plainKeys := false, apart := false, laid := [("synoptic/place.corners", laid_synoptic_place_corners)] }
def TangentTwiceSaid : Prop := tangentTwiceRow.holds Tryz.pinned (OpenSpec.ofChange tangentTwiceSpec)

/-- ITS FALSE NEIGHBOUR: 'it returns false'. Refute it at one input. -/
def tangentTwiceWrong : ChangeSpec := { name := "tangentTwice", fn := fun _ => fun
  | [d] => { results := [.lit (.bool false)], args := [d] }
  | _ => none }
def TangentTwiceWrongFalsely : Prop := tangentTwiceRow.holds Tryz.pinned (OpenSpec.ofChange tangentTwiceWrong)

/-- 'synopticlaw32.AdjointSensitivity': WHATEVER THE INPUT: true; the input reads as it did. -/
def adjointSensitivitySpec : ChangeSpec := { name := "adjointSensitivity", fn := fun _ => fun
  | [d1, d2, d3] => { results := [.lit (.bool true)], args := [d1, d2, d3] }
  | _ => none }
def adjointSensitivityRow : OpenClaim := { program := "ytjmempcalaliiaagreatdoor", sum := "aff06b476d4cbb9bcc9e2cfd037050bda6e064d54201f998ab4e0465f1492a3a", func := "synoptic/synopticlaw32.AdjointSensitivity", spec := "adjointSensitivity", inPlace := ["math/bits.Add64"], unfollowed := true, recurses := true, named := ["synoptic/place.corners"], plainKeys := false, apart := false, laid := [("synoptic/place.corners", laid_synoptic_place_corners)] }
def AdjointSensitivitySaid : Prop := adjointSensitivityRow.holds Tryz.pinned (OpenSpec.ofChange adjointSensitivitySpec)

/-- ITS FALSE NEIGHBOUR: 'it returns false'. Refute it at one input. -/
def adjointSensitivityWrong : ChangeSpec := { name := "adjointSensitivity", fn := fun _ => fun
  | [d1, d2, d3] => { results := [.lit (.bool false)], args := [d1, d2, d3] }
  | _ => none }
def AdjointSensitivityWrongFalsely : Prop := adjointSensitivityRow.holds Tryz.pinned (OpenSpec.ofChange adjointSensitivityWrong)

/-- 'synopticlaw32.AdjointComposes': WHATEVER THE INPUT: true; the input reads as it did. -/
def adjointComposesSpec : ChangeSpec := { name := "adjointComposes", fn := fun _ => fun
  | [d1, d2] => { results := [.lit (.bool true)], args := [d1, d2] }
  | _ => none }
def adjointComposesRow : OpenClaim := { program := "ytjmempcalaliiaagreatdoor", sum := "aff06b476d4cbb9bcc9e2cfd037050bda6e064d54201f998ab4e0465f1492a3a", func := "synoptic/synopticlaw32.AdjointComposes", spec := "adjointComposes", inPlace := ["math/bits.Add64"], unfollowed := true, recurses := true, named := ["synoptic/place.corners"], plainKeys := false, apart := false, laid := [("synoptic/place.corners", laid_synoptic_place_corners)] }
def AdjointComposesSaid : Prop := adjointComposesRow.holds Tryz.pinned (OpenSpec.ofChange adjointComposesSpec)

/-- ITS FALSE NEIGHBOUR: 'it returns false'. Refute it at one input. -/
def adjointComposesWrong : ChangeSpec := { name := "adjointComposes", fn := fun _ => fun
  | [d1, d2] => { results := [.lit (.bool false)], args := [d1, d2] }
  | _ => none }
def AdjointComposesWrongFalsely : Prop := adjointComposesRow.holds Tryz.pinned (OpenSpec.ofChange adjointComposesWrong)

/- THE SECOND FORM. 'bulk': how many values and letters a reading holds, each counted each time it is reached (what is shared counts as often as it is met; a slice's spare places count too). A statement '..UptoSaid' is the law's where the arguments, and the package variables that the reading takes, are together of bulk at most 1048576: NARROWER than '..Said'. Prove '..Said' where nothing that the law and all that it calls make is longer than what came in: it says more and counts as full. Else prove '..UptoSaid'. A law counts once. -/
mutual
def uptoBulk {H : Type} : DataW H → Nat
  | .lit (.string bytes) => bytes.length + 1
  | .lit _ => 1
  | .nil => 1
  | .ptr d => uptoBulk d + 1
  | .slice elems spare => uptoBulkAll elems + uptoBulkAll spare + 1
  | .agg parts => uptoBulkAll parts + 1
  | .iface _ d => uptoBulk d + 1
  | .map entries => uptoBulkEntries entries + 1
  | .held _ => 1
def uptoBulkAll {H : Type} : List (DataW H) → Nat
  | [] => 0
  | d :: r => uptoBulk d + uptoBulkAll r
def uptoBulkEntries {H : Type} : List (Lit × DataW H) → Nat
  | [] => 0
  | x :: r => uptoBulkEntry x + uptoBulkEntries r
def uptoBulkEntry {H : Type} : Lit × DataW H → Nat
  | (.string bytes, d) => bytes.length + uptoBulk d + 1
  | (_, d) => uptoBulk d + 1
 end
def uptoSmall : (H : Type) → List (DataW H) → Bool := fun _ ds => decide (uptoBulkAll ds ≤ 1048576)
def OpenSpec.upto (s : _root_.Go.ChangeSpec) : _root_.Go.OpenSpec := { _root_.Go.OpenSpec.ofChange s with cond := some uptoSmall }

/-- 'synopticlaw31.TangentLinear', WHERE WHAT IT READS IS OF BULK AT MOST 1048576: true; the input reads as it did. -/
def tangentLinearUptoRow : OpenClaim := { program := "ytjmempcalaliiaagreatdoor", sum := "aff06b476d4cbb9bcc9e2cfd037050bda6e064d54201f998ab4e0465f1492a3a", func := "synoptic/synopticlaw31.TangentLinear", spec := "tangentLinear", unfollowed := true, recurses := true, named := ["synoptic/place.corners"], plainKeys := false, apart := false, laid := [("synoptic/place.corners", laid_synoptic_place_corners)], narrowed := true }
def TangentLinearUptoSaid : Prop := tangentLinearUptoRow.holds Tryz.pinned (OpenSpec.upto tangentLinearSpec)

/-- 'synopticlaw32.AdjointMass', WHERE WHAT IT READS IS OF BULK AT MOST 1048576: true; the input reads as it did. -/
def adjointMassUptoRow : OpenClaim := { program := "ytjmempcalaliiaagreatdoor", sum := "aff06b476d4cbb9bcc9e2cfd037050bda6e064d54201f998ab4e0465f1492a3a", func := "synoptic/synopticlaw32.AdjointMass", spec := "adjointMass", unfollowed := true, recurses := true, named := ["synoptic/place.corners"], plainKeys := false, apart := false, laid := [("synoptic/place.corners", laid_synoptic_place_corners)], narrowed := true }
def AdjointMassUptoSaid : Prop := adjointMassUptoRow.holds Tryz.pinned (OpenSpec.upto adjointMassSpec)

/-- 'synopticlaw32.AdjointComputes', WHERE WHAT IT READS IS OF BULK AT MOST 1048576: true; the input reads as it did. -/
def adjointComputesUptoRow : OpenClaim := { program := "ytjmempcalaliiaagreatdoor", sum := "aff06b476d4cbb9bcc9e2cfd037050bda6e064d54201f998ab4e0465f1492a3a", func := "synoptic/synopticlaw32.AdjointComputes", spec := "adjointComputes", unfollowed := true, recurses := true, named := ["synoptic/place.corners"], plainKeys := false, apart := false, laid := [("synoptic/place.corners", laid_synoptic_place_corners)], narrowed := true }
def AdjointComputesUptoSaid : Prop := adjointComputesUptoRow.holds Tryz.pinned (OpenSpec.upto adjointComputesSpec)

/-- 'synopticlaw31.TangentComputes', WHERE WHAT IT READS IS OF BULK AT MOST 1048576: true; the input reads as it did. -/
def tangentComputesUptoRow : OpenClaim := { program := "ytjmempcalaliiaagreatdoor", sum := "aff06b476d4cbb9bcc9e2cfd037050bda6e064d54201f998ab4e0465f1492a3a", func := "synoptic/synopticlaw31.TangentComputes", spec := "tangentComputes", inPlace := ["math/bits.Add64"], unfollowed := true, recurses := true, named := ["synoptic/place.corners"], plainKeys := false, apart := false, laid := [("synoptic/place.corners", laid_synoptic_place_corners)], narrowed := true }
def TangentComputesUptoSaid : Prop := tangentComputesUptoRow.holds Tryz.pinned (OpenSpec.upto tangentComputesSpec)

/-- 'synopticlaw32.AdjointExact', WHERE WHAT IT READS IS OF BULK AT MOST 1048576: true; the input reads as it did. -/
def adjointExactUptoRow : OpenClaim := { program := "ytjmempcalaliiaagreatdoor", sum := "aff06b476d4cbb9bcc9e2cfd037050bda6e064d54201f998ab4e0465f1492a3a", func := "synoptic/synopticlaw32.AdjointExact", spec := "adjointExact", inPlace := ["math/bits.Add64"], unfollowed := true, recurses := true, named := ["synoptic/place.corners"], plainKeys := false, apart := false, laid := [("synoptic/place.corners", laid_synoptic_place_corners)], narrowed := true }
def AdjointExactUptoSaid : Prop := adjointExactUptoRow.holds Tryz.pinned (OpenSpec.upto adjointExactSpec)

/-- 'synopticlaw31.TangentExact', WHERE WHAT IT READS IS OF BULK AT MOST 1048576: true; the input reads as it did. -/
def tangentExactUptoRow : OpenClaim := { program := "ytjmempcalaliiaagreatdoor", sum := "aff06b476d4cbb9bcc9e2cfd037050bda6e064d54201f998ab4e0465f1492a3a", func := "synoptic/synopticlaw31.TangentExact", spec := "tangentExact", unfollowed := true, recurses := true, named := ["synoptic/place.corners"], plainKeys := false, apart := false, laid := [("synoptic/place.corners", laid_synoptic_place_corners)], narrowed := true }
def TangentExactUptoSaid : Prop := tangentExactUptoRow.holds Tryz.pinned (OpenSpec.upto tangentExactSpec)

/-- 'synopticlaw31.TangentTwice', WHERE WHAT IT READS IS OF BULK AT MOST 1048576: true; the input reads as it did. -/
def tangentTwiceUptoRow : OpenClaim := { program := "ytjmempcalaliiaagreatdoor", sum := "aff06b476d4cbb9bcc9e2cfd037050bda6e064d54201f998ab4e0465f1492a3a", func := "synoptic/synopticlaw31.TangentTwice", spec := "tangentTwice", unfollowed := true, recurses := true, named := ["synoptic/place.corners"], plainKeys := false, apart := false, laid := [("synoptic/place.corners", laid_synoptic_place_corners)], narrowed := true }
def TangentTwiceUptoSaid : Prop := tangentTwiceUptoRow.holds Tryz.pinned (OpenSpec.upto tangentTwiceSpec)

/-- 'synopticlaw32.AdjointSensitivity', WHERE WHAT IT READS IS OF BULK AT MOST 1048576: true; the input reads as it did. -/
def adjointSensitivityUptoRow : OpenClaim := { program := "ytjmempcalaliiaagreatdoor", sum := "aff06b476d4cbb9bcc9e2cfd037050bda6e064d54201f998ab4e0465f1492a3a", func := "synoptic/synopticlaw32.AdjointSensitivity", spec := "adjointSensitivity", inPlace := ["math/bits.Add64"], unfollowed := true, recurses := true, named := ["synoptic/place.corners"], plainKeys := false, apart := false, laid := [("synoptic/place.corners", laid_synoptic_place_corners)], narrowed := true }
def AdjointSensitivityUptoSaid : Prop := adjointSensitivityUptoRow.holds Tryz.pinned (OpenSpec.upto adjointSensitivitySpec)

/-- 'synopticlaw32.AdjointComposes', WHERE WHAT IT READS IS OF BULK AT MOST 1048576: true; the input reads as it did. -/
def adjointComposesUptoRow : OpenClaim := { program := "ytjmempcalaliiaagreatdoor", sum := "aff06b476d4cbb9bcc9e2cfd037050bda6e064d54201f998ab4e0465f1492a3a", func := "synoptic/synopticlaw32.AdjointComposes", spec := "adjointComposes", inPlace := ["math/bits.Add64"], unfollowed := true, recurses := true, named := ["synoptic/place.corners"], plainKeys := false, apart := false, laid := [("synoptic/place.corners", laid_synoptic_place_corners)], narrowed := true }
def AdjointComposesUptoSaid : Prop := adjointComposesUptoRow.holds Tryz.pinned (OpenSpec.upto adjointComposesSpec)

end Rows
end Go.Proofs.YtjmempcalaliiaaGreatDoor
