/-
  NARROWER THAN 'FOR EVERY INPUT', by the rows' own cells (each row's printed sentence says how): ModelSteps: laid · ModelParts: laid · ModelConserves: laid · ModelRests: laid · ModelLocal: laid · ForecastThins: laid · ForecastResumes: laid · ForecastStores: laid · ForecastMakes: laid.
  DERIVED. THE GIVEN ROWS OF THIS SEAT. 9 by the template 'for every input the law returns true; each argument reads behind the call as it read before'; 0 by the template 'total and deterministic' (their statements: YtoaanfjcjbghaaaGreatDoorTotals.lean).
  GIVEN WITH THE SEED: the statements are not yours to turn. If you find one false, say at which input.
  Laid BY PROGRAM, IN A SANDBOX (cutbox-rows.mjs): the forced cells as the released guide's own fill.sh prints them over the translation cc6392a24a437d37… (all of the seat's roots in one cut). By AI agents, Wed Nov 11 2026. No macro, syntax, notation, axiom, sorry.
-/
import Derived.Test.YtoaanfjcjbghaaaGreatDoorChecked
import GoSem.Claim
import GoSem.ClaimJoined
import GoSem.ClaimMapViews
import Derived.JoinedTies
import Derived.KernelRfl
namespace Go.Proofs.YtoaanfjcjbghaaaGreatDoor
/- THE CELL 'sum', in the pinned program and in every row, IS THE sha256 OF THE DUMP (.gsa) THAT YtoaanfjcjbghaaaGreatDoorProg.lean LOADS. Nothing in Lean hashes anything: it is a label: what it is worth is what the hold of that sum in a sandbox is worth. -/
noncomputable def Tryz.pinned : Pinned := { name := "ytoaanfjcjbghaaagreatdoor", sum := "cc6392a24a437d37be5f46a677dc4c4d5b686c10b0be7eb11a316747c63a9ca9", checked := Tryz.checked }
namespace Rows
def none {H : Type} : Left H := { results := [], args := [] }

/- WHAT THE LISTED PACKAGE-LEVEL VARIABLES READ AS WHEN THE CALL BEGINS. Each datum BY PROGRAM (the guide's laid-datum.mjs) off the statement by which the dump's own 'gosem.cut.vars' lays the variable. In a bare row this is a premise. The card (YtoaanfjcjbghaaaGreatDoorCards.lean) ties it to the program's text. -/
def laid_synoptic_place_corners {H : Type} : DataW H := .agg [.agg [.lit (.int .i64 0), .lit (.int .i64 1), .lit (.int .i64 2)], .agg [.lit (.int .i64 0), .lit (.int .i64 2), .lit (.int .i64 3)], .agg [.lit (.int .i64 0), .lit (.int .i64 3), .lit (.int .i64 4)], .agg [.lit (.int .i64 0), .lit (.int .i64 4), .lit (.int .i64 5)], .agg [.lit (.int .i64 0), .lit (.int .i64 5), .lit (.int .i64 1)], .agg [.lit (.int .i64 1), .lit (.int .i64 6), .lit (.int .i64 2)], .agg [.lit (.int .i64 2), .lit (.int .i64 7), .lit (.int .i64 3)], .agg [.lit (.int .i64 3), .lit (.int .i64 8), .lit (.int .i64 4)], .agg [.lit (.int .i64 4), .lit (.int .i64 9), .lit (.int .i64 5)], .agg [.lit (.int .i64 5), .lit (.int .i64 10), .lit (.int .i64 1)], .agg [.lit (.int .i64 6), .lit (.int .i64 7), .lit (.int .i64 2)], .agg [.lit (.int .i64 7), .lit (.int .i64 8), .lit (.int .i64 3)], .agg [.lit (.int .i64 8), .lit (.int .i64 9), .lit (.int .i64 4)], .agg [.lit (.int .i64 9), .lit (.int .i64 10), .lit (.int .i64 5)], .agg [.lit (.int .i64 10), .lit (.int .i64 6), .lit (.int .i64 1)], .agg [.lit (.int .i64 11), .lit (.int .i64 7), .lit (.int .i64 6)], .agg [.lit (.int .i64 11), .lit (.int .i64 8), .lit (.int .i64 7)], .agg [.lit (.int .i64 11), .lit (.int .i64 9), .lit (.int .i64 8)], .agg [.lit (.int .i64 11), .lit (.int .i64 10), .lit (.int .i64 9)], .agg [.lit (.int .i64 11), .lit (.int .i64 6), .lit (.int .i64 10)]]

/-- 'synopticlaw30.ModelSteps': WHATEVER THE INPUT: true; the input reads as it did. -/
def modelStepsSpec : ChangeSpec := { name := "modelSteps", fn := fun _ => fun
  | [d1, d2, d3, d4, d5, d6] => { results := [.lit (.bool true)], args := [d1, d2, d3, d4, d5, d6] }
  | _ => none }
def modelStepsRow : OpenClaim := { program := "ytoaanfjcjbghaaagreatdoor", sum := "cc6392a24a437d37be5f46a677dc4c4d5b686c10b0be7eb11a316747c63a9ca9", func := "synoptic/synopticlaw30.ModelSteps", spec := "modelSteps", unfollowed := true, recurses := true, named := ["synoptic/place.corners"], plainKeys := false, apart := false, laid := [("synoptic/place.corners", laid_synoptic_place_corners)] }
def ModelStepsSaid : Prop := modelStepsRow.holds Tryz.pinned (OpenSpec.ofChange modelStepsSpec)

/-- ITS FALSE NEIGHBOUR: 'it returns false'. Refute it at one input. -/
def modelStepsWrong : ChangeSpec := { name := "modelSteps", fn := fun _ => fun
  | [d1, d2, d3, d4, d5, d6] => { results := [.lit (.bool false)], args := [d1, d2, d3, d4, d5, d6] }
  | _ => none }
def ModelStepsWrongFalsely : Prop := modelStepsRow.holds Tryz.pinned (OpenSpec.ofChange modelStepsWrong)

/-- 'synopticlaw30.ModelParts': WHATEVER THE INPUT: true; the input reads as it did. -/
def modelPartsSpec : ChangeSpec := { name := "modelParts", fn := fun _ => fun
  | [d1, d2, d3] => { results := [.lit (.bool true)], args := [d1, d2, d3] }
  | _ => none }
def modelPartsRow : OpenClaim := { program := "ytoaanfjcjbghaaagreatdoor", sum := "cc6392a24a437d37be5f46a677dc4c4d5b686c10b0be7eb11a316747c63a9ca9", func := "synoptic/synopticlaw30.ModelParts", spec := "modelParts", unfollowed := true, recurses := true, named := ["synoptic/place.corners"], plainKeys := false, apart := false, laid := [("synoptic/place.corners", laid_synoptic_place_corners)] }
def ModelPartsSaid : Prop := modelPartsRow.holds Tryz.pinned (OpenSpec.ofChange modelPartsSpec)

/-- ITS FALSE NEIGHBOUR: 'it returns false'. Refute it at one input. -/
def modelPartsWrong : ChangeSpec := { name := "modelParts", fn := fun _ => fun
  | [d1, d2, d3] => { results := [.lit (.bool false)], args := [d1, d2, d3] }
  | _ => none }
def ModelPartsWrongFalsely : Prop := modelPartsRow.holds Tryz.pinned (OpenSpec.ofChange modelPartsWrong)

/-- 'synopticlaw30.ModelConserves': WHATEVER THE INPUT: true; the input reads as it did. -/
def modelConservesSpec : ChangeSpec := { name := "modelConserves", fn := fun _ => fun
  | [d1, d2] => { results := [.lit (.bool true)], args := [d1, d2] }
  | _ => none }
def modelConservesRow : OpenClaim := { program := "ytoaanfjcjbghaaagreatdoor", sum := "cc6392a24a437d37be5f46a677dc4c4d5b686c10b0be7eb11a316747c63a9ca9", func := "synoptic/synopticlaw30.ModelConserves", spec := "modelConserves", unfollowed := true, recurses := true, named := ["synoptic/place.corners"], plainKeys := false, apart := false, laid := [("synoptic/place.corners", laid_synoptic_place_corners)] }
def ModelConservesSaid : Prop := modelConservesRow.holds Tryz.pinned (OpenSpec.ofChange modelConservesSpec)

/-- ITS FALSE NEIGHBOUR: 'it returns false'. Refute it at one input. -/
def modelConservesWrong : ChangeSpec := { name := "modelConserves", fn := fun _ => fun
  | [d1, d2] => { results := [.lit (.bool false)], args := [d1, d2] }
  | _ => none }
def ModelConservesWrongFalsely : Prop := modelConservesRow.holds Tryz.pinned (OpenSpec.ofChange modelConservesWrong)

/-- 'synopticlaw30.ModelRests': WHATEVER THE INPUT: true; the input reads as it did. -/
def modelRestsSpec : ChangeSpec := { name := "modelRests", fn := fun _ => fun
  | [d1, d2, d3] => { results := [.lit (.bool true)], args := [d1, d2, d3] }
  | _ => none }
def modelRestsRow : OpenClaim := { program := "ytoaanfjcjbghaaagreatdoor", sum := "cc6392a24a437d37be5f46a677dc4c4d5b686c10b0be7eb11a316747c63a9ca9", func := "synoptic/synopticlaw30.ModelRests", spec := "modelRests", unfollowed := true, recurses := true, named := ["synoptic/place.corners"], plainKeys := false, apart := false, laid := [("synoptic/place.corners", laid_synoptic_place_corners)] }
def ModelRestsSaid : Prop := modelRestsRow.holds Tryz.pinned (OpenSpec.ofChange modelRestsSpec)

/-- ITS FALSE NEIGHBOUR: 'it returns false'. Refute it at one input. -/
def modelRestsWrong : ChangeSpec := { name := "modelRests", fn := fun _ => fun
  | [d1, d2, d3] => { results := [.lit (.bool false)], args := [d1, d2, d3] }
  | _ => none }
def ModelRestsWrongFalsely : Prop := modelRestsRow.holds Tryz.pinned (OpenSpec.ofChange modelRestsWrong)

/-- 'synopticlaw30.ModelLocal': WHATEVER THE INPUT: true; the input reads as it did. -/
def modelLocalSpec : ChangeSpec := { name := "modelLocal", fn := fun _ => fun
  | [d1, d2] => { results := [.lit (.bool true)], args := [d1, d2] }
  | _ => none }
def modelLocalRow : OpenClaim := { program := "ytoaanfjcjbghaaagreatdoor", sum := "cc6392a24a437d37be5f46a677dc4c4d5b686c10b0be7eb11a316747c63a9ca9", func := "synoptic/synopticlaw30.ModelLocal", spec := "modelLocal", unfollowed := true, recurses := true, named := ["synoptic/place.corners"], plainKeys := false, apart := false, laid := [("synoptic/place.corners", laid_synoptic_place_corners)] }
def ModelLocalSaid : Prop := modelLocalRow.holds Tryz.pinned (OpenSpec.ofChange modelLocalSpec)

/-- ITS FALSE NEIGHBOUR: 'it returns false'. Refute it at one input. -/
def modelLocalWrong : ChangeSpec := { name := "modelLocal", fn := fun _ => fun
  | [d1, d2] => { results := [.lit (.bool false)], args := [d1, d2] }
  | _ => none }
def ModelLocalWrongFalsely : Prop := modelLocalRow.holds Tryz.pinned (OpenSpec.ofChange modelLocalWrong)

/-- 'synopticlaw33.ForecastThins': WHATEVER THE INPUT: true; the input reads as it did. -/
def forecastThinsSpec : ChangeSpec := { name := "forecastThins", fn := fun _ => fun
  | [d1, d2, d3] => { results := [.lit (.bool true)], args := [d1, d2, d3] }
  | _ => none }
def forecastThinsRow : OpenClaim := { program := "ytoaanfjcjbghaaagreatdoor", sum := "cc6392a24a437d37be5f46a677dc4c4d5b686c10b0be7eb11a316747c63a9ca9", func := "synoptic/synopticlaw33.ForecastThins", spec := "forecastThins", unfollowed := true, recurses := true, named := ["synoptic/place.corners"], plainKeys := false, apart := false, laid := [("synoptic/place.corners", laid_synoptic_place_corners)] }
def ForecastThinsSaid : Prop := forecastThinsRow.holds Tryz.pinned (OpenSpec.ofChange forecastThinsSpec)

/-- ITS FALSE NEIGHBOUR: 'it returns false'. Refute it at one input. -/
def forecastThinsWrong : ChangeSpec := { name := "forecastThins", fn := fun _ => fun
  | [d1, d2, d3] => { results := [.lit (.bool false)], args := [d1, d2, d3] }
  | _ => none }
def ForecastThinsWrongFalsely : Prop := forecastThinsRow.holds Tryz.pinned (OpenSpec.ofChange forecastThinsWrong)

/-- 'synopticlaw33.ForecastResumes': WHATEVER THE INPUT: true; the input reads as it did. -/
def forecastResumesSpec : ChangeSpec := { name := "forecastResumes", fn := fun _ => fun
  | [d1, d2, d3, d4] => { results := [.lit (.bool true)], args := [d1, d2, d3, d4] }
  | _ => none }
def forecastResumesRow : OpenClaim := { program := "ytoaanfjcjbghaaagreatdoor", sum := "cc6392a24a437d37be5f46a677dc4c4d5b686c10b0be7eb11a316747c63a9ca9", func := "synoptic/synopticlaw33.ForecastResumes", spec := "forecastResumes", unfollowed := true, recurses := true, named := ["synoptic/place.corners"], plainKeys := false, apart := false, laid := [("synoptic/place.corners", laid_synoptic_place_corners)] }
def ForecastResumesSaid : Prop := forecastResumesRow.holds Tryz.pinned (OpenSpec.ofChange forecastResumesSpec)

/-- ITS FALSE NEIGHBOUR: 'it returns false'. Refute it at one input. -/
def forecastResumesWrong : ChangeSpec := { name := "forecastResumes", fn := fun _ => fun
  | [d1, d2, d3, d4] => { results := [.lit (.bool false)], args := [d1, d2, d3, d4] }
  | _ => none }
def ForecastResumesWrongFalsely : Prop := forecastResumesRow.holds Tryz.pinned (OpenSpec.ofChange forecastResumesWrong)

/-- 'synopticlaw33.ForecastStores': WHATEVER THE INPUT: true; the input reads as it did. -/
def forecastStoresSpec : ChangeSpec := { name := "forecastStores", fn := fun _ => fun
  | [d1, d2, d3, d4] => { results := [.lit (.bool true)], args := [d1, d2, d3, d4] }
  | _ => none }
def forecastStoresRow : OpenClaim := { program := "ytoaanfjcjbghaaagreatdoor", sum := "cc6392a24a437d37be5f46a677dc4c4d5b686c10b0be7eb11a316747c63a9ca9", func := "synoptic/synopticlaw33.ForecastStores", spec := "forecastStores", unfollowed := true, recurses := true, named := ["synoptic/place.corners"], plainKeys := false, apart := false, laid := [("synoptic/place.corners", laid_synoptic_place_corners)] }
def ForecastStoresSaid : Prop := forecastStoresRow.holds Tryz.pinned (OpenSpec.ofChange forecastStoresSpec)

/-- ITS FALSE NEIGHBOUR: 'it returns false'. Refute it at one input. -/
def forecastStoresWrong : ChangeSpec := { name := "forecastStores", fn := fun _ => fun
  | [d1, d2, d3, d4] => { results := [.lit (.bool false)], args := [d1, d2, d3, d4] }
  | _ => none }
def ForecastStoresWrongFalsely : Prop := forecastStoresRow.holds Tryz.pinned (OpenSpec.ofChange forecastStoresWrong)

/-- 'synopticlaw33.ForecastMakes': WHATEVER THE INPUT: true; the input reads as it did. -/
def forecastMakesSpec : ChangeSpec := { name := "forecastMakes", fn := fun _ => fun
  | [d1, d2, d3, d4] => { results := [.lit (.bool true)], args := [d1, d2, d3, d4] }
  | _ => none }
def forecastMakesRow : OpenClaim := { program := "ytoaanfjcjbghaaagreatdoor", sum := "cc6392a24a437d37be5f46a677dc4c4d5b686c10b0be7eb11a316747c63a9ca9", func := "synoptic/synopticlaw33.ForecastMakes", spec := "forecastMakes", unfollowed := true, recurses := true, named := ["synoptic/place.corners"], plainKeys := false, apart := false, laid := [("synoptic/place.corners", laid_synoptic_place_corners)] }
def ForecastMakesSaid : Prop := forecastMakesRow.holds Tryz.pinned (OpenSpec.ofChange forecastMakesSpec)

/-- ITS FALSE NEIGHBOUR: 'it returns false'. Refute it at one input. -/
def forecastMakesWrong : ChangeSpec := { name := "forecastMakes", fn := fun _ => fun
  | [d1, d2, d3, d4] => { results := [.lit (.bool false)], args := [d1, d2, d3, d4] }
  | _ => none }
def ForecastMakesWrongFalsely : Prop := forecastMakesRow.holds Tryz.pinned (OpenSpec.ofChange forecastMakesWrong)

/- THE SECOND FORM. 'bulk': how many values and letters a reading holds, each counted each time it is reached (what is shared counts as often as it is met; a slice's spare places count too). A statement '..UptoSaid' is the law's where the arguments, and the package variables that the reading takes, are together of bulk at most 1048576: NARROWER than '..Said'. Prove '..Said' where nothing that the law and all that it calls make is longer than what came in: it says more and counts as full. Else prove '..UptoSaid'. A law counts once. -/
mutual
def uptoBulk {H : Type} : DataW H → Nat
  | .lit (.string bytes) => bytes.length + 1
  | .lit _ => 1
  | .nil => 1
  | .ptr d => uptoBulk d + 1
  | .slice elems spare => uptoBulkAll elems + uptoBulkAll spare + 1
  | .agg parts => uptoBulkAll parts + 1
  | .iface _ d => uptoBulk d + 1
  | .map entries => uptoBulkEntries entries + 1
  | .held _ => 1
def uptoBulkAll {H : Type} : List (DataW H) → Nat
  | [] => 0
  | d :: r => uptoBulk d + uptoBulkAll r
def uptoBulkEntries {H : Type} : List (Lit × DataW H) → Nat
  | [] => 0
  | x :: r => uptoBulkEntry x + uptoBulkEntries r
def uptoBulkEntry {H : Type} : Lit × DataW H → Nat
  | (.string bytes, d) => bytes.length + uptoBulk d + 1
  | (_, d) => uptoBulk d + 1
 end
def uptoSmall : (H : Type) → List (DataW H) → Bool := fun _ ds => decide (uptoBulkAll ds ≤ 1048576)
def OpenSpec.upto (s : _root_.Go.ChangeSpec) : _root_.Go.OpenSpec := { _root_.Go.OpenSpec.ofChange s with cond := some uptoSmall }

/-- 'synopticlaw30.ModelSteps', WHERE WHAT IT READS IS OF BULK AT MOST 1048576: true; the input reads as it did. -/
def modelStepsUptoRow : OpenClaim := { program := "ytoaanfjcjbghaaagreatdoor", sum := "cc6392a24a437d37be5f46a677dc4c4d5b686c10b0be7eb11a316747c63a9ca9", func := "synoptic/synopticlaw30.ModelSteps", spec := "modelSteps", unfollowed := true, recurses := true, named := ["synoptic/place.corners"], plainKeys := false, apart := false, laid := [("synoptic/place.corners", laid_synoptic_place_corners)], narrowed := true }
def ModelStepsUptoSaid : Prop := modelStepsUptoRow.holds Tryz.pinned (OpenSpec.upto modelStepsSpec)

/-- 'synopticlaw30.ModelParts', WHERE WHAT IT READS IS OF BULK AT MOST 1048576: true; the input reads as it did. -/
def modelPartsUptoRow : OpenClaim := { program := "ytoaanfjcjbghaaagreatdoor", sum := "cc6392a24a437d37be5f46a677dc4c4d5b686c10b0be7eb11a316747c63a9ca9", func := "synoptic/synopticlaw30.ModelParts", spec := "modelParts", unfollowed := true, recurses := true, named := ["synoptic/place.corners"], plainKeys := false, apart := false, laid := [("synoptic/place.corners", laid_synoptic_place_corners)], narrowed := true }
def ModelPartsUptoSaid : Prop := modelPartsUptoRow.holds Tryz.pinned (OpenSpec.upto modelPartsSpec)

/-- 'synopticlaw30.ModelConserves', WHERE WHAT IT READS IS OF BULK AT MOST 1048576: true; the input reads as it did. -/
def modelConservesUptoRow : OpenClaim := { program := "ytoaanfjcjbghaaagreatdoor", sum := "cc6392a24a437d37be5f46a677dc4c4d5b686c10b0be7eb11a316747c63a9ca9", func := "synoptic/synopticlaw30.ModelConserves", spec := "modelConserves", unfollowed := true, recurses := true, named := ["synoptic/place.corners"], plainKeys := false, apart := false, laid := [("synoptic/place.corners", laid_synoptic_place_corners)], narrowed := true }
def ModelConservesUptoSaid : Prop := modelConservesUptoRow.holds Tryz.pinned (OpenSpec.upto modelConservesSpec)

/-- 'synopticlaw30.ModelRests', WHERE WHAT IT READS IS OF BULK AT MOST 1048576: true; the input reads as it did. -/
def modelRestsUptoRow : OpenClaim := { program := "ytoaanfjcjbghaaagreatdoor", sum := "cc6392a24a437d37be5f46a677dc4c4d5b686c10b0be7eb11a316747c63a9ca9", func := "synoptic/synopticlaw30.ModelRests", spec := "modelRests", unfollowed := true, recurses := true, named := ["synoptic/place.corners"], plainKeys := false, apart := false, laid := [("synoptic/place.corners", laid_synoptic_place_corners)], narrowed := true }
def ModelRestsUptoSaid : Prop := modelRestsUptoRow.holds Tryz.pinned (OpenSpec.upto modelRestsSpec)

/-- 'synopticlaw30.ModelLocal', WHERE WHAT IT READS IS OF BULK AT MOST 1048576: true; the input reads as it did. -/
def modelLocalUptoRow : OpenClaim := { program := "ytoaanfjcjbghaaagreatdoor", sum := "cc6392a24a437d37be5f46a677dc4c4d5b686c10b0be7eb11a316747c63a9ca9", func := "synoptic/synopticlaw30.ModelLocal", spec := "modelLocal", unfollowed := true, recurses := true, named := ["synoptic/place.corners"], plainKeys := false, apart := false, laid := [("synoptic/place.corners", laid_synoptic_place_corners)], narrowed := true }
def ModelLocalUptoSaid : Prop := modelLocalUptoRow.holds Tryz.pinned (OpenSpec.upto modelLocalSpec)

/-- 'synopticlaw33.ForecastThins', WHERE WHAT IT READS IS OF BULK AT MOST 1048576: true; the input reads as it did. -/
def forecastThinsUptoRow : OpenClaim := { program := "ytoaanfjcjbghaaagreatdoor", sum := "cc6392a24a437d37be5f46a677dc4c4d5b686c10b0be7eb11a316747c63a9ca9", func := "synoptic/synopticlaw33.ForecastThins", spec := "forecastThins", unfollowed := true, recurses := true, named := ["synoptic/place.corners"], plainKeys := false, apart := false, laid := [("synoptic/place.corners", laid_synoptic_place_corners)], narrowed := true }
def ForecastThinsUptoSaid : Prop := forecastThinsUptoRow.holds Tryz.pinned (OpenSpec.upto forecastThinsSpec)

/-- 'synopticlaw33.ForecastResumes', WHERE WHAT IT READS IS OF BULK AT MOST 1048576: true; the input reads as it did. -/
def forecastResumesUptoRow : OpenClaim := { program := "ytoaanfjcjbghaaagreatdoor", sum := "cc6392a24a437d37be5f46a677dc4c4d5b686c10b0be7eb11a316747c63a9ca9", func := "synoptic/synopticlaw33.ForecastResumes", spec := "forecastResumes", unfollowed := true, recurses := true, named := ["synoptic/place.corners"], plainKeys := false, apart := false, laid := [("synoptic/place.corners", laid_synoptic_place_corners)], narrowed := true }
def ForecastResumesUptoSaid : Prop := forecastResumesUptoRow.holds Tryz.pinned (OpenSpec.upto forecastResumesSpec)

/-- 'synopticlaw33.ForecastStores', WHERE WHAT IT READS IS OF BULK AT MOST 1048576: true; the input reads as it did. -/
def forecastStoresUptoRow : OpenClaim := { program := "ytoaanfjcjbghaaagreatdoor", sum := "cc6392a24a437d37be5f46a677dc4c4d5b686c10b0be7eb11a316747c63a9ca9", func := "synoptic/synopticlaw33.ForecastStores", spec := "forecastStores", unfollowed := true, recurses := true, named := ["synoptic/place.corners"], plainKeys := false, apart := false, laid := [("synoptic/place.corners", laid_synoptic_place_corners)], narrowed := true }
def ForecastStoresUptoSaid : Prop := forecastStoresUptoRow.holds Tryz.pinned (OpenSpec.upto forecastStoresSpec)

/-- 'synopticlaw33.ForecastMakes', WHERE WHAT IT READS IS OF BULK AT MOST 1048576: true; the input reads as it did. -/
def forecastMakesUptoRow : OpenClaim := { program := "ytoaanfjcjbghaaagreatdoor", sum := "cc6392a24a437d37be5f46a677dc4c4d5b686c10b0be7eb11a316747c63a9ca9", func := "synoptic/synopticlaw33.ForecastMakes", spec := "forecastMakes", unfollowed := true, recurses := true, named := ["synoptic/place.corners"], plainKeys := false, apart := false, laid := [("synoptic/place.corners", laid_synoptic_place_corners)], narrowed := true }
def ForecastMakesUptoSaid : Prop := forecastMakesUptoRow.holds Tryz.pinned (OpenSpec.upto forecastMakesSpec)

end Rows
end Go.Proofs.YtoaanfjcjbghaaaGreatDoor
