/-
  NARROWER THAN 'FOR EVERY INPUT', by the rows' own cells (each row's printed sentence says how): TimelineAnswers: laid · TimelineOrder: laid · TimelineCalm: laid · TimelineSpike: laid · TimelineShifted: laid · TimelineElements: laid.
  DERIVED. THE GIVEN ROWS OF THIS SEAT. 6 by the template 'for every input the law returns true; each argument reads behind the call as it read before'; 0 by the template 'total and deterministic' (their statements: YthblmpoheobcbaaDoorTotals.lean).
  GIVEN WITH THE SEED: the statements are not yours to turn. If you find one false, say at which input.
  Laid BY PROGRAM, IN A SANDBOX (cutbox-rows.mjs): the forced cells as the released guide's own fill.sh prints them over the translation 55d022b9f863231e… (all of the seat's roots in one cut). By AI agents, Wed Nov 11 2026. No macro, syntax, notation, axiom, sorry.
-/
import Derived.Test.YthblmpoheobcbaaDoorChecked
import GoSem.Claim
import GoSem.ClaimJoined
import GoSem.ClaimMapViews
import Derived.JoinedTies
import Derived.KernelRfl
namespace Go.Proofs.YthblmpoheobcbaaDoor
/- THE CELL 'sum', in the pinned program and in every row, IS THE sha256 OF THE DUMP (.gsa) THAT YthblmpoheobcbaaDoorProg.lean LOADS. Nothing in Lean hashes anything: it is a label: what it is worth is what the hold of that sum in a sandbox is worth. -/
noncomputable def Tryd.pinned : Pinned := { name := "ythblmpoheobcbaadoor", sum := "55d022b9f863231e22f8b032e8e499675984bd574a2d8bc678b4d416c3b3f700", checked := Tryd.checked }
namespace Rows
def none {H : Type} : Left H := { results := [], args := [] }

/- WHAT THE LISTED PACKAGE-LEVEL VARIABLES READ AS WHEN THE CALL BEGINS. Each datum BY PROGRAM (the guide's laid-datum.mjs) off the statement by which the dump's own 'gosem.cut.vars' lays the variable. In a bare row this is a premise. The card (YthblmpoheobcbaaDoorCards.lean) ties it to the program's text. -/
def laid_synoptic_element_bounds {H : Type} : DataW H := .agg [.agg [.lit (.int .i64 8000), .lit (.int .i64 11000)], .agg [.lit (.int .i64 1800), .lit (.int .i64 3300)], .agg [.lit (.int .i64 1800), .lit (.int .i64 3300)], .agg [.lit (.int .i64 (-1000)), .lit (.int .i64 1000)], .agg [.lit (.int .i64 (-1000)), .lit (.int .i64 1000)], .agg [.lit (.int .i64 900), .lit (.int .i64 1700)], .agg [.lit (.int .i64 2000), .lit (.int .i64 3200)], .agg [.lit (.int .i64 2400), .lit (.int .i64 3400)], .agg [.lit (.int .i64 2000), .lit (.int .i64 3000)], .agg [.lit (.int .i64 4400), .lit (.int .i64 6200)], .agg [.lit (.int .i64 2000), .lit (.int .i64 2900)]]

/-- 'synopticlaw16.TimelineAnswers': WHATEVER THE INPUT: true; the input reads as it did. -/
def timelineAnswersSpec : ChangeSpec := { name := "timelineAnswers", fn := fun _ => fun
  | [d1, d2, d3] => { results := [.lit (.bool true)], args := [d1, d2, d3] }
  | _ => none }
def timelineAnswersRow : OpenClaim := { program := "ythblmpoheobcbaadoor", sum := "55d022b9f863231e22f8b032e8e499675984bd574a2d8bc678b4d416c3b3f700", func := "synoptic/synopticlaw16.TimelineAnswers", spec := "timelineAnswers", unfollowed := true, recurses := true, named := ["synoptic/element.bounds"], plainKeys := false, apart := false, laid := [("synoptic/element.bounds", laid_synoptic_element_bounds)] }
def TimelineAnswersSaid : Prop := timelineAnswersRow.holds Tryd.pinned (OpenSpec.ofChange timelineAnswersSpec)

/-- ITS FALSE NEIGHBOUR: 'it returns false'. Refute it at one input. -/
def timelineAnswersWrong : ChangeSpec := { name := "timelineAnswers", fn := fun _ => fun
  | [d1, d2, d3] => { results := [.lit (.bool false)], args := [d1, d2, d3] }
  | _ => none }
def TimelineAnswersWrongFalsely : Prop := timelineAnswersRow.holds Tryd.pinned (OpenSpec.ofChange timelineAnswersWrong)

/-- 'synopticlaw16.TimelineOrder': WHATEVER THE INPUT: true; the input reads as it did. -/
def timelineOrderSpec : ChangeSpec := { name := "timelineOrder", fn := fun _ => fun
  | [d] => { results := [.lit (.bool true)], args := [d] }
  | _ => none }
def timelineOrderRow : OpenClaim := { program := "ythblmpoheobcbaadoor", sum := "55d022b9f863231e22f8b032e8e499675984bd574a2d8bc678b4d416c3b3f700", func := "synoptic/synopticlaw16.TimelineOrder", spec := "timelineOrder", unfollowed := true, recurses := true, named := ["synoptic/element.bounds"], plainKeys := false, apart := false, laid := [("synoptic/element.bounds", laid_synoptic_element_bounds)] }
def TimelineOrderSaid : Prop := timelineOrderRow.holds Tryd.pinned (OpenSpec.ofChange timelineOrderSpec)

/-- ITS FALSE NEIGHBOUR: 'it returns false'. Refute it at one input. -/
def timelineOrderWrong : ChangeSpec := { name := "timelineOrder", fn := fun _ => fun
  | [d] => { results := [.lit (.bool false)], args := [d] }
  | _ => none }
def TimelineOrderWrongFalsely : Prop := timelineOrderRow.holds Tryd.pinned (OpenSpec.ofChange timelineOrderWrong)

/-- 'synopticlaw16.TimelineCalm': WHATEVER THE INPUT: true; the input reads as it did. -/
def timelineCalmSpec : ChangeSpec := { name := "timelineCalm", fn := fun _ => fun
  | [d1, d2] => { results := [.lit (.bool true)], args := [d1, d2] }
  | _ => none }
def timelineCalmRow : OpenClaim := { program := "ythblmpoheobcbaadoor", sum := "55d022b9f863231e22f8b032e8e499675984bd574a2d8bc678b4d416c3b3f700", func := "synoptic/synopticlaw16.TimelineCalm", spec := "timelineCalm", unfollowed := true, recurses := true, named := ["synoptic/element.bounds"], plainKeys := false, apart := false, laid := [("synoptic/element.bounds", laid_synoptic_element_bounds)] }
def TimelineCalmSaid : Prop := timelineCalmRow.holds Tryd.pinned (OpenSpec.ofChange timelineCalmSpec)

/-- ITS FALSE NEIGHBOUR: 'it returns false'. Refute it at one input. -/
def timelineCalmWrong : ChangeSpec := { name := "timelineCalm", fn := fun _ => fun
  | [d1, d2] => { results := [.lit (.bool false)], args := [d1, d2] }
  | _ => none }
def TimelineCalmWrongFalsely : Prop := timelineCalmRow.holds Tryd.pinned (OpenSpec.ofChange timelineCalmWrong)

/-- 'synopticlaw16.TimelineSpike': WHATEVER THE INPUT: true; the input reads as it did. -/
def timelineSpikeSpec : ChangeSpec := { name := "timelineSpike", fn := fun _ => fun
  | [d1, d2] => { results := [.lit (.bool true)], args := [d1, d2] }
  | _ => none }
def timelineSpikeRow : OpenClaim := { program := "ythblmpoheobcbaadoor", sum := "55d022b9f863231e22f8b032e8e499675984bd574a2d8bc678b4d416c3b3f700", func := "synoptic/synopticlaw16.TimelineSpike", spec := "timelineSpike", unfollowed := true, recurses := true, named := ["synoptic/element.bounds"], plainKeys := false, apart := false, laid := [("synoptic/element.bounds", laid_synoptic_element_bounds)] }
def TimelineSpikeSaid : Prop := timelineSpikeRow.holds Tryd.pinned (OpenSpec.ofChange timelineSpikeSpec)

/-- ITS FALSE NEIGHBOUR: 'it returns false'. Refute it at one input. -/
def timelineSpikeWrong : ChangeSpec := { name := "timelineSpike", fn := fun _ => fun
  | [d1, d2] => { results := [.lit (.bool false)], args := [d1, d2] }
  | _ => none }
def TimelineSpikeWrongFalsely : Prop := timelineSpikeRow.holds Tryd.pinned (OpenSpec.ofChange timelineSpikeWrong)

/-- 'synopticlaw16.TimelineShifted': WHATEVER THE INPUT: true; the input reads as it did. -/
def timelineShiftedSpec : ChangeSpec := { name := "timelineShifted", fn := fun _ => fun
  | [d1, d2, d3] => { results := [.lit (.bool true)], args := [d1, d2, d3] }
  | _ => none }
def timelineShiftedRow : OpenClaim := { program := "ythblmpoheobcbaadoor", sum := "55d022b9f863231e22f8b032e8e499675984bd574a2d8bc678b4d416c3b3f700", func := "synoptic/synopticlaw16.TimelineShifted", spec := "timelineShifted", unfollowed := true, recurses := true, named := ["synoptic/element.bounds"], plainKeys := false, apart := false, laid := [("synoptic/element.bounds", laid_synoptic_element_bounds)] }
def TimelineShiftedSaid : Prop := timelineShiftedRow.holds Tryd.pinned (OpenSpec.ofChange timelineShiftedSpec)

/-- ITS FALSE NEIGHBOUR: 'it returns false'. Refute it at one input. -/
def timelineShiftedWrong : ChangeSpec := { name := "timelineShifted", fn := fun _ => fun
  | [d1, d2, d3] => { results := [.lit (.bool false)], args := [d1, d2, d3] }
  | _ => none }
def TimelineShiftedWrongFalsely : Prop := timelineShiftedRow.holds Tryd.pinned (OpenSpec.ofChange timelineShiftedWrong)

/-- 'synopticlaw16.TimelineElements': WHATEVER THE INPUT: true; the input reads as it did. -/
def timelineElementsSpec : ChangeSpec := { name := "timelineElements", fn := fun _ => fun
  | [d1, d2] => { results := [.lit (.bool true)], args := [d1, d2] }
  | _ => none }
def timelineElementsRow : OpenClaim := { program := "ythblmpoheobcbaadoor", sum := "55d022b9f863231e22f8b032e8e499675984bd574a2d8bc678b4d416c3b3f700", func := "synoptic/synopticlaw16.TimelineElements", spec := "timelineElements", unfollowed := true, recurses := true, named := ["synoptic/element.bounds"], plainKeys := false, apart := false, laid := [("synoptic/element.bounds", laid_synoptic_element_bounds)] }
def TimelineElementsSaid : Prop := timelineElementsRow.holds Tryd.pinned (OpenSpec.ofChange timelineElementsSpec)

/-- ITS FALSE NEIGHBOUR: 'it returns false'. Refute it at one input. -/
def timelineElementsWrong : ChangeSpec := { name := "timelineElements", fn := fun _ => fun
  | [d1, d2] => { results := [.lit (.bool false)], args := [d1, d2] }
  | _ => none }
def TimelineElementsWrongFalsely : Prop := timelineElementsRow.holds Tryd.pinned (OpenSpec.ofChange timelineElementsWrong)

/- THE SECOND FORM. 'bulk': how many values and letters a reading holds, each counted each time it is reached (what is shared counts as often as it is met; a slice's spare places count too). A statement '..UptoSaid' is the law's where the arguments, and the package variables that the reading takes, are together of bulk at most 1048576: NARROWER than '..Said'. Prove '..Said' where nothing that the law and all that it calls make is longer than what came in: it says more and counts as full. Else prove '..UptoSaid'. A law counts once. -/
mutual
def uptoBulk {H : Type} : DataW H → Nat
  | .lit (.string bytes) => bytes.length + 1
  | .lit _ => 1
  | .nil => 1
  | .ptr d => uptoBulk d + 1
  | .slice elems spare => uptoBulkAll elems + uptoBulkAll spare + 1
  | .agg parts => uptoBulkAll parts + 1
  | .iface _ d => uptoBulk d + 1
  | .map entries => uptoBulkEntries entries + 1
  | .held _ => 1
def uptoBulkAll {H : Type} : List (DataW H) → Nat
  | [] => 0
  | d :: r => uptoBulk d + uptoBulkAll r
def uptoBulkEntries {H : Type} : List (Lit × DataW H) → Nat
  | [] => 0
  | x :: r => uptoBulkEntry x + uptoBulkEntries r
def uptoBulkEntry {H : Type} : Lit × DataW H → Nat
  | (.string bytes, d) => bytes.length + uptoBulk d + 1
  | (_, d) => uptoBulk d + 1
 end
def uptoSmall : (H : Type) → List (DataW H) → Bool := fun _ ds => decide (uptoBulkAll ds ≤ 1048576)
def OpenSpec.upto (s : _root_.Go.ChangeSpec) : _root_.Go.OpenSpec := { _root_.Go.OpenSpec.ofChange s with cond := some uptoSmall }

/-- 'synopticlaw16.TimelineAnswers', WHERE WHAT IT READS IS OF BULK AT MOST 1048576: true; the input reads as it did. -/
def timelineAnswersUptoRow : OpenClaim := { program := "ythblmpoheobcbaadoor", sum := "55d022b9f863231e22f8b032e8e499675984bd574a2d8bc678b4d416c3b3f700", func := "synoptic/synopticlaw16.TimelineAnswers", spec := "timelineAnswers", unfollowed := true, recurses := true, named := ["synoptic/element.bounds"], plainKeys := false, apart := false, laid := [("synoptic/element.bounds", laid_synoptic_element_bounds)], narrowed := true }
def TimelineAnswersUptoSaid : Prop := timelineAnswersUptoRow.holds Tryd.pinned (OpenSpec.upto timelineAnswersSpec)

/-- 'synopticlaw16.TimelineOrder', WHERE WHAT IT READS IS OF BULK AT MOST 1048576: true; the input reads as it did. -/
def timelineOrderUptoRow : OpenClaim := { program := "ythblmpoheobcbaadoor", sum := "55d022b9f863231e22f8b032e8e499675984bd574a2d8bc678b4d416c3b3f700", func := "synoptic/synopticlaw16.TimelineOrder", spec := "timelineOrder", unfollowed := true, recurses := true, named := ["synoptic/element.bounds"], plainKeys := false, apart := false, laid := [("synoptic/element.bounds", laid_synoptic_element_bounds)], narrowed := true }
def TimelineOrderUptoSaid : Prop := timelineOrderUptoRow.holds Tryd.pinned (OpenSpec.upto timelineOrderSpec)

/-- 'synopticlaw16.TimelineCalm', WHERE WHAT IT READS IS OF BULK AT MOST 1048576: true; the input reads as it did. -/
def timelineCalmUptoRow : OpenClaim := { program := "ythblmpoheobcbaadoor", sum := "55d022b9f863231e22f8b032e8e499675984bd574a2d8bc678b4d416c3b3f700", func := "synoptic/synopticlaw16.TimelineCalm", spec := "timelineCalm", unfollowed := true, recurses := true, named := ["synoptic/element.bounds"], plainKeys := false, apart := false, laid := [("synoptic/element.bounds", laid_synoptic_element_bounds)], narrowed := true }
def TimelineCalmUptoSaid : Prop := timelineCalmUptoRow.holds Tryd.pinned (OpenSpec.upto timelineCalmSpec)

/-- 'synopticlaw16.TimelineSpike', WHERE WHAT IT READS IS OF BULK AT MOST 1048576: true; the input reads as it did. -/
def timelineSpikeUptoRow : OpenClaim := { program := "ythblmpoheobcbaadoor", sum := "55d022b9f863231e22f8b032e8e499675984bd574a2d8bc678b4d416c3b3f700", func := "synoptic/synopticlaw16.TimelineSpike", spec := "timelineSpike", unfollowed := true, recurses := true, named := ["synoptic/element.bounds"], plainKeys := false, apart := false, laid := [("synoptic/element.bounds", laid_synoptic_element_bounds)], narrowed := true }
def TimelineSpikeUptoSaid : Prop := timelineSpikeUptoRow.holds Tryd.pinned (OpenSpec.upto timelineSpikeSpec)

/-- 'synopticlaw16.TimelineShifted', WHERE WHAT IT READS IS OF BULK AT MOST 1048576: true; the input reads as it did. -/
def timelineShiftedUptoRow : OpenClaim := { program := "ythblmpoheobcbaadoor", sum := "55d022b9f863231e22f8b032e8e499675984bd574a2d8bc678b4d416c3b3f700", func := "synoptic/synopticlaw16.TimelineShifted", spec := "timelineShifted", unfollowed := true, recurses := true, named := ["synoptic/element.bounds"], plainKeys := false, apart := false, laid := [("synoptic/element.bounds", laid_synoptic_element_bounds)], narrowed := true }
def TimelineShiftedUptoSaid : Prop := timelineShiftedUptoRow.holds Tryd.pinned (OpenSpec.upto timelineShiftedSpec)

/-- 'synopticlaw16.TimelineElements', WHERE WHAT IT READS IS OF BULK AT MOST 1048576: true; the input reads as it did. -/
def timelineElementsUptoRow : OpenClaim := { program := "ythblmpoheobcbaadoor", sum := "55d022b9f863231e22f8b032e8e499675984bd574a2d8bc678b4d416c3b3f700", func := "synoptic/synopticlaw16.TimelineElements", spec := "timelineElements", unfollowed := true, recurses := true, named := ["synoptic/element.bounds"], plainKeys := false, apart := false, laid := [("synoptic/element.bounds", laid_synoptic_element_bounds)], narrowed := true }
def TimelineElementsUptoSaid : Prop := timelineElementsUptoRow.holds Tryd.pinned (OpenSpec.upto timelineElementsSpec)

end Rows
end Go.Proofs.YthblmpoheobcbaaDoor
