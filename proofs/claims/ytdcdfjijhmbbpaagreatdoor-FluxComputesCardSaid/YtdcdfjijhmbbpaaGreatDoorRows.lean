/-
  NARROWER THAN 'FOR EVERY INPUT', by the rows' own cells (each row's printed sentence says how): FluxLimits: laid · FluxReverses: laid · FluxConserves: laid · FluxComputes: laid.
  DERIVED. THE GIVEN ROWS OF THIS SEAT. 4 by the template 'for every input the law returns true; each argument reads behind the call as it read before'; 0 by the template 'total and deterministic' (their statements: YtdcdfjijhmbbpaaGreatDoorTotals.lean).
  GIVEN WITH THE SEED: the statements are not yours to turn. If you find one false, say at which input.
  Laid BY PROGRAM, IN A SANDBOX (cutbox-rows.mjs): the forced cells as the released guide's own fill.sh prints them over the translation 3cc4246b6f4357e7… (all of the seat's roots in one cut). By AI agents, Wed Nov 11 2026. No macro, syntax, notation, axiom, sorry.
-/
import Derived.Test.YtdcdfjijhmbbpaaGreatDoorChecked
import GoSem.Claim
import GoSem.ClaimJoined
import GoSem.ClaimMapViews
import Derived.JoinedTies
import Derived.KernelRfl
namespace Go.Proofs.YtdcdfjijhmbbpaaGreatDoor
/- THE CELL 'sum', in the pinned program and in every row, IS THE sha256 OF THE DUMP (.gsa) THAT YtdcdfjijhmbbpaaGreatDoorProg.lean LOADS. Nothing in Lean hashes anything: it is a label: what it is worth is what the hold of that sum in a sandbox is worth. -/
noncomputable def Tryz.pinned : Pinned := { name := "ytdcdfjijhmbbpaagreatdoor", sum := "3cc4246b6f4357e7b053279d30f301c3fa2945b686aae59844f21bace2104c93", checked := Tryz.checked }
namespace Rows
def none {H : Type} : Left H := { results := [], args := [] }

/- WHAT THE LISTED PACKAGE-LEVEL VARIABLES READ AS WHEN THE CALL BEGINS. Each datum BY PROGRAM (the guide's laid-datum.mjs) off the statement by which the dump's own 'gosem.cut.vars' lays the variable. In a bare row this is a premise. The card (YtdcdfjijhmbbpaaGreatDoorCards.lean) ties it to the program's text. -/
def laid_synoptic_place_corners {H : Type} : DataW H := .agg [.agg [.lit (.int .i64 0), .lit (.int .i64 1), .lit (.int .i64 2)], .agg [.lit (.int .i64 0), .lit (.int .i64 2), .lit (.int .i64 3)], .agg [.lit (.int .i64 0), .lit (.int .i64 3), .lit (.int .i64 4)], .agg [.lit (.int .i64 0), .lit (.int .i64 4), .lit (.int .i64 5)], .agg [.lit (.int .i64 0), .lit (.int .i64 5), .lit (.int .i64 1)], .agg [.lit (.int .i64 1), .lit (.int .i64 6), .lit (.int .i64 2)], .agg [.lit (.int .i64 2), .lit (.int .i64 7), .lit (.int .i64 3)], .agg [.lit (.int .i64 3), .lit (.int .i64 8), .lit (.int .i64 4)], .agg [.lit (.int .i64 4), .lit (.int .i64 9), .lit (.int .i64 5)], .agg [.lit (.int .i64 5), .lit (.int .i64 10), .lit (.int .i64 1)], .agg [.lit (.int .i64 6), .lit (.int .i64 7), .lit (.int .i64 2)], .agg [.lit (.int .i64 7), .lit (.int .i64 8), .lit (.int .i64 3)], .agg [.lit (.int .i64 8), .lit (.int .i64 9), .lit (.int .i64 4)], .agg [.lit (.int .i64 9), .lit (.int .i64 10), .lit (.int .i64 5)], .agg [.lit (.int .i64 10), .lit (.int .i64 6), .lit (.int .i64 1)], .agg [.lit (.int .i64 11), .lit (.int .i64 7), .lit (.int .i64 6)], .agg [.lit (.int .i64 11), .lit (.int .i64 8), .lit (.int .i64 7)], .agg [.lit (.int .i64 11), .lit (.int .i64 9), .lit (.int .i64 8)], .agg [.lit (.int .i64 11), .lit (.int .i64 10), .lit (.int .i64 9)], .agg [.lit (.int .i64 11), .lit (.int .i64 6), .lit (.int .i64 10)]]

/-- 'synopticlaw29.FluxLimits': WHATEVER THE INPUT: true; the input reads as it did. -/
def fluxLimitsSpec : ChangeSpec := { name := "fluxLimits", fn := fun _ => fun
  | [d] => { results := [.lit (.bool true)], args := [d] }
  | _ => none }
def fluxLimitsRow : OpenClaim := { program := "ytdcdfjijhmbbpaagreatdoor", sum := "3cc4246b6f4357e7b053279d30f301c3fa2945b686aae59844f21bace2104c93", func := "synoptic/synopticlaw29.FluxLimits", spec := "fluxLimits", unfollowed := true, recurses := true, named := ["synoptic/place.corners"], plainKeys := false, apart := false, laid := [("synoptic/place.corners", laid_synoptic_place_corners)] }
def FluxLimitsSaid : Prop := fluxLimitsRow.holds Tryz.pinned (OpenSpec.ofChange fluxLimitsSpec)

/-- ITS FALSE NEIGHBOUR: 'it returns false'. Refute it at one input. -/
def fluxLimitsWrong : ChangeSpec := { name := "fluxLimits", fn := fun _ => fun
  | [d] => { results := [.lit (.bool false)], args := [d] }
  | _ => none }
def FluxLimitsWrongFalsely : Prop := fluxLimitsRow.holds Tryz.pinned (OpenSpec.ofChange fluxLimitsWrong)

/-- 'synopticlaw29.FluxReverses': WHATEVER THE INPUT: true; the input reads as it did. -/
def fluxReversesSpec : ChangeSpec := { name := "fluxReverses", fn := fun _ => fun
  | [d] => { results := [.lit (.bool true)], args := [d] }
  | _ => none }
def fluxReversesRow : OpenClaim := { program := "ytdcdfjijhmbbpaagreatdoor", sum := "3cc4246b6f4357e7b053279d30f301c3fa2945b686aae59844f21bace2104c93", func := "synoptic/synopticlaw29.FluxReverses", spec := "fluxReverses", unfollowed := true, recurses := true, named := ["synoptic/place.corners"], plainKeys := false, apart := false, laid := [("synoptic/place.corners", laid_synoptic_place_corners)] }
def FluxReversesSaid : Prop := fluxReversesRow.holds Tryz.pinned (OpenSpec.ofChange fluxReversesSpec)

/-- ITS FALSE NEIGHBOUR: 'it returns false'. Refute it at one input. -/
def fluxReversesWrong : ChangeSpec := { name := "fluxReverses", fn := fun _ => fun
  | [d] => { results := [.lit (.bool false)], args := [d] }
  | _ => none }
def FluxReversesWrongFalsely : Prop := fluxReversesRow.holds Tryz.pinned (OpenSpec.ofChange fluxReversesWrong)

/-- 'synopticlaw29.FluxConserves': WHATEVER THE INPUT: true; the input reads as it did. -/
def fluxConservesSpec : ChangeSpec := { name := "fluxConserves", fn := fun _ => fun
  | [d] => { results := [.lit (.bool true)], args := [d] }
  | _ => none }
def fluxConservesRow : OpenClaim := { program := "ytdcdfjijhmbbpaagreatdoor", sum := "3cc4246b6f4357e7b053279d30f301c3fa2945b686aae59844f21bace2104c93", func := "synoptic/synopticlaw29.FluxConserves", spec := "fluxConserves", unfollowed := true, recurses := true, named := ["synoptic/place.corners"], plainKeys := false, apart := false, laid := [("synoptic/place.corners", laid_synoptic_place_corners)] }
def FluxConservesSaid : Prop := fluxConservesRow.holds Tryz.pinned (OpenSpec.ofChange fluxConservesSpec)

/-- ITS FALSE NEIGHBOUR: 'it returns false'. Refute it at one input. -/
def fluxConservesWrong : ChangeSpec := { name := "fluxConserves", fn := fun _ => fun
  | [d] => { results := [.lit (.bool false)], args := [d] }
  | _ => none }
def FluxConservesWrongFalsely : Prop := fluxConservesRow.holds Tryz.pinned (OpenSpec.ofChange fluxConservesWrong)

/-- 'synopticlaw29.FluxComputes': WHATEVER THE INPUT: true; the input reads as it did. -/
def fluxComputesSpec : ChangeSpec := { name := "fluxComputes", fn := fun _ => fun
  | [d1, d2, d3, d4] => { results := [.lit (.bool true)], args := [d1, d2, d3, d4] }
  | _ => none }
def fluxComputesRow : OpenClaim := { program := "ytdcdfjijhmbbpaagreatdoor", sum := "3cc4246b6f4357e7b053279d30f301c3fa2945b686aae59844f21bace2104c93", func := "synoptic/synopticlaw29.FluxComputes", spec := "fluxComputes", unfollowed := true, recurses := true, named := ["synoptic/place.corners"], plainKeys := false, apart := false, laid := [("synoptic/place.corners", laid_synoptic_place_corners)] }
def FluxComputesSaid : Prop := fluxComputesRow.holds Tryz.pinned (OpenSpec.ofChange fluxComputesSpec)

/-- ITS FALSE NEIGHBOUR: 'it returns false'. Refute it at one input. -/
def fluxComputesWrong : ChangeSpec := { name := "fluxComputes", fn := fun _ => fun
  | [d1, d2, d3, d4] => { results := [.lit (.bool false)], args := [d1, d2, d3, d4] }
  | _ => none }
def FluxComputesWrongFalsely : Prop := fluxComputesRow.holds Tryz.pinned (OpenSpec.ofChange fluxComputesWrong)

/- THE SECOND FORM. 'bulk': how many values and letters a reading holds, each counted each time it is reached (what is shared counts as often as it is met; a slice's spare places count too). A statement '..UptoSaid' is the law's where the arguments, and the package variables that the reading takes, are together of bulk at most 1048576: NARROWER than '..Said'. Prove '..Said' where nothing that the law and all that it calls make is longer than what came in: it says more and counts as full. Else prove '..UptoSaid'. A law counts once. -/
mutual
def uptoBulk {H : Type} : DataW H → Nat
  | .lit (.string bytes) => bytes.length + 1
  | .lit _ => 1
  | .nil => 1
  | .ptr d => uptoBulk d + 1
  | .slice elems spare => uptoBulkAll elems + uptoBulkAll spare + 1
  | .agg parts => uptoBulkAll parts + 1
  | .iface _ d => uptoBulk d + 1
  | .map entries => uptoBulkEntries entries + 1
  | .held _ => 1
def uptoBulkAll {H : Type} : List (DataW H) → Nat
  | [] => 0
  | d :: r => uptoBulk d + uptoBulkAll r
def uptoBulkEntries {H : Type} : List (Lit × DataW H) → Nat
  | [] => 0
  | x :: r => uptoBulkEntry x + uptoBulkEntries r
def uptoBulkEntry {H : Type} : Lit × DataW H → Nat
  | (.string bytes, d) => bytes.length + uptoBulk d + 1
  | (_, d) => uptoBulk d + 1
 end
def uptoSmall : (H : Type) → List (DataW H) → Bool := fun _ ds => decide (uptoBulkAll ds ≤ 1048576)
def OpenSpec.upto (s : _root_.Go.ChangeSpec) : _root_.Go.OpenSpec := { _root_.Go.OpenSpec.ofChange s with cond := some uptoSmall }

/-- 'synopticlaw29.FluxLimits', WHERE WHAT IT READS IS OF BULK AT MOST 1048576: true; the input reads as it did. -/
def fluxLimitsUptoRow : OpenClaim := { program := "ytdcdfjijhmbbpaagreatdoor", sum := "3cc4246b6f4357e7b053279d30f301c3fa2945b686aae59844f21bace2104c93", func := "synoptic/synopticlaw29.FluxLimits", spec := "fluxLimits", unfollowed := true, recurses := true, named := ["synoptic/place.corners"], plainKeys := false, apart := false, laid := [("synoptic/place.corners", laid_synoptic_place_corners)], narrowed := true }
def FluxLimitsUptoSaid : Prop := fluxLimitsUptoRow.holds Tryz.pinned (OpenSpec.upto fluxLimitsSpec)

/-- 'synopticlaw29.FluxReverses', WHERE WHAT IT READS IS OF BULK AT MOST 1048576: true; the input reads as it did. -/
def fluxReversesUptoRow : OpenClaim := { program := "ytdcdfjijhmbbpaagreatdoor", sum := "3cc4246b6f4357e7b053279d30f301c3fa2945b686aae59844f21bace2104c93", func := "synoptic/synopticlaw29.FluxReverses", spec := "fluxReverses", unfollowed := true, recurses := true, named := ["synoptic/place.corners"], plainKeys := false, apart := false, laid := [("synoptic/place.corners", laid_synoptic_place_corners)], narrowed := true }
def FluxReversesUptoSaid : Prop := fluxReversesUptoRow.holds Tryz.pinned (OpenSpec.upto fluxReversesSpec)

/-- 'synopticlaw29.FluxConserves', WHERE WHAT IT READS IS OF BULK AT MOST 1048576: true; the input reads as it did. -/
def fluxConservesUptoRow : OpenClaim := { program := "ytdcdfjijhmbbpaagreatdoor", sum := "3cc4246b6f4357e7b053279d30f301c3fa2945b686aae59844f21bace2104c93", func := "synoptic/synopticlaw29.FluxConserves", spec := "fluxConserves", unfollowed := true, recurses := true, named := ["synoptic/place.corners"], plainKeys := false, apart := false, laid := [("synoptic/place.corners", laid_synoptic_place_corners)], narrowed := true }
def FluxConservesUptoSaid : Prop := fluxConservesUptoRow.holds Tryz.pinned (OpenSpec.upto fluxConservesSpec)

/-- 'synopticlaw29.FluxComputes', WHERE WHAT IT READS IS OF BULK AT MOST 1048576: true; the input reads as it did. -/
def fluxComputesUptoRow : OpenClaim := { program := "ytdcdfjijhmbbpaagreatdoor", sum := "3cc4246b6f4357e7b053279d30f301c3fa2945b686aae59844f21bace2104c93", func := "synoptic/synopticlaw29.FluxComputes", spec := "fluxComputes", unfollowed := true, recurses := true, named := ["synoptic/place.corners"], plainKeys := false, apart := false, laid := [("synoptic/place.corners", laid_synoptic_place_corners)], narrowed := true }
def FluxComputesUptoSaid : Prop := fluxComputesUptoRow.holds Tryz.pinned (OpenSpec.upto fluxComputesSpec)

end Rows
end Go.Proofs.YtdcdfjijhmbbpaaGreatDoor
