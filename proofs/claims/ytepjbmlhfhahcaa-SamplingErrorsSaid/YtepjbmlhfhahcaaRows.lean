/-
  No cell of these rows narrows 'for every input' (looked for: loops, veiled, ifaces, maps, wideKeys, modest, calm, conditions, laid).
  DERIVED. THE GIVEN ROWS OF THIS SEAT. 6 by the template 'for every input the law returns true; each argument reads behind the call as it read before'; 0 by the template 'total and deterministic' (their statements: YtepjbmlhfhahcaaTotals.lean).
  GIVEN WITH THE SEED: the statements are not yours to turn. If you find one false, say at which input.
  Laid BY PROGRAM, IN A SANDBOX (cutbox-rows.mjs): the forced cells as the released guide's own fill.sh prints them over the translation b5d6b0ad07c2e66c… (all of the seat's roots in one cut). By AI agents, Wed Nov 11 2026. No macro, syntax, notation, axiom, sorry.
-/
import Derived.Test.YtepjbmlhfhahcaaChecked
import GoSem.Claim
import GoSem.ClaimJoined
import GoSem.ClaimMapViews
import Derived.JoinedTies
import Derived.KernelRfl
namespace Go.Proofs.Ytepjbmlhfhahcaa
/- THE CELL 'sum', in the pinned program and in every row, IS THE sha256 OF THE DUMP (.gsa) THAT YtepjbmlhfhahcaaProg.lean LOADS. Nothing in Lean hashes anything: it is a label: what it is worth is what the hold of that sum in a sandbox is worth. -/
noncomputable def Try.pinned : Pinned := { name := "ytepjbmlhfhahcaa", sum := "b5d6b0ad07c2e66c158989234c740c949b51590bbff9b1a2644ff5e53a619151", checked := Try.checked }
namespace Rows
def none {H : Type} : Left H := { results := [], args := [] }

/-- 'synopticlaw39.SamplingExact': WHATEVER THE INPUT: true; the input reads as it did. -/
def samplingExactSpec : ChangeSpec := { name := "samplingExact", fn := fun _ => fun
  | [d] => { results := [.lit (.bool true)], args := [d] }
  | _ => none }
def samplingExactRow : OpenClaim := { program := "ytepjbmlhfhahcaa", sum := "b5d6b0ad07c2e66c158989234c740c949b51590bbff9b1a2644ff5e53a619151", func := "synoptic/synopticlaw39.SamplingExact", spec := "samplingExact", unfollowed := true, recurses := true, apart := false }
def SamplingExactSaid : Prop := samplingExactRow.holds Try.pinned (OpenSpec.ofChange samplingExactSpec)

/-- ITS FALSE NEIGHBOUR: 'it returns false'. Refute it at one input. -/
def samplingExactWrong : ChangeSpec := { name := "samplingExact", fn := fun _ => fun
  | [d] => { results := [.lit (.bool false)], args := [d] }
  | _ => none }
def SamplingExactWrongFalsely : Prop := samplingExactRow.holds Try.pinned (OpenSpec.ofChange samplingExactWrong)

/-- 'synopticlaw39.SamplingTests': WHATEVER THE INPUT: true; the input reads as it did. -/
def samplingTestsSpec : ChangeSpec := { name := "samplingTests", fn := fun _ => fun
  | [d1, d2, d3] => { results := [.lit (.bool true)], args := [d1, d2, d3] }
  | _ => none }
def samplingTestsRow : OpenClaim := { program := "ytepjbmlhfhahcaa", sum := "b5d6b0ad07c2e66c158989234c740c949b51590bbff9b1a2644ff5e53a619151", func := "synoptic/synopticlaw39.SamplingTests", spec := "samplingTests", unfollowed := true, recurses := true, apart := false }
def SamplingTestsSaid : Prop := samplingTestsRow.holds Try.pinned (OpenSpec.ofChange samplingTestsSpec)

/-- ITS FALSE NEIGHBOUR: 'it returns false'. Refute it at one input. -/
def samplingTestsWrong : ChangeSpec := { name := "samplingTests", fn := fun _ => fun
  | [d1, d2, d3] => { results := [.lit (.bool false)], args := [d1, d2, d3] }
  | _ => none }
def SamplingTestsWrongFalsely : Prop := samplingTestsRow.holds Try.pinned (OpenSpec.ofChange samplingTestsWrong)

/-- 'synopticlaw39.SamplingErrors': WHATEVER THE INPUT: true; the input reads as it did. -/
def samplingErrorsSpec : ChangeSpec := { name := "samplingErrors", fn := fun _ => fun
  | [d1, d2] => { results := [.lit (.bool true)], args := [d1, d2] }
  | _ => none }
def samplingErrorsRow : OpenClaim := { program := "ytepjbmlhfhahcaa", sum := "b5d6b0ad07c2e66c158989234c740c949b51590bbff9b1a2644ff5e53a619151", func := "synoptic/synopticlaw39.SamplingErrors", spec := "samplingErrors", unfollowed := true, recurses := true, apart := false }
def SamplingErrorsSaid : Prop := samplingErrorsRow.holds Try.pinned (OpenSpec.ofChange samplingErrorsSpec)

/-- ITS FALSE NEIGHBOUR: 'it returns false'. Refute it at one input. -/
def samplingErrorsWrong : ChangeSpec := { name := "samplingErrors", fn := fun _ => fun
  | [d1, d2] => { results := [.lit (.bool false)], args := [d1, d2] }
  | _ => none }
def SamplingErrorsWrongFalsely : Prop := samplingErrorsRow.holds Try.pinned (OpenSpec.ofChange samplingErrorsWrong)

/-- 'synopticlaw39.SamplingExchanges': WHATEVER THE INPUT: true; the input reads as it did. -/
def samplingExchangesSpec : ChangeSpec := { name := "samplingExchanges", fn := fun _ => fun
  | [d1, d2] => { results := [.lit (.bool true)], args := [d1, d2] }
  | _ => none }
def samplingExchangesRow : OpenClaim := { program := "ytepjbmlhfhahcaa", sum := "b5d6b0ad07c2e66c158989234c740c949b51590bbff9b1a2644ff5e53a619151", func := "synoptic/synopticlaw39.SamplingExchanges", spec := "samplingExchanges", unfollowed := true, recurses := true, apart := false }
def SamplingExchangesSaid : Prop := samplingExchangesRow.holds Try.pinned (OpenSpec.ofChange samplingExchangesSpec)

/-- ITS FALSE NEIGHBOUR: 'it returns false'. Refute it at one input. -/
def samplingExchangesWrong : ChangeSpec := { name := "samplingExchanges", fn := fun _ => fun
  | [d1, d2] => { results := [.lit (.bool false)], args := [d1, d2] }
  | _ => none }
def SamplingExchangesWrongFalsely : Prop := samplingExchangesRow.holds Try.pinned (OpenSpec.ofChange samplingExchangesWrong)

/-- 'synopticlaw39.SamplingIntervals': WHATEVER THE INPUT: true; the input reads as it did. -/
def samplingIntervalsSpec : ChangeSpec := { name := "samplingIntervals", fn := fun _ => fun
  | [d1, d2, d3, d4, d5] => { results := [.lit (.bool true)], args := [d1, d2, d3, d4, d5] }
  | _ => none }
def samplingIntervalsRow : OpenClaim := { program := "ytepjbmlhfhahcaa", sum := "b5d6b0ad07c2e66c158989234c740c949b51590bbff9b1a2644ff5e53a619151", func := "synoptic/synopticlaw39.SamplingIntervals", spec := "samplingIntervals", unfollowed := true, recurses := true, apart := false }
def SamplingIntervalsSaid : Prop := samplingIntervalsRow.holds Try.pinned (OpenSpec.ofChange samplingIntervalsSpec)

/-- ITS FALSE NEIGHBOUR: 'it returns false'. Refute it at one input. -/
def samplingIntervalsWrong : ChangeSpec := { name := "samplingIntervals", fn := fun _ => fun
  | [d1, d2, d3, d4, d5] => { results := [.lit (.bool false)], args := [d1, d2, d3, d4, d5] }
  | _ => none }
def SamplingIntervalsWrongFalsely : Prop := samplingIntervalsRow.holds Try.pinned (OpenSpec.ofChange samplingIntervalsWrong)

/-- 'synopticlaw39.SamplingCounts': WHATEVER THE INPUT: true; the input reads as it did. -/
def samplingCountsSpec : ChangeSpec := { name := "samplingCounts", fn := fun _ => fun
  | [d1, d2, d3, d4, d5] => { results := [.lit (.bool true)], args := [d1, d2, d3, d4, d5] }
  | _ => none }
def samplingCountsRow : OpenClaim := { program := "ytepjbmlhfhahcaa", sum := "b5d6b0ad07c2e66c158989234c740c949b51590bbff9b1a2644ff5e53a619151", func := "synoptic/synopticlaw39.SamplingCounts", spec := "samplingCounts", inPlace := ["math/bits.Add64"], unfollowed := true, recurses := true, apart := false }
def SamplingCountsSaid : Prop := samplingCountsRow.holds Try.pinned (OpenSpec.ofChange samplingCountsSpec)

/-- ITS FALSE NEIGHBOUR: 'it returns false'. Refute it at one input. -/
def samplingCountsWrong : ChangeSpec := { name := "samplingCounts", fn := fun _ => fun
  | [d1, d2, d3, d4, d5] => { results := [.lit (.bool false)], args := [d1, d2, d3, d4, d5] }
  | _ => none }
def SamplingCountsWrongFalsely : Prop := samplingCountsRow.holds Try.pinned (OpenSpec.ofChange samplingCountsWrong)

/- THE SECOND FORM. 'bulk': how many values and letters a reading holds, each counted each time it is reached (what is shared counts as often as it is met; a slice's spare places count too). A statement '..UptoSaid' is the law's where the arguments, and the package variables that the reading takes, are together of bulk at most 1048576: NARROWER than '..Said'. Prove '..Said' where nothing that the law and all that it calls make is longer than what came in: it says more and counts as full. Else prove '..UptoSaid'. A law counts once. -/
mutual
def uptoBulk {H : Type} : DataW H → Nat
  | .lit (.string bytes) => bytes.length + 1
  | .lit _ => 1
  | .nil => 1
  | .ptr d => uptoBulk d + 1
  | .slice elems spare => uptoBulkAll elems + uptoBulkAll spare + 1
  | .agg parts => uptoBulkAll parts + 1
  | .iface _ d => uptoBulk d + 1
  | .map entries => uptoBulkEntries entries + 1
  | .held _ => 1
def uptoBulkAll {H : Type} : List (DataW H) → Nat
  | [] => 0
  | d :: r => uptoBulk d + uptoBulkAll r
def uptoBulkEntries {H : Type} : List (Lit × DataW H) → Nat
  | [] => 0
  | x :: r => uptoBulkEntry x + uptoBulkEntries r
def uptoBulkEntry {H : Type} : Lit × DataW H → Nat
  | (.string bytes, d) => bytes.length + uptoBulk d + 1
  | (_, d) => uptoBulk d + 1
 end
def uptoSmall : (H : Type) → List (DataW H) → Bool := fun _ ds => decide (uptoBulkAll ds ≤ 1048576)
def OpenSpec.upto (s : _root_.Go.ChangeSpec) : _root_.Go.OpenSpec := { _root_.Go.OpenSpec.ofChange s with cond := some uptoSmall }

/-- 'synopticlaw39.SamplingExact', WHERE WHAT IT READS IS OF BULK AT MOST 1048576: true; the input reads as it did. -/
def samplingExactUptoRow : OpenClaim := { program := "ytepjbmlhfhahcaa", sum := "b5d6b0ad07c2e66c158989234c740c949b51590bbff9b1a2644ff5e53a619151", func := "synoptic/synopticlaw39.SamplingExact", spec := "samplingExact", unfollowed := true, recurses := true, apart := false, narrowed := true }
def SamplingExactUptoSaid : Prop := samplingExactUptoRow.holds Try.pinned (OpenSpec.upto samplingExactSpec)

/-- 'synopticlaw39.SamplingTests', WHERE WHAT IT READS IS OF BULK AT MOST 1048576: true; the input reads as it did. -/
def samplingTestsUptoRow : OpenClaim := { program := "ytepjbmlhfhahcaa", sum := "b5d6b0ad07c2e66c158989234c740c949b51590bbff9b1a2644ff5e53a619151", func := "synoptic/synopticlaw39.SamplingTests", spec := "samplingTests", unfollowed := true, recurses := true, apart := false, narrowed := true }
def SamplingTestsUptoSaid : Prop := samplingTestsUptoRow.holds Try.pinned (OpenSpec.upto samplingTestsSpec)

/-- 'synopticlaw39.SamplingErrors', WHERE WHAT IT READS IS OF BULK AT MOST 1048576: true; the input reads as it did. -/
def samplingErrorsUptoRow : OpenClaim := { program := "ytepjbmlhfhahcaa", sum := "b5d6b0ad07c2e66c158989234c740c949b51590bbff9b1a2644ff5e53a619151", func := "synoptic/synopticlaw39.SamplingErrors", spec := "samplingErrors", unfollowed := true, recurses := true, apart := false, narrowed := true }
def SamplingErrorsUptoSaid : Prop := samplingErrorsUptoRow.holds Try.pinned (OpenSpec.upto samplingErrorsSpec)

/-- 'synopticlaw39.SamplingExchanges', WHERE WHAT IT READS IS OF BULK AT MOST 1048576: true; the input reads as it did. -/
def samplingExchangesUptoRow : OpenClaim := { program := "ytepjbmlhfhahcaa", sum := "b5d6b0ad07c2e66c158989234c740c949b51590bbff9b1a2644ff5e53a619151", func := "synoptic/synopticlaw39.SamplingExchanges", spec := "samplingExchanges", unfollowed := true, recurses := true, apart := false, narrowed := true }
def SamplingExchangesUptoSaid : Prop := samplingExchangesUptoRow.holds Try.pinned (OpenSpec.upto samplingExchangesSpec)

/-- 'synopticlaw39.SamplingIntervals', WHERE WHAT IT READS IS OF BULK AT MOST 1048576: true; the input reads as it did. -/
def samplingIntervalsUptoRow : OpenClaim := { program := "ytepjbmlhfhahcaa", sum := "b5d6b0ad07c2e66c158989234c740c949b51590bbff9b1a2644ff5e53a619151", func := "synoptic/synopticlaw39.SamplingIntervals", spec := "samplingIntervals", unfollowed := true, recurses := true, apart := false, narrowed := true }
def SamplingIntervalsUptoSaid : Prop := samplingIntervalsUptoRow.holds Try.pinned (OpenSpec.upto samplingIntervalsSpec)

/-- 'synopticlaw39.SamplingCounts', WHERE WHAT IT READS IS OF BULK AT MOST 1048576: true; the input reads as it did. -/
def samplingCountsUptoRow : OpenClaim := { program := "ytepjbmlhfhahcaa", sum := "b5d6b0ad07c2e66c158989234c740c949b51590bbff9b1a2644ff5e53a619151", func := "synoptic/synopticlaw39.SamplingCounts", spec := "samplingCounts", inPlace := ["math/bits.Add64"], unfollowed := true, recurses := true, apart := false, narrowed := true }
def SamplingCountsUptoSaid : Prop := samplingCountsUptoRow.holds Try.pinned (OpenSpec.upto samplingCountsSpec)

end Rows
end Go.Proofs.Ytepjbmlhfhahcaa
