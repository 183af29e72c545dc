/-
  NARROWER THAN 'FOR EVERY INPUT', by the rows' own cells (each row's printed sentence says how): LimitsClean: laid · LimitsNarrow: laid · LimitsAlone: laid.
  DERIVED. THE GIVEN ROWS OF THIS SEAT. 3 by the template 'for every input the law returns true; each argument reads behind the call as it read before'; 0 by the template 'total and deterministic' (their statements: YtjdafdibghfdhaaDoorTotals.lean).
  GIVEN WITH THE SEED: the statements are not yours to turn. If you find one false, say at which input.
  Laid BY PROGRAM, IN A SANDBOX (cutbox-rows.mjs): the forced cells as the released guide's own fill.sh prints them over the translation 5c8122a5a5db9577… (all of the seat's roots in one cut). By AI agents, Wed Nov 11 2026. No macro, syntax, notation, axiom, sorry.
-/
import Derived.Test.YtjdafdibghfdhaaDoorChecked
import GoSem.Claim
import GoSem.ClaimJoined
import GoSem.ClaimMapViews
import Derived.JoinedTies
import Derived.KernelRfl
namespace Go.Proofs.YtjdafdibghfdhaaDoor
/- THE CELL 'sum', in the pinned program and in every row, IS THE sha256 OF THE DUMP (.gsa) THAT YtjdafdibghfdhaaDoorProg.lean LOADS. Nothing in Lean hashes anything: it is a label: what it is worth is what the hold of that sum in a sandbox is worth. -/
noncomputable def Tryd.pinned : Pinned := { name := "ytjdafdibghfdhaadoor", sum := "5c8122a5a5db95770e8711824b2b08911d77383e1f1a9c5bd5af75ba8420c8cb", checked := Tryd.checked }
namespace Rows
def none {H : Type} : Left H := { results := [], args := [] }

/- WHAT THE LISTED PACKAGE-LEVEL VARIABLES READ AS WHEN THE CALL BEGINS. Each datum BY PROGRAM (the guide's laid-datum.mjs) off the statement by which the dump's own 'gosem.cut.vars' lays the variable. In a bare row this is a premise. The card (YtjdafdibghfdhaaDoorCards.lean) ties it to the program's text. -/
def laid_synoptic_limits_bounds {H : Type} : DataW H := .agg [.agg [.lit (.int .i64 0), .lit (.int .i64 0)], .agg [.lit (.int .i64 8700), .lit (.int .i64 10850)], .agg [.lit (.int .i64 1830), .lit (.int .i64 3300)], .agg [.lit (.int .i64 1830), .lit (.int .i64 3100)], .agg [.lit (.int .i64 (-900)), .lit (.int .i64 900)], .agg [.lit (.int .i64 (-900)), .lit (.int .i64 900)], .agg [.lit (.int .i64 1000), .lit (.int .i64 1650)], .agg [.lit (.int .i64 2100), .lit (.int .i64 3150)], .agg [.lit (.int .i64 2500), .lit (.int .i64 3350)], .agg [.lit (.int .i64 2050), .lit (.int .i64 2950)], .agg [.lit (.int .i64 4700), .lit (.int .i64 6050)], .agg [.lit (.int .i64 2050), .lit (.int .i64 2850)]]

/-- 'synopticlaw14.LimitsClean': WHATEVER THE INPUT: true; the input reads as it did. -/
def limitsCleanSpec : ChangeSpec := { name := "limitsClean", fn := fun _ => fun
  | [d] => { results := [.lit (.bool true)], args := [d] }
  | _ => none }
def limitsCleanRow : OpenClaim := { program := "ytjdafdibghfdhaadoor", sum := "5c8122a5a5db95770e8711824b2b08911d77383e1f1a9c5bd5af75ba8420c8cb", func := "synoptic/synopticlaw14.LimitsClean", spec := "limitsClean", unfollowed := true, recurses := true, named := ["synoptic/limits.bounds"], apart := false, laid := [("synoptic/limits.bounds", laid_synoptic_limits_bounds)] }
def LimitsCleanSaid : Prop := limitsCleanRow.holds Tryd.pinned (OpenSpec.ofChange limitsCleanSpec)

/-- ITS FALSE NEIGHBOUR: 'it returns false'. Refute it at one input. -/
def limitsCleanWrong : ChangeSpec := { name := "limitsClean", fn := fun _ => fun
  | [d] => { results := [.lit (.bool false)], args := [d] }
  | _ => none }
def LimitsCleanWrongFalsely : Prop := limitsCleanRow.holds Tryd.pinned (OpenSpec.ofChange limitsCleanWrong)

/-- 'synopticlaw14.LimitsNarrow': WHATEVER THE INPUT: true; the input reads as it did. -/
def limitsNarrowSpec : ChangeSpec := { name := "limitsNarrow", fn := fun _ => fun
  | [d1, d2] => { results := [.lit (.bool true)], args := [d1, d2] }
  | _ => none }
def limitsNarrowRow : OpenClaim := { program := "ytjdafdibghfdhaadoor", sum := "5c8122a5a5db95770e8711824b2b08911d77383e1f1a9c5bd5af75ba8420c8cb", func := "synoptic/synopticlaw14.LimitsNarrow", spec := "limitsNarrow", unfollowed := true, recurses := true, named := ["synoptic/limits.bounds"], apart := false, laid := [("synoptic/limits.bounds", laid_synoptic_limits_bounds)] }
def LimitsNarrowSaid : Prop := limitsNarrowRow.holds Tryd.pinned (OpenSpec.ofChange limitsNarrowSpec)

/-- ITS FALSE NEIGHBOUR: 'it returns false'. Refute it at one input. -/
def limitsNarrowWrong : ChangeSpec := { name := "limitsNarrow", fn := fun _ => fun
  | [d1, d2] => { results := [.lit (.bool false)], args := [d1, d2] }
  | _ => none }
def LimitsNarrowWrongFalsely : Prop := limitsNarrowRow.holds Tryd.pinned (OpenSpec.ofChange limitsNarrowWrong)

/-- 'synopticlaw14.LimitsAlone': WHATEVER THE INPUT: true; the input reads as it did. -/
def limitsAloneSpec : ChangeSpec := { name := "limitsAlone", fn := fun _ => fun
  | [d] => { results := [.lit (.bool true)], args := [d] }
  | _ => none }
def limitsAloneRow : OpenClaim := { program := "ytjdafdibghfdhaadoor", sum := "5c8122a5a5db95770e8711824b2b08911d77383e1f1a9c5bd5af75ba8420c8cb", func := "synoptic/synopticlaw14.LimitsAlone", spec := "limitsAlone", unfollowed := true, recurses := true, named := ["synoptic/limits.bounds"], apart := false, laid := [("synoptic/limits.bounds", laid_synoptic_limits_bounds)] }
def LimitsAloneSaid : Prop := limitsAloneRow.holds Tryd.pinned (OpenSpec.ofChange limitsAloneSpec)

/-- ITS FALSE NEIGHBOUR: 'it returns false'. Refute it at one input. -/
def limitsAloneWrong : ChangeSpec := { name := "limitsAlone", fn := fun _ => fun
  | [d] => { results := [.lit (.bool false)], args := [d] }
  | _ => none }
def LimitsAloneWrongFalsely : Prop := limitsAloneRow.holds Tryd.pinned (OpenSpec.ofChange limitsAloneWrong)

/- THE SECOND FORM. 'bulk': how many values and letters a reading holds, each counted each time it is reached (what is shared counts as often as it is met; a slice's spare places count too). A statement '..UptoSaid' is the law's where the arguments, and the package variables that the reading takes, are together of bulk at most 1048576: NARROWER than '..Said'. Prove '..Said' where nothing that the law and all that it calls make is longer than what came in: it says more and counts as full. Else prove '..UptoSaid'. A law counts once. -/
mutual
def uptoBulk {H : Type} : DataW H → Nat
  | .lit (.string bytes) => bytes.length + 1
  | .lit _ => 1
  | .nil => 1
  | .ptr d => uptoBulk d + 1
  | .slice elems spare => uptoBulkAll elems + uptoBulkAll spare + 1
  | .agg parts => uptoBulkAll parts + 1
  | .iface _ d => uptoBulk d + 1
  | .map entries => uptoBulkEntries entries + 1
  | .held _ => 1
def uptoBulkAll {H : Type} : List (DataW H) → Nat
  | [] => 0
  | d :: r => uptoBulk d + uptoBulkAll r
def uptoBulkEntries {H : Type} : List (Lit × DataW H) → Nat
  | [] => 0
  | x :: r => uptoBulkEntry x + uptoBulkEntries r
def uptoBulkEntry {H : Type} : Lit × DataW H → Nat
  | (.string bytes, d) => bytes.length + uptoBulk d + 1
  | (_, d) => uptoBulk d + 1
 end
def uptoSmall : (H : Type) → List (DataW H) → Bool := fun _ ds => decide (uptoBulkAll ds ≤ 1048576)
def OpenSpec.upto (s : _root_.Go.ChangeSpec) : _root_.Go.OpenSpec := { _root_.Go.OpenSpec.ofChange s with cond := some uptoSmall }

/-- 'synopticlaw14.LimitsClean', WHERE WHAT IT READS IS OF BULK AT MOST 1048576: true; the input reads as it did. -/
def limitsCleanUptoRow : OpenClaim := { program := "ytjdafdibghfdhaadoor", sum := "5c8122a5a5db95770e8711824b2b08911d77383e1f1a9c5bd5af75ba8420c8cb", func := "synoptic/synopticlaw14.LimitsClean", spec := "limitsClean", unfollowed := true, recurses := true, named := ["synoptic/limits.bounds"], apart := false, laid := [("synoptic/limits.bounds", laid_synoptic_limits_bounds)], narrowed := true }
def LimitsCleanUptoSaid : Prop := limitsCleanUptoRow.holds Tryd.pinned (OpenSpec.upto limitsCleanSpec)

/-- 'synopticlaw14.LimitsNarrow', WHERE WHAT IT READS IS OF BULK AT MOST 1048576: true; the input reads as it did. -/
def limitsNarrowUptoRow : OpenClaim := { program := "ytjdafdibghfdhaadoor", sum := "5c8122a5a5db95770e8711824b2b08911d77383e1f1a9c5bd5af75ba8420c8cb", func := "synoptic/synopticlaw14.LimitsNarrow", spec := "limitsNarrow", unfollowed := true, recurses := true, named := ["synoptic/limits.bounds"], apart := false, laid := [("synoptic/limits.bounds", laid_synoptic_limits_bounds)], narrowed := true }
def LimitsNarrowUptoSaid : Prop := limitsNarrowUptoRow.holds Tryd.pinned (OpenSpec.upto limitsNarrowSpec)

/-- 'synopticlaw14.LimitsAlone', WHERE WHAT IT READS IS OF BULK AT MOST 1048576: true; the input reads as it did. -/
def limitsAloneUptoRow : OpenClaim := { program := "ytjdafdibghfdhaadoor", sum := "5c8122a5a5db95770e8711824b2b08911d77383e1f1a9c5bd5af75ba8420c8cb", func := "synoptic/synopticlaw14.LimitsAlone", spec := "limitsAlone", unfollowed := true, recurses := true, named := ["synoptic/limits.bounds"], apart := false, laid := [("synoptic/limits.bounds", laid_synoptic_limits_bounds)], narrowed := true }
def LimitsAloneUptoSaid : Prop := limitsAloneUptoRow.holds Tryd.pinned (OpenSpec.upto limitsAloneSpec)

end Rows
end Go.Proofs.YtjdafdibghfdhaaDoor
