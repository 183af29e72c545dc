/-
  No cell of these rows narrows 'for every input' (looked for: loops, veiled, ifaces, maps, wideKeys, modest, calm, conditions, laid).
  DERIVED. THE GIVEN ROWS OF THIS SEAT. 6 by the template 'for every input the law returns true; each argument reads behind the call as it read before'; 0 by the template 'total and deterministic' (their statements: YtofalpngdbinbaaTotals.lean).
  GIVEN WITH THE SEED: the statements are not yours to turn. If you find one false, say at which input.
  Laid BY PROGRAM, IN A SANDBOX (cutbox-rows.mjs): the forced cells as the released guide's own fill.sh prints them over the translation db8f5052943250cb… (all of the seat's roots in one cut). By AI agents, Wed Nov 11 2026. No macro, syntax, notation, axiom, sorry.
-/
import Derived.Test.YtofalpngdbinbaaChecked
import GoSem.Claim
import GoSem.ClaimJoined
import GoSem.ClaimMapViews
import Derived.JoinedTies
import Derived.KernelRfl
namespace Go.Proofs.Ytofalpngdbinbaa
/- THE CELL 'sum', in the pinned program and in every row, IS THE sha256 OF THE DUMP (.gsa) THAT YtofalpngdbinbaaProg.lean LOADS. Nothing in Lean hashes anything: it is a label: what it is worth is what the hold of that sum in a sandbox is worth. -/
noncomputable def Try.pinned : Pinned := { name := "ytofalpngdbinbaa", sum := "db8f5052943250cb344eb30b029cd9c3cbef4a2c0721983f5166ddff2caec1fb", checked := Try.checked }
namespace Rows
def none {H : Type} : Left H := { results := [], args := [] }

/-- 'synopticlaw19.BlacklistKeeps': WHATEVER THE INPUT: true; the input reads as it did. -/
def blacklistKeepsSpec : ChangeSpec := { name := "blacklistKeeps", fn := fun _ => fun
  | [d] => { results := [.lit (.bool true)], args := [d] }
  | _ => none }
def blacklistKeepsRow : OpenClaim := { program := "ytofalpngdbinbaa", sum := "db8f5052943250cb344eb30b029cd9c3cbef4a2c0721983f5166ddff2caec1fb", func := "synoptic/synopticlaw19.BlacklistKeeps", spec := "blacklistKeeps", unfollowed := true, recurses := true, apart := false }
def BlacklistKeepsSaid : Prop := blacklistKeepsRow.holds Try.pinned (OpenSpec.ofChange blacklistKeepsSpec)

/-- ITS FALSE NEIGHBOUR: 'it returns false'. Refute it at one input. -/
def blacklistKeepsWrong : ChangeSpec := { name := "blacklistKeeps", fn := fun _ => fun
  | [d] => { results := [.lit (.bool false)], args := [d] }
  | _ => none }
def BlacklistKeepsWrongFalsely : Prop := blacklistKeepsRow.holds Try.pinned (OpenSpec.ofChange blacklistKeepsWrong)

/-- 'synopticlaw19.BlacklistForgets': WHATEVER THE INPUT: true; the input reads as it did. -/
def blacklistForgetsSpec : ChangeSpec := { name := "blacklistForgets", fn := fun _ => fun
  | [d] => { results := [.lit (.bool true)], args := [d] }
  | _ => none }
def blacklistForgetsRow : OpenClaim := { program := "ytofalpngdbinbaa", sum := "db8f5052943250cb344eb30b029cd9c3cbef4a2c0721983f5166ddff2caec1fb", func := "synoptic/synopticlaw19.BlacklistForgets", spec := "blacklistForgets", unfollowed := true, recurses := true, apart := false }
def BlacklistForgetsSaid : Prop := blacklistForgetsRow.holds Try.pinned (OpenSpec.ofChange blacklistForgetsSpec)

/-- ITS FALSE NEIGHBOUR: 'it returns false'. Refute it at one input. -/
def blacklistForgetsWrong : ChangeSpec := { name := "blacklistForgets", fn := fun _ => fun
  | [d] => { results := [.lit (.bool false)], args := [d] }
  | _ => none }
def BlacklistForgetsWrongFalsely : Prop := blacklistForgetsRow.holds Try.pinned (OpenSpec.ofChange blacklistForgetsWrong)

/-- 'synopticlaw19.BlacklistReturns': WHATEVER THE INPUT: true; the input reads as it did. -/
def blacklistReturnsSpec : ChangeSpec := { name := "blacklistReturns", fn := fun _ => fun
  | [d1, d2, d3, d4] => { results := [.lit (.bool true)], args := [d1, d2, d3, d4] }
  | _ => none }
def blacklistReturnsRow : OpenClaim := { program := "ytofalpngdbinbaa", sum := "db8f5052943250cb344eb30b029cd9c3cbef4a2c0721983f5166ddff2caec1fb", func := "synoptic/synopticlaw19.BlacklistReturns", spec := "blacklistReturns", unfollowed := true, recurses := true, apart := false }
def BlacklistReturnsSaid : Prop := blacklistReturnsRow.holds Try.pinned (OpenSpec.ofChange blacklistReturnsSpec)

/-- ITS FALSE NEIGHBOUR: 'it returns false'. Refute it at one input. -/
def blacklistReturnsWrong : ChangeSpec := { name := "blacklistReturns", fn := fun _ => fun
  | [d1, d2, d3, d4] => { results := [.lit (.bool false)], args := [d1, d2, d3, d4] }
  | _ => none }
def BlacklistReturnsWrongFalsely : Prop := blacklistReturnsRow.holds Try.pinned (OpenSpec.ofChange blacklistReturnsWrong)

/-- 'synopticlaw19.BlacklistMore': WHATEVER THE INPUT: true; the input reads as it did. -/
def blacklistMoreSpec : ChangeSpec := { name := "blacklistMore", fn := fun _ => fun
  | [d] => { results := [.lit (.bool true)], args := [d] }
  | _ => none }
def blacklistMoreRow : OpenClaim := { program := "ytofalpngdbinbaa", sum := "db8f5052943250cb344eb30b029cd9c3cbef4a2c0721983f5166ddff2caec1fb", func := "synoptic/synopticlaw19.BlacklistMore", spec := "blacklistMore", unfollowed := true, recurses := true, apart := false }
def BlacklistMoreSaid : Prop := blacklistMoreRow.holds Try.pinned (OpenSpec.ofChange blacklistMoreSpec)

/-- ITS FALSE NEIGHBOUR: 'it returns false'. Refute it at one input. -/
def blacklistMoreWrong : ChangeSpec := { name := "blacklistMore", fn := fun _ => fun
  | [d] => { results := [.lit (.bool false)], args := [d] }
  | _ => none }
def BlacklistMoreWrongFalsely : Prop := blacklistMoreRow.holds Try.pinned (OpenSpec.ofChange blacklistMoreWrong)

/-- 'synopticlaw19.BlacklistAlone': WHATEVER THE INPUT: true; the input reads as it did. -/
def blacklistAloneSpec : ChangeSpec := { name := "blacklistAlone", fn := fun _ => fun
  | [d] => { results := [.lit (.bool true)], args := [d] }
  | _ => none }
def blacklistAloneRow : OpenClaim := { program := "ytofalpngdbinbaa", sum := "db8f5052943250cb344eb30b029cd9c3cbef4a2c0721983f5166ddff2caec1fb", func := "synoptic/synopticlaw19.BlacklistAlone", spec := "blacklistAlone", unfollowed := true, recurses := true, apart := false }
def BlacklistAloneSaid : Prop := blacklistAloneRow.holds Try.pinned (OpenSpec.ofChange blacklistAloneSpec)

/-- ITS FALSE NEIGHBOUR: 'it returns false'. Refute it at one input. -/
def blacklistAloneWrong : ChangeSpec := { name := "blacklistAlone", fn := fun _ => fun
  | [d] => { results := [.lit (.bool false)], args := [d] }
  | _ => none }
def BlacklistAloneWrongFalsely : Prop := blacklistAloneRow.holds Try.pinned (OpenSpec.ofChange blacklistAloneWrong)

/-- 'synopticlaw19.BlacklistAnswers': WHATEVER THE INPUT: true; the input reads as it did. -/
def blacklistAnswersSpec : ChangeSpec := { name := "blacklistAnswers", fn := fun _ => fun
  | [d1, d2, d3, d4, d5] => { results := [.lit (.bool true)], args := [d1, d2, d3, d4, d5] }
  | _ => none }
def blacklistAnswersRow : OpenClaim := { program := "ytofalpngdbinbaa", sum := "db8f5052943250cb344eb30b029cd9c3cbef4a2c0721983f5166ddff2caec1fb", func := "synoptic/synopticlaw19.BlacklistAnswers", spec := "blacklistAnswers", unfollowed := true, recurses := true, apart := false }
def BlacklistAnswersSaid : Prop := blacklistAnswersRow.holds Try.pinned (OpenSpec.ofChange blacklistAnswersSpec)

/-- ITS FALSE NEIGHBOUR: 'it returns false'. Refute it at one input. -/
def blacklistAnswersWrong : ChangeSpec := { name := "blacklistAnswers", fn := fun _ => fun
  | [d1, d2, d3, d4, d5] => { results := [.lit (.bool false)], args := [d1, d2, d3, d4, d5] }
  | _ => none }
def BlacklistAnswersWrongFalsely : Prop := blacklistAnswersRow.holds Try.pinned (OpenSpec.ofChange blacklistAnswersWrong)

/- THE SECOND FORM. 'bulk': how many values and letters a reading holds, each counted each time it is reached (what is shared counts as often as it is met; a slice's spare places count too). A statement '..UptoSaid' is the law's where the arguments, and the package variables that the reading takes, are together of bulk at most 1048576: NARROWER than '..Said'. Prove '..Said' where nothing that the law and all that it calls make is longer than what came in: it says more and counts as full. Else prove '..UptoSaid'. A law counts once. -/
mutual
def uptoBulk {H : Type} : DataW H → Nat
  | .lit (.string bytes) => bytes.length + 1
  | .lit _ => 1
  | .nil => 1
  | .ptr d => uptoBulk d + 1
  | .slice elems spare => uptoBulkAll elems + uptoBulkAll spare + 1
  | .agg parts => uptoBulkAll parts + 1
  | .iface _ d => uptoBulk d + 1
  | .map entries => uptoBulkEntries entries + 1
  | .held _ => 1
def uptoBulkAll {H : Type} : List (DataW H) → Nat
  | [] => 0
  | d :: r => uptoBulk d + uptoBulkAll r
def uptoBulkEntries {H : Type} : List (Lit × DataW H) → Nat
  | [] => 0
  | x :: r => uptoBulkEntry x + uptoBulkEntries r
def uptoBulkEntry {H : Type} : Lit × DataW H → Nat
  | (.string bytes, d) => bytes.length + uptoBulk d + 1
  | (_, d) => uptoBulk d + 1
 end
def uptoSmall : (H : Type) → List (DataW H) → Bool := fun _ ds => decide (uptoBulkAll ds ≤ 1048576)
def OpenSpec.upto (s : _root_.Go.ChangeSpec) : _root_.Go.OpenSpec := { _root_.Go.OpenSpec.ofChange s with cond := some uptoSmall }

/-- 'synopticlaw19.BlacklistKeeps', WHERE WHAT IT READS IS OF BULK AT MOST 1048576: true; the input reads as it did. -/
def blacklistKeepsUptoRow : OpenClaim := { program := "ytofalpngdbinbaa", sum := "db8f5052943250cb344eb30b029cd9c3cbef4a2c0721983f5166ddff2caec1fb", func := "synoptic/synopticlaw19.BlacklistKeeps", spec := "blacklistKeeps", unfollowed := true, recurses := true, apart := false, narrowed := true }
def BlacklistKeepsUptoSaid : Prop := blacklistKeepsUptoRow.holds Try.pinned (OpenSpec.upto blacklistKeepsSpec)

/-- 'synopticlaw19.BlacklistForgets', WHERE WHAT IT READS IS OF BULK AT MOST 1048576: true; the input reads as it did. -/
def blacklistForgetsUptoRow : OpenClaim := { program := "ytofalpngdbinbaa", sum := "db8f5052943250cb344eb30b029cd9c3cbef4a2c0721983f5166ddff2caec1fb", func := "synoptic/synopticlaw19.BlacklistForgets", spec := "blacklistForgets", unfollowed := true, recurses := true, apart := false, narrowed := true }
def BlacklistForgetsUptoSaid : Prop := blacklistForgetsUptoRow.holds Try.pinned (OpenSpec.upto blacklistForgetsSpec)

/-- 'synopticlaw19.BlacklistReturns', WHERE WHAT IT READS IS OF BULK AT MOST 1048576: true; the input reads as it did. -/
def blacklistReturnsUptoRow : OpenClaim := { program := "ytofalpngdbinbaa", sum := "db8f5052943250cb344eb30b029cd9c3cbef4a2c0721983f5166ddff2caec1fb", func := "synoptic/synopticlaw19.BlacklistReturns", spec := "blacklistReturns", unfollowed := true, recurses := true, apart := false, narrowed := true }
def BlacklistReturnsUptoSaid : Prop := blacklistReturnsUptoRow.holds Try.pinned (OpenSpec.upto blacklistReturnsSpec)

/-- 'synopticlaw19.BlacklistMore', WHERE WHAT IT READS IS OF BULK AT MOST 1048576: true; the input reads as it did. -/
def blacklistMoreUptoRow : OpenClaim := { program := "ytofalpngdbinbaa", sum := "db8f5052943250cb344eb30b029cd9c3cbef4a2c0721983f5166ddff2caec1fb", func := "synoptic/synopticlaw19.BlacklistMore", spec := "blacklistMore", unfollowed := true, recurses := true, apart := false, narrowed := true }
def BlacklistMoreUptoSaid : Prop := blacklistMoreUptoRow.holds Try.pinned (OpenSpec.upto blacklistMoreSpec)

/-- 'synopticlaw19.BlacklistAlone', WHERE WHAT IT READS IS OF BULK AT MOST 1048576: true; the input reads as it did. -/
def blacklistAloneUptoRow : OpenClaim := { program := "ytofalpngdbinbaa", sum := "db8f5052943250cb344eb30b029cd9c3cbef4a2c0721983f5166ddff2caec1fb", func := "synoptic/synopticlaw19.BlacklistAlone", spec := "blacklistAlone", unfollowed := true, recurses := true, apart := false, narrowed := true }
def BlacklistAloneUptoSaid : Prop := blacklistAloneUptoRow.holds Try.pinned (OpenSpec.upto blacklistAloneSpec)

/-- 'synopticlaw19.BlacklistAnswers', WHERE WHAT IT READS IS OF BULK AT MOST 1048576: true; the input reads as it did. -/
def blacklistAnswersUptoRow : OpenClaim := { program := "ytofalpngdbinbaa", sum := "db8f5052943250cb344eb30b029cd9c3cbef4a2c0721983f5166ddff2caec1fb", func := "synoptic/synopticlaw19.BlacklistAnswers", spec := "blacklistAnswers", unfollowed := true, recurses := true, apart := false, narrowed := true }
def BlacklistAnswersUptoSaid : Prop := blacklistAnswersUptoRow.holds Try.pinned (OpenSpec.upto blacklistAnswersSpec)

end Rows
end Go.Proofs.Ytofalpngdbinbaa
