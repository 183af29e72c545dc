/- What is known of this program as a whole: contracts of the library, package-level tables. -/
import Derived.Test.YtepjbmlhfhahcaaRows
import Derived.Test.YtepjbmlhfhahcaaEq
import Derived.Test.YtepjbmlhfhahcaaJ6
import Derived.Test.YtepjbmlhfhahcaaJ5
import Derived.Test.YtepjbmlhfhahcaaShelf
import Derived.Laws.Externs
set_option linter.unusedVariables false
set_option linter.unusedSimpArgs false
namespace Go.Proofs.Ytepjbmlhfhahcaa
open Go Go.PM Go.ChangeShapes Go.WideShapes Go.ChangeAt Go.RowKit

theorem own : ownKnob Try.prog.godebug = none := by kernel_rfl
theorem laidOut : laidOutB Try.prog = true := by kernel_rfl
theorem mixed : Try.prog.follows .mixedOrders = true := by kernel_rfl
theorem addOk : ∀ f, prim.add = some f → AddAt Try.prog f := fun f h => by
  have h : some fn_bits_Add64 = some f := h
  cases h
  intro x y c w h1 h2 h3 h4
  show (callFunc 90 #[.int .u64 x, .int .u64 y, .int .u64 c]).run Try.prog w = _
  rw [run_callFunc_extern Try.func90 (by kernel_rfl) (by kernel_rfl) (by kernel_rfl) (e := add64Entry) (by kernel_rfl), run_add64 x y c h1 h2 h3 h4]
  rfl
theorem notNone {α : Type} {o : Option α} (h : o.isNone = false) : o ≠ none := fun e => by rw [e] at h; cases h
theorem primOk : PrimOk Try.prog prim := by
  refine ⟨?_, addOk⟩
  intro f g args objs out h1 h2
  have h1 : (bif Nat.beq f fn_slices_Sort_sint_int then some (sortP ty_int) else none) = some g := h1
  cases hq : Nat.beq f fn_slices_Sort_sint_int with
  | true =>
    have := Nat.eq_of_beq_eq_true hq
    subst this
    rw [hq] at h1
    cases h1
    exact ⟨sortP_ok Try.slices_Sort_int (fun w => Try.slices_Sort_int_none none 0 w) h2, Try.f63, Try.func63, notNone (by kernel_rfl), by kernel_rfl⟩
  | false =>
    rw [hq] at h1
    simp only [cf] at h1
    cases h1
theorem globOk0 (W : World) : GlobOk prim.glob W fun b _ => b < W.heap.size := fun g cs e => by cases e
end Go.Proofs.Ytepjbmlhfhahcaa
