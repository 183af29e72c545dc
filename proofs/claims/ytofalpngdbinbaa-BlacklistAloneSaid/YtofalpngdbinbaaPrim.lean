/- What is known of this program as a whole: contracts of the library, package-level tables. -/
import Derived.Test.YtofalpngdbinbaaRows
import Derived.Test.YtofalpngdbinbaaEq
import Derived.Test.YtofalpngdbinbaaJ6
import Derived.Test.YtofalpngdbinbaaJ4
import Derived.Test.YtofalpngdbinbaaShelf
set_option linter.unusedVariables false
set_option linter.unusedSimpArgs false
namespace Go.Proofs.Ytofalpngdbinbaa
open Go Go.PM Go.ChangeShapes Go.WideShapes Go.ChangeAt Go.RowKit

theorem own : ownKnob Try.prog.godebug = none := by kernel_rfl
theorem laidOut : laidOutB Try.prog = true := by kernel_rfl
theorem mixed : Try.prog.follows .mixedOrders = true := by kernel_rfl
theorem iterOk0 (fu : Nat) : IterOk Try.prog prim laid fu := fun d f caps xs h => by cases h
theorem notNone {α : Type} {o : Option α} (h : o.isNone = false) : o ≠ none := fun e => by rw [e] at h; cases h
theorem primOk : PrimOk Try.prog prim := by
  intro f g args objs out h1 h2
  have h1 : (bif Nat.beq f fn_slices_Sorted_string then some (sortedP 62) else bif Nat.beq f fn_maps_Keys_map_string_api_Count_string_api_Count then some (keysP 62) else bif Nat.beq f fn_strings_ContainsFunc then some (containsP 66 oddRune) else none) = some g := h1
  cases hq : Nat.beq f fn_slices_Sorted_string with
  | true =>
    have := Nat.eq_of_beq_eq_true hq
    subst this
    rw [hq] at h1
    cases h1
    exact ⟨sortedP_ok stringT sortedC h2, Try.f34, Try.func34, notNone (by kernel_rfl), by kernel_rfl⟩
  | false =>
    rw [hq] at h1
    simp only [cf] at h1
    cases hq : Nat.beq f fn_maps_Keys_map_string_api_Count_string_api_Count with
    | true =>
      have := Nat.eq_of_beq_eq_true hq
      subst this
      rw [hq] at h1
      cases h1
      exact ⟨keysP_ok keysC h2, Try.f35, Try.func35, notNone (by kernel_rfl), by kernel_rfl⟩
    | false =>
      rw [hq] at h1
      simp only [cf] at h1
      cases hq : Nat.beq f fn_strings_ContainsFunc with
      | true =>
        have := Nat.eq_of_beq_eq_true hq
        subst this
        rw [hq] at h1
        cases h1
        exact ⟨containsP_ok nameC h2, Try.f65, Try.func65, notNone (by kernel_rfl), by kernel_rfl⟩
      | false =>
        rw [hq] at h1
        simp only [cf] at h1
        cases h1
theorem globOk0 (W : World) : GlobOk prim.glob W fun b _ => b < W.heap.size := fun g cs e => by cases e
end Go.Proofs.Ytofalpngdbinbaa
