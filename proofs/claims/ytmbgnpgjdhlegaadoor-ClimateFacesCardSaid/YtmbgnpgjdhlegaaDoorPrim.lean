/- What is known of this program as a whole: contracts of the library, package-level tables. -/
import Derived.Test.YtmbgnpgjdhlegaaDoorRows
import Derived.Test.YtmbgnpgjdhlegaaDoorEq
import Derived.Test.YtmbgnpgjdhlegaaDoorJ7
import Derived.Test.YtmbgnpgjdhlegaaDoorJ6
import Derived.Test.YtmbgnpgjdhlegaaDoorShelf
set_option linter.unusedVariables false
set_option linter.unusedSimpArgs false
namespace Go.Proofs.YtmbgnpgjdhlegaaDoor
open Go Go.PM Go.ChangeShapes Go.WideShapes Go.ChangeAt Go.RowKit

theorem own : ownKnob Tryd.prog.godebug = none := by kernel_rfl
theorem laidOut : laidOutB Tryd.prog = true := by kernel_rfl
theorem mixed : Tryd.prog.follows .mixedOrders = true := by kernel_rfl
theorem iterOk0 (fu : Nat) : IterOk Tryd.prog prim laid fu := fun d f caps xs h => by cases h
theorem notNone {α : Type} {o : Option α} (h : o.isNone = false) : o ≠ none := fun e => by rw [e] at h; cases h
theorem primOk : PrimOk Tryd.prog prim := by
  intro f g args objs out h1 h2
  have h1 : (bif Nat.beq f fn_slices_SortFunc_sapi_Normal_api_Normal then some (sortFuncP 46 5 40 (lexZ [0, 1, 2])) else none) = some g := h1
  cases hq : Nat.beq f fn_slices_SortFunc_sapi_Normal_api_Normal with
  | true =>
    have := Nat.eq_of_beq_eq_true hq
    subst this
    rw [hq] at h1
    cases h1
    exact ⟨(sortFuncP_ok (lexZ_swo _) sortC_39_40 sortN_39_40) h2, Tryd.f39, Tryd.func39, notNone (by kernel_rfl), by kernel_rfl⟩
  | false =>
    rw [hq] at h1
    simp only [cf] at h1
    cases h1
def laidL : List (String × DataW Unit) := Rows.climateLearnsRow.laid
theorem globOk {W : World} (h : laidMetH Tryd.prog laidL W) : GlobOk prim.glob W fun b _ => b < W.heap.size := by
  rw [MakeChecks.laidMetH_plain _ _ _ (by kernel_rfl)] at h
  obtain ⟨ps, ⟨g0, t0, cs0, f0, p0, q0, hg0, ht0, hv0, hd0, ⟨g1, t1, cs1, f1, p1, q1, hg1, ht1, hv1, hd1, _, _⟩, _⟩, _, _⟩ := h
  obtain rfl : g0 = 0 := Option.some.inj (hg0.symm.trans (by kernel_rfl))
  obtain ⟨T0, hT0⟩ : ∃ T, (Tryd.prog.globals[0]?).map (·.type) = some T ∧ intT Tryd.prog 8 T = true := ⟨_, rfl, by kernel_rfl⟩
  obtain rfl := Option.some.inj (hT0.1.symm.trans ht0)
  obtain rfl : g1 = 1 := Option.some.inj (hg1.symm.trans (by kernel_rfl))
  obtain ⟨T1, hT1⟩ : ∃ T, (Tryd.prog.globals[1]?).map (·.type) = some T ∧ intT Tryd.prog 8 T = true := ⟨_, rfl, by kernel_rfl⟩
  obtain rfl := Option.some.inj (hT1.1.symm.trans ht1)
  intro g cs e
  have e : (bif Nat.beq g 0 then some gl_place_corners else bif Nat.beq g 1 then some gl_element_bounds else none) = some cs := e
  cases hq : Nat.beq g 0 with
  | true =>
    have := Nat.eq_of_beq_eq_true hq
    subst this
    rw [hq] at e
    cases e
    exact glob_ints hg0 hv0 hT0.2 hd0 (by kernel_rfl)
  | false =>
    rw [hq] at e
    simp only [cf] at e
    cases hq : Nat.beq g 1 with
    | true =>
      have := Nat.eq_of_beq_eq_true hq
      subst this
      rw [hq] at e
      cases e
      exact glob_ints hg1 hv1 hT1.2 hd1 (by kernel_rfl)
    | false =>
      rw [hq] at e
      simp only [cf] at e
      cases e
/-- The door's own heap meets the condition. -/
theorem doorMet (os : Os) (args : Array Value) : laidMetH Tryd.prog laidL ((World.doorLaid Tryd.prog 400 os).forCall (fun _ _ => 0) ⟨#[], args, []⟩).memory :=
  laidMetH_of_parts3 (fuel := 8) (laidMet_of_run' 8 (by kernel_rfl) (by kernel_rfl)) (by kernel_rfl) (by kernel_rfl)
end Go.Proofs.YtmbgnpgjdhlegaaDoor
