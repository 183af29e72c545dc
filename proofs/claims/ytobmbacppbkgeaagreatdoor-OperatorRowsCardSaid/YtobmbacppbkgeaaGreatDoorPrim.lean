/- What is known of this program as a whole: contracts of the library, package-level tables. -/
import Derived.Test.YtobmbacppbkgeaaGreatDoorRows
import Derived.Test.YtobmbacppbkgeaaGreatDoorEq
import Derived.Test.YtobmbacppbkgeaaGreatDoorJ6
import Derived.Test.YtobmbacppbkgeaaGreatDoorJ5
set_option linter.unusedVariables false
set_option linter.unusedSimpArgs false
namespace Go.Proofs.YtobmbacppbkgeaaGreatDoor
open Go Go.PM Go.ChangeShapes Go.WideShapes Go.ChangeAt Go.RowKit

theorem own : ownKnob Tryz.prog.godebug = none := by kernel_rfl
theorem laidOut : laidOutB Tryz.prog = true := by kernel_rfl
theorem mixed : Tryz.prog.follows .mixedOrders = true := by kernel_rfl
theorem iterOk0 (fu : Nat) : IterOk Tryz.prog prim laid fu := fun d f caps xs h => by cases h
theorem addOk : ∀ f, prim.add = some f → AddAt Tryz.prog f := fun f h => by cases h
theorem primOk : PrimOk Tryz.prog prim := ⟨fun f g args objs out h => (by cases h), addOk⟩
def laidL : List (String × DataW Unit) := Rows.operatorRowsRow.laid
theorem globOk {W : World} (h : laidMetH Tryz.prog laidL W) : GlobOk prim.glob W fun b _ => b < W.heap.size := by
  rw [MakeChecks.laidMetH_plain _ _ _ (by kernel_rfl)] at h
  obtain ⟨ps, ⟨g0, t0, cs0, f0, p0, q0, hg0, ht0, hv0, hd0, ⟨g1, t1, cs1, f1, p1, q1, hg1, ht1, hv1, hd1, _, _⟩, _⟩, _, _⟩ := h
  obtain rfl : g0 = 1 := Option.some.inj (hg0.symm.trans (by kernel_rfl))
  obtain ⟨T0, hT0⟩ : ∃ T, (Tryz.prog.globals[1]?).map (·.type) = some T ∧ intT Tryz.prog 8 T = true := ⟨_, rfl, by kernel_rfl⟩
  obtain rfl := Option.some.inj (hT0.1.symm.trans ht0)
  obtain rfl : g1 = 0 := Option.some.inj (hg1.symm.trans (by kernel_rfl))
  obtain ⟨T1, hT1⟩ : ∃ T, (Tryz.prog.globals[0]?).map (·.type) = some T ∧ intT Tryz.prog 8 T = true := ⟨_, rfl, by kernel_rfl⟩
  obtain rfl := Option.some.inj (hT1.1.symm.trans ht1)
  intro g cs e
  have e : (bif Nat.beq g 1 then some gl_place_corners else bif Nat.beq g 0 then some gl_element_bounds else none) = some cs := e
  cases hq : Nat.beq g 1 with
  | true =>
    have := Nat.eq_of_beq_eq_true hq
    subst this
    rw [hq] at e
    cases e
    exact glob_ints hg0 hv0 hT0.2 hd0 (by kernel_rfl)
  | false =>
    rw [hq] at e
    simp only [cf] at e
    cases hq : Nat.beq g 0 with
    | true =>
      have := Nat.eq_of_beq_eq_true hq
      subst this
      rw [hq] at e
      cases e
      exact glob_ints hg1 hv1 hT1.2 hd1 (by kernel_rfl)
    | false =>
      rw [hq] at e
      simp only [cf] at e
      cases e
/-- The door's own heap meets the condition. -/
theorem doorMet (os : Os) (args : Array Value) : laidMetH Tryz.prog laidL ((World.doorLaid Tryz.prog 400 os).forCall (fun _ _ => 0) ⟨#[], args, []⟩).memory :=
  laidMetH_of_parts3 (fuel := 8) (laidMet_of_run' 8 (by kernel_rfl) (by kernel_rfl)) (by kernel_rfl) (by kernel_rfl)
end Go.Proofs.YtobmbacppbkgeaaGreatDoor
