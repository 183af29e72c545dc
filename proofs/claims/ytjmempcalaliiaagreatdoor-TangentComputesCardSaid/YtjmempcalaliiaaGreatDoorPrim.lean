/- What is known of this program as a whole: contracts of the library, package-level tables. -/
import Derived.Test.YtjmempcalaliiaaGreatDoorRows
import Derived.Test.YtjmempcalaliiaaGreatDoorEq
import Derived.Test.YtjmempcalaliiaaGreatDoorJ7
import Derived.Test.YtjmempcalaliiaaGreatDoorJ5
import Derived.Test.YtjmempcalaliiaaGreatDoorShelf
import Derived.Laws.Externs
set_option linter.unusedVariables false
set_option linter.unusedSimpArgs false
namespace Go.Proofs.YtjmempcalaliiaaGreatDoor
open Go Go.PM Go.ChangeShapes Go.WideShapes Go.ChangeAt Go.RowKit

theorem own : ownKnob Tryz.prog.godebug = none := by kernel_rfl
theorem laidOut : laidOutB Tryz.prog = true := by kernel_rfl
theorem mixed : Tryz.prog.follows .mixedOrders = true := by kernel_rfl
theorem addOk : ∀ f, prim.add = some f → AddAt Tryz.prog f := fun f h => by
  have h : some fn_bits_Add64 = some f := h
  cases h
  intro x y c w h1 h2 h3 h4
  show (callFunc 93 #[.int .u64 x, .int .u64 y, .int .u64 c]).run Tryz.prog w = _
  rw [run_callFunc_extern Tryz.func93 (by kernel_rfl) (by kernel_rfl) (by kernel_rfl) (e := add64Entry) (by kernel_rfl), run_add64 x y c h1 h2 h3 h4]
  rfl
theorem notNone {α : Type} {o : Option α} (h : o.isNone = false) : o ≠ none := fun e => by rw [e] at h; cases h
theorem primOk : PrimOk Tryz.prog prim := by
  refine ⟨?_, addOk⟩
  intro f g args objs out h1 h2
  have h1 : (bif Nat.beq f fn_slices_SortFunc_sapi_Cell_api_Cell then some (sortFuncP 141 3 106 (lexZ [0, 1, 2])) else bif Nat.beq f fn_slices_SortFunc_sapi_Edge_api_Edge then some (sortFuncP 83 2 110 (lexZ [0, 1])) else bif Nat.beq f fn_slices_Compact_sapi_Edge_api_Edge then some (compactEP ty_api_Edge) else bif Nat.beq f fn_slices_Sort_sint_int then some (orP (sortP ty_int) (sortWsP ty_3_int)) else none) = some g := h1
  cases hq : Nat.beq f fn_slices_SortFunc_sapi_Cell_api_Cell with
  | true =>
    have := Nat.eq_of_beq_eq_true hq
    subst this
    rw [hq] at h1
    cases h1
    exact ⟨(sortFuncP_ok (lexZ_swo _) sortC_105_106 sortN_105_106) h2, Tryz.f105, Tryz.func105, notNone (by kernel_rfl), by kernel_rfl⟩
  | false =>
    rw [hq] at h1
    simp only [cf] at h1
    cases hq : Nat.beq f fn_slices_SortFunc_sapi_Edge_api_Edge with
    | true =>
      have := Nat.eq_of_beq_eq_true hq
      subst this
      rw [hq] at h1
      cases h1
      exact ⟨(sortFuncP_ok (lexZ_swo _) sortC_109_110 sortN_109_110) h2, Tryz.f109, Tryz.func109, notNone (by kernel_rfl), by kernel_rfl⟩
    | false =>
      rw [hq] at h1
      simp only [cf] at h1
      cases hq : Nat.beq f fn_slices_Compact_sapi_Edge_api_Edge with
      | true =>
        have := Nat.eq_of_beq_eq_true hq
        subst this
        rw [hq] at h1
        cases h1
        exact ⟨compactEP_ok h2, Tryz.f111, Tryz.func111, notNone (by kernel_rfl), by kernel_rfl⟩
      | false =>
        rw [hq] at h1
        simp only [cf] at h1
        cases hq : Nat.beq f fn_slices_Sort_sint_int with
        | true =>
          have := Nat.eq_of_beq_eq_true hq
          subst this
          rw [hq] at h1
          cases h1
          exact ⟨orP_ok (fun h => sortP_ok Tryz.slices_Sort_int (fun w => Tryz.slices_Sort_int_none none 0 w) h) (fun h => sortWsP_ok Tryz.slices_Sort_int h) h2, Tryz.f112, Tryz.func112, notNone (by kernel_rfl), by kernel_rfl⟩
        | false =>
          rw [hq] at h1
          simp only [cf] at h1
          cases h1
def laidL : List (String × DataW Unit) := Rows.tangentLinearRow.laid
theorem globOk {W : World} (h : laidMetH Tryz.prog laidL W) : GlobOk prim.glob W fun b _ => b < W.heap.size := by
  rw [MakeChecks.laidMetH_plain _ _ _ (by kernel_rfl)] at h
  obtain ⟨ps, ⟨g0, t0, cs0, f0, p0, q0, hg0, ht0, hv0, hd0, _, _⟩, _, _⟩ := h
  obtain rfl : g0 = 0 := Option.some.inj (hg0.symm.trans (by kernel_rfl))
  obtain ⟨T0, hT0⟩ : ∃ T, (Tryz.prog.globals[0]?).map (·.type) = some T ∧ intT Tryz.prog 8 T = true := ⟨_, rfl, by kernel_rfl⟩
  obtain rfl := Option.some.inj (hT0.1.symm.trans ht0)
  intro g cs e
  have e : (bif Nat.beq g 0 then some gl_place_corners else none) = some cs := e
  cases hq : Nat.beq g 0 with
  | true =>
    have := Nat.eq_of_beq_eq_true hq
    subst this
    rw [hq] at e
    cases e
    exact glob_ints hg0 hv0 hT0.2 hd0 (by kernel_rfl)
  | false =>
    rw [hq] at e
    simp only [cf] at e
    cases e
/-- The door's own heap meets the condition. -/
theorem doorMet (os : Os) (args : Array Value) : laidMetH Tryz.prog laidL ((World.doorLaid Tryz.prog 400 os).forCall (fun _ _ => 0) ⟨#[], args, []⟩).memory :=
  laidMetH_of_parts3 (fuel := 8) (laidMet_of_run' 8 (by kernel_rfl) (by kernel_rfl)) (by kernel_rfl) (by kernel_rfl)
end Go.Proofs.YtjmempcalaliiaaGreatDoor
