/- Proves that Scale, Check, Apply, Compose, Dot and Shift of chapter 31 return what it specifies: TangentComputes answers true at any list of bytes, any scheme, any change and any number (no condition). -/
import Derived.Test.YtjmempcalaliiaaGreatDoorPrim
import Derived.Test.YtjmempcalaliiaaGreatDoorJ9
import Derived.Test.YtjmempcalaliiaaGreatDoorJ8
import Derived.Test.YtjmempcalaliiaaGreatDoorTie
import Derived.Test.YtjmempcalaliiaaGreatDoorCards
import Derived.Stop.Joined
import Derived.SevenTiedAt
set_option linter.unusedVariables false
set_option linter.unusedSimpArgs false
namespace Go.Proofs.YtjmempcalaliiaaGreatDoor
open Go Go.PM Go.ChangeShapes Go.WideShapes Go.ChangeAt Go.RowKit
set_option linter.unusedVariables false

theorem walk (x0 : Option Addr) (len0 cap0 : Nat) (z0 : List Int) (cs1 : Array Value) (sa1 : Int) (sb1 : Int) (sc1 : Int) (cs2 : Array Value) (ca2 : C) (cb2 : C) (la2 : List Int) (lb2 : List Int) (a3 : Int) (w : World) (w0 : IsRow .u8 w x0 len0 cap0 z0) (w1 : RCs w (fun b _ => b < w.heap.size) (scC sa1 sb1 sc1) cs1.toList) (w2 : RCs w (fun b _ => b < w.heap.size) [ca2, cb2] cs2.toList) (u2_0 : isLw ca2 la2) (u2_1 : isLw cb2 lb2) (w3 : (Lit.int .i64 a3).wf = true) (hL : laidMetH Tryz.prog laidL w) :
    Calls Tryz.prog 6 #[.slice x0 len0 cap0, .agg cs1, .agg cs2, .int .i64 a3] w fun e w' => e = .returned (.bool true) ∧ Below w.heap.size w w' := by
  have h := sp_TangentComputes 18446744073709551616 0 (Nat.le_refl _) (z0.take len0) w0.bytes sa1 sb1 sc1 u2_0.1 u2_1.1 u2_0.2 u2_1.2 a3
  refine (lift primOk (iterOk _ (Nat.le_refl _)) mixed h rfl w (globOk hL) [.slice x0 len0 cap0, .agg cs1, .agg cs2, .int .i64 a3] rfl (args_cons (RV.c w0.rc) (args_cons (RV.agg w1) (args_cons (RV.agg w2) (args_cons (RV.c (RC.v rfl)) args_nil))))).mono fun e w' ⟨u, E', he, hb, _, hr⟩ => ?_
  have := hr.scalar
  subst this
  exact ⟨he, hb⟩

set_option maxRecDepth 100000 in
theorem lifted (os : Os) (started : os.Started) (H : Type) (enc : TypeId × Value → H) :
    ReturnsInHanded {} Tryz.checked os 6 .any (fun w args => (Rows.tangentComputesSpec.pre enc Tryz.prog Tryz.f6 [] false w args ∧ laidMetH Tryz.prog laidL w) ∧ sizedMet enc Tryz.prog Tryz.f6 (OpenSpec.ofChange Rows.tangentComputesSpec) false w args)
      (Rows.tangentComputesSpec.post enc Tryz.prog Tryz.f6 false true false false) := by
  refine returnsInHanded_of_change_and (C := Tryz.checked) (X := fun w _ => laidMetH Tryz.prog laidL w) (fun _ _ _ hh h => h.of_heap hh) own started (by kernel_rfl) Tryz.func6
    (ChangeSpec.witness_shaped (enc := enc) (C := Tryz.checked) (os := os) (X := fun w _ => laidMetH Tryz.prog laidL w) false (World.doorLaid Tryz.prog 400 os) #[.slice none 0 0, .agg #[.int .i64 0, .int .i64 0, .int .i64 0], .agg #[.slice none 0 0, .slice none 0 0], .int .i64 0] 8 rfl (World.shaped_of_RefB (by kernel_rfl) (by kernel_rfl)) (by kernel_rfl) (by kernel_rfl) (by kernel_rfl) (doorMet os _)) ?_
  intro W base args ds gs before hval0 hW _ _ hL _
  have hval : ∀ (j : Nat) t v, Tryz.f6.params[j]? = some t → args[j]? = some v → Value.okWide Tryz.prog W .any base t v := hval0
  have hW' := hW
  obtain ⟨p, q, hA0, hV, rfl, hfz, hnd⟩ := hW
  have hA : DataW.TrodAll enc Tryz.prog W 0 (fun _ => true) true Tryz.f6.params.toList args.toList ds p := hA0
  rw [Tryz.params6] at hA hval
  obtain ⟨v0, vs0, d0, ds0, p0, q0, hargs, rfl, rfl, h0, r0⟩ := trodAll_cons hA
  obtain ⟨v1, vs1, d1, ds1, p1, q1, rfl, rfl, rfl, h1, r1⟩ := trodAll_cons r0
  obtain ⟨v2, vs2, d2, ds2, p2, q2, rfl, rfl, rfl, h2, r2⟩ := trodAll_cons r1
  obtain ⟨v3, vs3, d3, ds3, p3, q3, rfl, rfl, rfl, h3, r3⟩ := trodAll_cons r2
  obtain ⟨rfl, rfl, rfl⟩ := trodAll_nil r3
  obtain rfl : args = #[v0, v1, v2, v3] := by cases args; simp_all
  obtain ⟨rfl, rfl⟩ := trodVars_none hV
  obtain ⟨x0, len0, cap0, rfl⟩ := okWide_slice Tryz.underlying22 (hval 0 22 v0 rfl rfl)
  have k0 := h0
  have lt0 : ∀ x ∈ p0, x.block < W.heap.size := by obtain ⟨m, hm⟩ := k0; exact DataW.trod_lt m _ _ _ hm
  obtain ⟨z0, w0⟩ : ∃ zs, IsRow .u8 W x0 len0 cap0 zs := by
    obtain ⟨fuel, hf⟩ := h0
    rcases open_ints Tryz.underlying22 Tryz.underlying5 (by kernel_rfl) hf with ⟨hcs, _⟩ | ⟨x, l, c, zs, hcs, _, hl, hm, hz, _, hcell, hwz⟩
    · simp [Value.cells] at hcs
      obtain ⟨rfl, rfl, rfl⟩ := hcs
      exact ⟨[], .inl ⟨rfl, rfl, rfl, rfl⟩⟩
    · simp [Value.cells] at hcs
      obtain ⟨rfl, rfl, rfl⟩ := hcs
      exact ⟨zs, .inr ⟨_, rfl, hl, hm, by simpa using hz, hcell, hwz⟩⟩
  obtain ⟨cs1, rfl⟩ := okWide_agg Tryz.underlying28 (hval 1 28 v1 rfl rfl)
  have k1 := h1
  have lt1 : ∀ x ∈ p1, x.block < W.heap.size := by obtain ⟨m, hm⟩ := k1; exact DataW.trod_lt m _ _ _ hm
  obtain ⟨sa1, sb1, sc1, w1⟩ := k1.elim fun m hm => open_scheme hm
  obtain ⟨cs2, rfl⟩ := okWide_agg Tryz.underlying34 (hval 2 34 v2 rfl rfl)
  have k2 := h2
  have lt2 : ∀ x ∈ p2, x.block < W.heap.size := by obtain ⟨m, hm⟩ := k2; exact DataW.trod_lt m _ _ _ hm
  obtain ⟨ca2, cb2, la2, lb2, w2, u2_0, u2_1⟩ := k2.elim fun m hm => open_changew hm
  obtain ⟨a3, rfl, rfl, rfl, w3⟩ := open_int Tryz.underlying3 (hval 3 3 v3 rfl rfl) h3
  clear hA0 hval0
  refine (walk x0 len0 cap0 z0 cs1 sa1 sb1 sc1 cs2 ca2 cb2 la2 lb2 a3 W w0 w1 w2 u2_0 u2_1 w3 hL).mono fun e W' ⟨he, bel⟩ => ?_
  subst he
  exact ⟨_, rfl, _, _, _, [], _, [], hW', trodAll_mk1 (shut_bool Tryz.underlying4 _), (trodAll_cons_mk (Below.trod laidOut (by kernel_rfl) (of_decide_eq_true (by kernel_rfl)) k0 bel lt0) (trodAll_cons_mk (Below.trod laidOut (by kernel_rfl) (of_decide_eq_true (by kernel_rfl)) k1 bel lt1) (trodAll_cons_mk (Below.trod laidOut (by kernel_rfl) (of_decide_eq_true (by kernel_rfl)) k2 bel lt2) (trodAll_cons_mk (shut_int Tryz.underlying3 w3) trodAll_mk0)))), rfl, bel.frame _, fun h => by cases h⟩

theorem tangentComputes_holds : Rows.TangentComputesSaid :=
  OpenClaim.holds_of_wide 6 Tryz.f6 rfl rfl rfl rfl rfl rfl rfl ⟨rfl, rfl, rfl, rfl, rfl⟩ rfl rfl rfl rfl rfl (by kernel_rfl) Tryz.func6 (by kernel_rfl)
    (of_decide_eq_true (by kernel_rfl)) (by unfold Func.isWrapper; first | (rw [if_pos (by decide +kernel)]; kernel_rfl) | (rw [if_neg (by decide +kernel)]; exact ⟨rfl, rfl⟩))
    (fun os started H enc _ => lifted os started H enc)
theorem tangentComputes_card : Rows.TangentComputesCardSaid :=
  Claim7.holds_tied_plain_at .later [] [.data] true Rows.tangentComputesCard.stood.harness Rows.tangentComputesCard.stood.looks
    tangentComputes_holds (fun _ h => by cases h) (by kernel_rfl) (fun _ h => by cases h) tangentComputes_row_tie rfl ⟨rfl, rfl⟩ (by kernel_rfl) rfl
    (fun f fn hf hfn => by
      obtain rfl : f = 6 := Option.some.inj (hf.symm.trans (by kernel_rfl))
      obtain rfl : fn = Tryz.f6 := (Option.some.inj (Tryz.func6.symm.trans hfn)).symm
      exact ⟨by kernel_rfl, fun j t ht => by
        rw [Tryz.params6] at ht
        have hm : t ∈ [22, 28, 34, 3] := by have := Array.mem_of_getElem? ht; simpa using this
        have hall : ([22, 28, 34, 3].all fun u => !Tryz.prog.wantsStandIn u) = true := by kernel_rfl
        exact (show Tryz.prog.wantsStandIn t = false by simpa using List.all_eq_true.1 hall t hm)⟩)
    (by kernel_rfl)
#print axioms tangentComputes_card
end Go.Proofs.YtjmempcalaliiaaGreatDoor
