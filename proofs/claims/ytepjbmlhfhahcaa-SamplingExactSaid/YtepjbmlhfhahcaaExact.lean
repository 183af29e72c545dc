/- Proves that the test of signs is exact: SamplingExact answers true at any bytes, and what was there stays as it was (no condition). -/
import Derived.Test.YtepjbmlhfhahcaaRows
import Derived.Test.YtepjbmlhfhahcaaPPb
import Derived.Test.YtepjbmlhfhahcaaSg
import Derived.ProofKit
import Derived.OpenShut
import Derived.ShutString
import Derived.ChangeOld
import Derived.DataShut
namespace Go.Proofs.Ytepjbmlhfhahcaa
open Go Go.PM Go.ChangeShapes Go.WideShapes Go.ChangeAt Go.RowKit
set_option linter.unusedVariables false

theorem own : ownKnob Try.prog.godebug = none := by kernel_rfl
theorem laidOut : laidOutB Try.prog = true := by kernel_rfl
theorem primOk : PrimOk Try.prog prim := fun f g args objs out h => by cases h
theorem mixed : Try.prog.follows .mixedOrders = true := by kernel_rfl

/-- A slice of integers that came in: nil, or a row of cells. -/
def IsRow (k : IntKind) (w : World) (a : Option Addr) (len cap : Nat) (zs : List Int) : Prop :=
  (a = none ∧ len = 0 ∧ cap = 0 ∧ zs = []) ∨
  ∃ x, a = some x ∧ len ≤ cap ∧ cap ≤ maxLen ∧ zs.length = cap ∧ (∀ i, i < zs.length → w.cell? (x.add i) = some (.int k (zs.getD i 0))) ∧ ∀ n ∈ zs, (Lit.int k n).wf = true

/-- A row reads as a list of integers. -/
theorem IsRow.rc {k : IntKind} {w : World} {a : Option Addr} {len cap : Nat} {zs : List Int} (h : IsRow k w a len cap zs) : RC w (fun b _ => b < w.heap.size) (C.sl (zs.take len).length (ik k (zs.take len))) (.slice a len cap) := by
  rcases h with ⟨rfl, rfl, rfl, rfl⟩ | ⟨x, rfl, hl, hm, hz, hcell, _⟩
  · exact RC.sl0 (Nat.zero_le _)
  · by_cases h0 : len = 0
    · subst h0
      exact RC.sl0 hm
    · obtain ⟨b, off, spot⟩ := x
      have hc := hcell 0 (by omega)
      have hspot : spot = none := by simpa [Addr.add] using World.cell?_spot hc
      subst hspot
      have hlen : (zs.take len).length = len := by simp; omega
      rw [hlen]
      refine RC.sl (us := fun j => .int k (zs.getD j 0)) hl hm (fun j c hj => ?_) (fun j c hj => ?_)
      · have hjl : j < len := by
          have := (List.getElem?_eq_some_iff.1 hj).1
          rw [ik_length, hlen] at this
          exact this
        have hcj := hcell j (by omega)
        have e : w.cell? ⟨b, off + j, none⟩ = some (.int k (zs.getD j 0)) := by
          by_cases hj0 : j = 0
          · subst hj0; simpa [Addr.add] using hcj
          · simpa [Addr.add, hj0] using hcj
        exact ⟨e, World.block_lt_of_cell? w _ e⟩
      · obtain ⟨hjl, e⟩ := List.getElem?_eq_some_iff.1 hj
        rw [ik_length, hlen] at hjl
        have : c = C.v (.int k (zs.getD j 0)) := by
          rw [← e]
          simp [ik, List.getD_eq_getElem?_getD, List.getElem?_eq_getElem (show j < zs.length by omega)]
        subst this
        exact RC.v rfl
theorem IsRow.bytes {w : World} {a : Option Addr} {len cap : Nat} {zs : List Int} (h : IsRow .u8 w a len cap zs) : bytes (zs.take len) := by
  rcases h with ⟨rfl, rfl, rfl, rfl⟩ | ⟨x, rfl, hl, hm, hz, hcell, hwf⟩
  · intro x hx; simp at hx
  · intro n hn
    have := hwf n (List.mem_of_mem_take hn)
    have := (Lit.wf_int_iff .u8 n).1 this
    simp [IntKind.min, IntKind.max, IntKind.bits, IntKind.signed] at this
    omega

theorem walk (a0 : Option Addr) (len0 cap0 : Nat) (z0 : List Int) (w : World) (w0 : IsRow .u8 w a0 len0 cap0 z0) :
    Calls Try.prog 3 #[.slice a0 len0 cap0] w fun e w' => e = .returned (.bool true) ∧ Below w.heap.size w w' := by
  have h := sp_SamplingExact 18446744073709551616 0 (Nat.le_refl _) (z0.take len0) w0.bytes
  refine (lift primOk (iterOk _ (Nat.le_refl _)) mixed h rfl w [.slice a0 len0 cap0] rfl ?_).mono fun e w' ⟨u, E', he, hb, _, hr⟩ => ?_
  · intro i x u hx hu
    match i with
    | 0 =>
      cases hx
      cases hu
      exact RV.c w0.rc
    | i + 1 => cases hx
  · have := hr.scalar
    subst this
    exact ⟨he, hb⟩

set_option maxRecDepth 100000 in
theorem lifted (os : Os) (started : os.Started) (H : Type) (enc : TypeId × Value → H) :
    ReturnsInHanded {} Try.checked os 3 .any (Rows.samplingExactSpec.pre6 enc Try.prog Try.f3 Rows.samplingExactRow.domain false) (Rows.samplingExactSpec.post enc Try.prog Try.f3 false true false false) := by
  refine returnsInHanded_of_change (C := Try.checked) own started (by kernel_rfl) Try.func3
    (ChangeSpec.witness6 (enc := enc) (C := Try.checked) false ⟨#[], #[.slice none 0 0], []⟩ 8 (by kernel_rfl) (by kernel_rfl) (by kernel_rfl) (by kernel_rfl)) ?_
  intro W base args ds gs before hval0 hW hcnd _
  have hval : ∀ (j : Nat) t v, Try.f3.params[j]? = some t → args[j]? = some v → Value.okWide Try.prog W .any base t v := hval0
  have hW' := hW
  obtain ⟨p, q, hA0, hV, rfl, hfz, hnd⟩ := hW
  have hA : DataW.TrodAll enc Try.prog W 0 (fun _ => true) true Try.f3.params.toList args.toList ds p := hA0
  rw [Try.params3] at hA hval
  obtain ⟨v0, vs0, d0, ds0, p0, q0, hargs, rfl, rfl, h0, r0⟩ := trodAll_cons hA
  obtain ⟨rfl, rfl, rfl⟩ := trodAll_nil r0
  obtain rfl : args = #[v0] := by cases args; simp_all
  obtain ⟨rfl, rfl⟩ := trodVars_none hV
  obtain ⟨a0, len0, cap0, rfl⟩ := okWide_slice Try.underlying22 (hval 0 22 v0 rfl rfl)
  have k0 := h0
  have lt0 : ∀ x ∈ p0, x.block < W.heap.size := by obtain ⟨m, hm⟩ := k0; exact DataW.trod_lt m _ _ _ hm
  obtain ⟨z0, w0⟩ : ∃ zs, IsRow .u8 W a0 len0 cap0 zs := by
    obtain ⟨fuel, hf⟩ := h0
    rcases open_ints Try.underlying22 Try.underlying5 (by kernel_rfl) hf with ⟨hcs, _⟩ | ⟨x, l, c, zs, hcs, _, hl, hm, hz, _, hcell, hwz⟩
    · simp [Value.cells] at hcs
      obtain ⟨rfl, rfl, rfl⟩ := hcs
      exact ⟨[], .inl ⟨rfl, rfl, rfl, rfl⟩⟩
    · simp [Value.cells] at hcs
      obtain ⟨rfl, rfl, rfl⟩ := hcs
      exact ⟨zs, .inr ⟨_, rfl, hl, hm, by simpa using hz, hcell, hwz⟩⟩
  clear hA0 hval0
  refine (walk a0 len0 cap0 z0 W w0).mono fun e W' ⟨he, bel⟩ => ?_
  subst he
  exact ⟨_, rfl, _, _, _, [], _, [], hW', trodAll_mk1 (shut_bool Try.underlying4 _), (trodAll_cons_mk (Below.trod laidOut (by kernel_rfl) (of_decide_eq_true (by kernel_rfl)) k0 bel lt0) trodAll_mk0), rfl, bel.frame _, fun h => by cases h⟩

theorem samplingExact_holds : Rows.SamplingExactSaid :=
  OpenClaim.holds_of_wide 3 Try.f3 rfl rfl rfl rfl rfl rfl rfl ⟨rfl, rfl, rfl, rfl, rfl⟩ rfl rfl rfl rfl rfl (by kernel_rfl) Try.func3 (by kernel_rfl)
    (of_decide_eq_true (by kernel_rfl)) (by unfold Func.isWrapper; first | (rw [if_pos (by decide +kernel)]; kernel_rfl) | (rw [if_neg (by decide +kernel)]; exact ⟨rfl, rfl⟩))
    (fun os started H enc _ => lifted os started H enc)
#print axioms samplingExact_holds
end Go.Proofs.Ytepjbmlhfhahcaa
