/- The pure machine: slices, lengths, function values. -/
import Derived.Test.YtepjbmlhfhahcaaPMg
set_option linter.unusedVariables false
set_option linter.unusedSimpArgs false
namespace Go.PM
open Go

variable {P : Program}

section
variable {A : Fr} {E : Env} {l : Loc} {pend : Nat → Prop} {R : Type} {k : V → Loc → List Nat → Option R} {r : R} {o : Oper} {ρ : Operand → Value}

/-- A bound of a slice expression. -/
theorem bound_eq {x : Option V} {v : Option Value} (hv : ∀ y, x = some y → ∃ u, v = some u ∧ RV P E l y u) (hn : x = none → v = none) {d y : Nat} {kk : Nat → Option R} (h : bound x d y kk = some r) :
    ∃ n, kk n = some r ∧ ((v = none ∧ n = d) ∨ ∃ kd i, v = some (.int kd i) ∧ 0 ≤ i ∧ i ≤ y ∧ n = i.toNat) := by
  unfold bound at h
  split at h
  · exact ⟨d, h, .inl ⟨hn rfl, rfl⟩⟩
  · rename_i c
    split at h
    · rename_i kd i
      obtain ⟨hb, hk⟩ := need_some h
      obtain ⟨u, e, hu⟩ := hv _ rfl
      cases hu with | c hc => cases hc with | v _ =>
      rw [Bool.and_eq_true, decide_eq_true_iff, decide_eq_true_iff] at hb
      exact ⟨_, hk, .inr ⟨kd, i, e, hb.1, hb.2, rfl⟩⟩
    · cases h
  · cases h

theorem run_bounds {w : World} {n cap h a : Nat} {lo hi : Option Value} {isS : Bool} (hh : (hi = none ∧ h = n) ∨ ∃ kd i, hi = some (.int kd i) ∧ 0 ≤ i ∧ i ≤ (n : Int) ∧ h = i.toNat) (hc : n ≤ cap)
    (ha : (lo = none ∧ a = 0) ∨ ∃ kd i, lo = some (.int kd i) ∧ 0 ≤ i ∧ i ≤ (h : Int) ∧ a = i.toNat) : (Instr.sliceBounds isS n cap lo hi none).run P w = .ok (a, h, cap) w := by
  rcases hh with ⟨rfl, rfl⟩ | ⟨kd, i, rfl, h1, h2, rfl⟩ <;> rcases ha with ⟨rfl, rfl⟩ | ⟨kd', i', rfl, h1', h2', rfl⟩
  · simp [Instr.sliceBounds]
  · simp [Instr.sliceBounds, Instr.sliceBound, asIntOf, h1', h2']
  · have h3 : i ≤ (cap : Int) := by omega
    simp [Instr.sliceBounds, Instr.sliceBound, asIntOf, h1, h3]
  · have h3 : i ≤ (cap : Int) := by omega
    have h4 : i' ≤ max i 0 := by omega
    simp [Instr.sliceBounds, Instr.sliceBound, asIntOf, h1, h3, h1', h4]

theorem slice_le {n h a : Nat} {lo hi : Option Value} (hh : (hi = none ∧ h = n) ∨ ∃ kd i, hi = some (.int kd i) ∧ 0 ≤ i ∧ i ≤ (n : Int) ∧ h = i.toNat)
    (ha : (lo = none ∧ a = 0) ∨ ∃ kd i, lo = some (.int kd i) ∧ 0 ≤ i ∧ i ≤ (h : Int) ∧ a = i.toNat) : a ≤ h ∧ h ≤ n := by
  rcases hh with ⟨_, rfl⟩ | ⟨_, i, _, _, _, rfl⟩ <;> rcases ha with ⟨_, rfl⟩ | ⟨_, i', _, _, _, rfl⟩ <;> omega

theorem op_slice (hG : Good P A E l pend) {t : TypeId} {a : Operand} {lo hi : Option Operand} (ho : o.op = .slice t a lo hi none) {x : V} {u : Value} {e : Operand → V} (hx : RV P E l x u) (hu : ρ a = u)
    (hl : ∀ y, lo = some y → RV P E l (e y) (ρ y)) (hh : ∀ y, hi = some y → RV P E l (e y) (ρ y)) (h0 : sliceK P l k t x (lo.map e) (hi.map e) = some r) : Sound P A E l pend ((execOp ρ o).run P E.w) k r := by
  have hlo : ∀ y, lo.map e = some y → ∃ u, lo.map ρ = some u ∧ RV P E l y u := by
    intro y hy; cases lo with
    | none => cases hy
    | some z => injection hy with hy; subst hy; exact ⟨_, rfl, hl z rfl⟩
  have hhi : ∀ y, hi.map e = some y → ∃ u, hi.map ρ = some u ∧ RV P E l y u := by
    intro y hy; cases hi with
    | none => cases hy
    | some z => injection hy with hy; subst hy; exact ⟨_, rfl, hh z rfl⟩
  have hln : lo.map e = none → lo.map ρ = none := by cases lo <;> simp
  have hhn : hi.map e = none → hi.map ρ = none := by cases hi <;> simp
  unfold sliceK at h0
  split at h0
  case h_3 => cases h0
  case h_1 hT =>
    cases x with
    | c c =>
      obtain ⟨s, rfl, h1⟩ := asS_eq h0
      obtain ⟨h, h2, e1⟩ := bound_eq hhi hhn h1
      obtain ⟨b, h3, e2⟩ := bound_eq hlo hln h2
      cases hx with | c hc => cases hc with | v _ =>
      have hrb := run_bounds (P := P) (w := E.w) (isS := false) e1 (Nat.le_refl _) e2
      have : (execOp ρ o).run P E.w = .ok (.value (.string (s.extract b h))) E.w := by
        simp [execOp, ho, hu, Instr.sliceAt, Instr.slice, run_underlying hT, hrb]
      rw [this]; exact .quiet hG h3 (.c (.v rfl))
    | _ => cases h0
  case h_2 el hT =>
    split at h0
    case h_2 => cases h0
    case h_1 inf hinf =>
      have key : ∀ a' n cap b h, u = .slice a' n cap → (Instr.sliceBounds true n cap (lo.map ρ) (hi.map ρ) none).run P E.w = .ok (b, h, cap) E.w →
          (execOp ρ o).run P E.w = .ok (.value (.slice (if cap = b then a' else a'.map (·.add (b * inf.size))) (h - b) (cap - b))) E.w := by
        intro a' n cap b h h1 h2
        simp [execOp, ho, hu, h1, Instr.sliceAt, Instr.slice, run_underlying hT, h2, run_sizeOf hinf]
      cases x with
      | c c =>
        simp only at h0
        cases hx with | c hc =>
        by_cases hcn : c = .nl
        · subst hcn
          simp only [sliceC] at h0
          obtain ⟨h, h2, e1⟩ := bound_eq hhi hhn h0
          obtain ⟨b, h3, e2⟩ := bound_eq hlo hln h2
          obtain ⟨hle1, hle2⟩ := slice_le e1 e2
          obtain rfl : h = 0 := by omega
          obtain rfl : b = 0 := by omega
          cases hc with | nl =>
          rw [key _ _ _ 0 0 rfl (run_bounds e1 (Nat.le_refl _) e2)]
          exact .quiet hG h3 (.c .nl)
        replace h0 : asSl c (fun n cs => bound (hi.map e) n n fun h => bound (lo.map e) 0 h fun a => k (.c (.sl (h - a) ((cs.drop (a * inf.size)).take ((h - a) * inf.size)))) l []) = some r := by
          cases c <;> first | exact absurd rfl hcn | exact h0
        obtain ⟨n, cs, a', cap, h1, e0, hn, hc, hz⟩ := asSl_at hc h0
        obtain ⟨h, h2, e1⟩ := bound_eq hhi hhn h1
        obtain ⟨b, h3, e2⟩ := bound_eq hlo hln h2
        obtain ⟨hle1, hle2⟩ := slice_le e1 e2
        rw [key _ _ _ b h e0 (run_bounds e1 hn e2)]
        refine .quiet hG h3 (.c ?_)
        rcases hz with ⟨rfl, rfl⟩ | ⟨g, o', rfl, hat, hp⟩
        · obtain rfl : h = 0 := by omega
          obtain rfl : b = 0 := by omega
          simp only [List.drop_nil, List.take_nil, Nat.sub_zero]
          exact .sl0 hc
        · by_cases hcb : cap = b
          · obtain rfl : h = b := by omega
            simp only [Nat.sub_self, Nat.zero_mul, List.take_zero]
            exact .sl0 (by omega)
          · rw [if_neg hcb]
            simp only [Option.map_some, add_none]
            obtain ⟨us, q1, q2⟩ := ((hat.drop (b * inf.size)).take ((h - b) * inf.size)).fn (fun j hj => prDrop (m := b * inf.size) hp j (by simp only [List.length_take] at hj; omega))
            exact .sl (by omega) (by omega) q1 q2
      | own s off n =>
        simp only at h0
        split at h0
        case h_2 => cases h0
        case h_1 t' _ _ hl' =>
          obtain ⟨hb, h1⟩ := need_some h0
          rw [Bool.and_eq_true] at hb
          have ht : t' = el := Nat.eq_of_beq_eq_true hb.1
          have hs0 : inf.size ≠ 0 := by intro e; rw [e] at hb; cases hb.2
          subst ht
          obtain ⟨h, h2, e1⟩ := bound_eq hhi hhn h1
          obtain ⟨b, h3, e2⟩ := bound_eq hlo hln h2
          obtain ⟨hle1, hle2⟩ := slice_le e1 e2
          cases hx with
          | ownDead hd => rw [hd] at hl'; cases hl'
          | ownRf hd => rw [hd] at hl'; cases hl'
          | ownNil hr hl2 =>
            obtain rfl : h = 0 := by omega
            obtain rfl : b = 0 := by omega
            rw [key _ _ _ 0 0 rfl (run_bounds e1 (Nat.le_refl _) e2)]
            simp only [Nat.zero_mul, Nat.add_zero, Nat.sub_zero] at h3 ⊢
            exact .quiet hG h3 (.ownNil hr hl2)
          | @own0 _ _ g o' t2 fz cs hr hl2 hoff =>
            obtain rfl : h = 0 := by omega
            obtain rfl : b = 0 := by omega
            rw [key _ _ _ 0 0 rfl (run_bounds e1 (Nat.le_refl _) e2)]
            simp only [Nat.zero_mul, Nat.add_zero, Nat.sub_zero] at h3 ⊢
            exact .quiet hG h3 (.own0 hr hl' hoff)
          | @own _ _ _ g cap t2 fz cs hr hl2 hn hc hs =>
            rw [hl'] at hl2; injection hl2 with hl2; injection hl2 with q1 q2; subst q1
            rw [key _ _ _ b h rfl (run_bounds e1 hn e2)]
            have hsz : szOf P t' = inf.size := szOf_info hinf
            rw [hsz] at hs
            by_cases hcb : cap = b
            · obtain rfl : h = b := by omega
              rw [if_pos hcb]
              subst hcb
              simp only [Nat.sub_self] at h3 ⊢
              by_cases hb0 : cap = 0
              · subst hb0
                simp only [Nat.zero_mul, Nat.add_zero] at h3
                refine .quiet hG h3 (.own hr hl' (Nat.le_refl _) (by omega) ?_)
                rw [hsz]; omega
              · have : 1 ≤ cap * inf.size := Nat.mul_pos (by omega) (by omega)
                exact .quiet hG h3 (.own0 hr hl' (by omega))
            · rw [if_neg hcb]
              simp only [Option.map_some, add_none]
              refine .quiet hG h3 (.own hr hl' (by omega) (by omega) ?_)
              rw [hsz]
              have : b * inf.size + (cap - b) * inf.size = cap * inf.size := by rw [← Nat.add_mul]; congr 1; omega
              omega
      | _ => cases h0

theorem op_cap (hG : Good P A E l pend) {c : Call} {T : TypeId} {a : Operand} (ho : o.op = .call c) (hc1 : c.callee = .builtin .cap) (hc2 : c.args = #[a]) (hc3 : c.argTypes = #[T]) {x : V} {u : Value} (hx : RV P E l x u) (hu : ρ a = u)
    (h0 : capK P l k T x = some r) : Sound P A E l pend ((execOp ρ o).run P E.w) k r := by
  unfold capK at h0
  split at h0
  · rename_i el hT
    cases hx with | c hc => cases hc with | nl =>
    have : (execOp ρ o).run P E.w = .ok (.value (.int .i64 0)) E.w := by
      simp [execOp, ho, resolve, hc1, hc2, hc3, invoke, builtin, hu, Builtin.cap_, goInt, run_underlying hT]
    rw [this]
    exact .quiet hG h0 (.c (.v rfl))
  · cases h0

theorem op_len (hG : Good P A E l pend) {c : Call} {T : TypeId} {a : Operand} (ho : o.op = .call c) (hc1 : c.callee = .builtin .len) (hc2 : c.args = #[a]) (hc3 : c.argTypes = #[T]) {x : V} {u : Value} (hx : RV P E l x u) (hu : ρ a = u)
    (h0 : lenK P l k T x = some r) : Sound P A E l pend ((execOp ρ o).run P E.w) k r := by
  have key : ∀ v, (Builtin.len_ #[T] o.type #[u]).run P E.w = .ok v E.w → (execOp ρ o).run P E.w = .ok (.value v) E.w := by
    intro v h
    simp [execOp, ho, resolve, hc1, hc2, hc3, invoke, builtin, hu, h]
  unfold lenK at h0
  split at h0
  case h_1 c' el hT =>
    cases hx with | c hc =>
    obtain ⟨n, cs, a', cap, hk, e1, _⟩ := asSl_at hc h0
    rw [key (.int .i64 n) (by simp [Builtin.len_, run_underlying hT, e1, goInt])]
    exact .quiet hG hk (.c (.v rfl))
  case h_2 c' hT =>
    cases hx with | c hc =>
    obtain ⟨s, rfl, hk⟩ := asS_eq h0
    cases hc with | v _ =>
    rw [key (.int .i64 s.size) (by simp [Builtin.len_, run_underlying hT, goInt])]
    exact .quiet hG hk (.c (.v rfl))
  case h_3 s off n el hT =>
    split at h0
    case h_2 => cases h0
    case h_1 q hl =>
      obtain ⟨t', fz, cs⟩ := q
      have : ∃ a' cap, u = .slice a' n cap := by
        cases hx with
        | ownDead hd => rw [hd] at hl; cases hl
        | ownRf hd => rw [hd] at hl; cases hl
        | ownNil _ _ => exact ⟨_, _, rfl⟩
        | own0 _ _ _ => exact ⟨_, _, rfl⟩
        | own _ _ _ _ _ => exact ⟨_, _, rfl⟩
      obtain ⟨a', cap, e1⟩ := this
      rw [key (.int .i64 n) (by simp [Builtin.len_, run_underlying hT, e1, goInt])]
      exact .quiet hG h0 (.c (.v rfl))
  case h_4 _ _ _ n el hT =>
    rw [key (.int .i64 n) (by simp [Builtin.len_, run_underlying hT, goInt])]
    exact .quiet hG h0 (.c (.v rfl))
  case h_5 => cases h0

end
end Go.PM
