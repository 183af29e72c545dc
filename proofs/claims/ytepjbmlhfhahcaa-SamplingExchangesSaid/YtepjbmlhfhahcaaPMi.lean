/- The pure machine: operations that make memory: composite values, boxes, new slices, new variables. -/
import Derived.Test.YtepjbmlhfhahcaaPMh
set_option linter.unusedVariables false
set_option linter.unusedSimpArgs false
namespace Go.PM
open Go

variable {P : Program}

section
variable {A : Fr} {E : Env} {l : Loc} {pend : Nat → Prop} {R : Type} {k : V → Loc → List Nat → Option R} {r : R} {o : Oper} {ρ : Operand → Value}

theorem foldMax_sound {lt : Bool} : ∀ {xs : List V} {us : List Value} {kd : IntKind} {a : Int} {kk : V → Option R} (_ : us.length = xs.length) (_ : ∀ (j : Nat) (x : V) (u : Value), xs[j]? = some x → us[j]? = some u → RV P E l x u) (_ : foldMax lt xs kd a kk = some r),
    ∃ b, kk (.c (.v (.int kd b))) = some r ∧ (us.foldlM (match lt with | true => Builtin.min2 | false => Builtin.max2) (.int kd a)).run P E.w = .ok (.int kd b) E.w
  | [], [], kd, a, kk, _, _, h => ⟨a, h, by simp⟩
  | [], _ :: _, _, _, _, hl, _, _ => by simp at hl
  | _ :: _, [], _, _, _, hl, _, _ => by simp at hl
  | x :: xs, u :: us, kd, a, kk, hl, hx, h => by
    have h1 := hx 0 x u rfl rfl
    match x, h with
    | .c (.v (.int kd' b)), h =>
      cases h1 with | c hc => cases hc with | v _ =>
      simp only [foldMax] at h
      cases hk : decide (kd' = kd) with
      | false => rw [hk] at h; cases h
      | true =>
        rw [hk] at h
        obtain ⟨c, h2, h3⟩ := foldMax_sound (xs := xs) (us := us) (by simpa using hl) (fun j y v hy hv => hx (j + 1) y v (by simpa using hy) (by simpa using hv)) h
        refine ⟨c, h2, ?_⟩
        rw [List.foldlM_cons, Sem.run_bind]
        cases lt
        · simp only [Builtin.max2, Sem.run_pure, Result.andThen_ok]; exact h3
        · simp only [Builtin.min2, Sem.run_pure, Result.andThen_ok]; exact h3

theorem op_max (hG : Good P A E l pend) {c : Call} {lt : Bool} (ho : o.op = .call c) (hc1 : c.callee = .builtin (match lt with | true => .min | false => .max)) {e : Operand → V} (hop : ∀ y ∈ c.args.toList, RV P E l (e y) (ρ y))
    (h0 : maxK l k lt (c.args.toList.map e) = some r) : Sound P A E l pend ((execOp ρ o).run P E.w) k r := by
  have hrel : ∀ (ys : List Operand), (∀ y ∈ ys, RV P E l (e y) (ρ y)) → ∀ (j : Nat) (x : V) (u : Value), (ys.map e)[j]? = some x → (ys.map ρ)[j]? = some u → RV P E l x u := by
    intro ys hy j x u hx hu
    rw [List.getElem?_map] at hx hu
    cases hj : ys[j]? with
    | none => rw [hj] at hx; cases hx
    | some y =>
      rw [hj] at hx hu
      injection hx with hx; injection hu with hu; subst hx hu
      exact hy y (List.mem_of_getElem? hj)
  have key : ∀ v, (match lt with | true => Builtin.min_ c.argTypes o.type (c.args.map ρ) | false => Builtin.max_ c.argTypes o.type (c.args.map ρ)).run P E.w = .ok v E.w → (execOp ρ o).run P E.w = .ok (.value v) E.w := by
    intro v h
    cases lt <;> simp [execOp, ho, resolve, hc1, invoke, builtin] <;> simp at h <;> simp [h]
  cases hargs : c.args.toList with
  | nil => rw [hargs] at h0; cases h0
  | cons y ys =>
    rw [hargs, List.map_cons] at h0
    rw [hargs] at hop
    unfold maxK at h0
    split at h0
    case h_2 => cases h0
    case h_1 kd a rest hxs =>
      injection hxs with e1 e2
      subst e2
      have h1 := hop y (by simp)
      rw [e1] at h1
      obtain ⟨b, hk, hr⟩ := foldMax_sound (P := P) (E := E) (l := l) (us := ys.map ρ) (by simp) (hrel ys (fun z hz => hop z (by simp [hz]))) h0
      have hy : ρ y = .int kd a := by
        generalize ρ y = u at h1
        cases h1 with | c hc => cases hc with | v _ => rfl
      rw [key (.int kd b) ?_]
      · exact .quiet hG hk (.c (.v rfl))
      · cases lt <;> simp [Builtin.min_, Builtin.max_, hargs, hy] <;> simpa using hr

theorem pur_one {strict : Bool} {x : V} {u : Value} (hx : RV P E l x u) {kk : List C → Loc → Option R} (h : pur P strict x l kk = some r) (h1 : oneV x = true) : u.oneCell' = true := by
  cases x with
  | c c => cases hx with | c hc => exact hc.one
  | agg cs => cases h1
  | own s off n =>
    cases hx with
    | ownDead hd => cases strict <;> simp [pur, hd, objTC] at h
    | ownRf hd => cases strict <;> simp [pur, hd, objTC] at h
    | ownNil _ _ => rfl
    | own _ _ _ _ _ => rfl
    | own0 _ _ _ => rfl
  | ptr s off =>
    cases hx with
    | ptrDead hd => cases strict <;> simp [pur, hd, objTC] at h
    | ptr _ => rfl
  | _ => cases strict <;> cases h

theorem constC_rc {w : World} {Pr : Nat → Nat → Prop} {x : Value} {c : C} (h : constC x = some c) : RC w Pr c x := by
  unfold constC at h
  split at h
  · injection h with h; subst h; exact .nl
  · rename_i f first cap
    split at h
    · rename_i hs
      injection h with h; subst h
      have e1 : first = #[] := Array.eq_empty_of_size_eq_zero hs.1
      have e2 : cap = #[] := Array.eq_empty_of_size_eq_zero hs.2
      subst e1 e2
      exact .fn (us := []) rfl (by simp)
    · cases h
  · split at h
    · rename_i hs; injection h with h; subst h; exact .v hs
    · cases h

theorem constCs_rc {w : World} {Pr : Nat → Nat → Prop} : ∀ {xs : List Value} {cs : List C} (_ : constCs xs = some cs), RCs w Pr cs xs
  | [], cs, h => by injection h with h; subst h; exact .nil
  | x :: xs, cs, h => by
    unfold constCs at h
    split at h
    · rename_i c cs' h1 h2
      injection h with h; subst h
      exact .cons (constC_rc h1) (constCs_rc h2)
    · cases h

theorem zeroCs_run {t : TypeId} {zs : List C} (h : zeroCs P t = some zs) (w : World) : ∃ i z, P.info? t = some i ∧ i.zero = some z ∧ (zeroValue t).run P w = .ok z w ∧ zs.length = i.size ∧ ∀ w' Pr, RCs w' Pr zs z.cells.toList := by
  unfold zeroCs at h
  split at h
  · rename_i i hi
    split at h
    · rename_i z hz
      split at h
      · rename_i cs hcs
        cases hb : Nat.beq cs.length i.size with
        | false => rw [hb] at h; cases h
        | true =>
          rw [hb] at h
          injection h with h; subst h
          exact ⟨i, z, hi, hz, by simp [zeroValue, typeInfo, hi, hz], Nat.eq_of_beq_eq_true hb, fun _ _ => constCs_rc hcs⟩
      · cases h
    · cases h
  · cases h

theorem op_alloc (hG : Good P A E l pend) {t : TypeId} {d : Nat} (ho : o.op = .alloc t) (hp : pend d) (ht : A.pt d = t) (href : ∀ s' t x, l s' = .rf t x → x.at d = false) (h0 : k (.ptr d 0) l [] = some r) :
    Sound P A E l (fun s => pend s ∧ s ≠ d) ((execOp ρ o).run P E.w) k r := by
  obtain ⟨hr, cs, hz, hl⟩ := hG.pnd d hp
  rw [ht] at hz hl
  obtain ⟨i, z, hi, hiz, hrun, hlen, hrc⟩ := zeroCs_run hz E.w
  have hRC : RCs E.w E.Pr cs z.cells.toList := hrc _ _
  have hG1 := hG.new (s := d) (pend' := fun s => pend s ∧ s ≠ d) (.inr ⟨hp, fun _ => Iff.rfl⟩) (cur := z.cells) (t := t) (cs := cs) (o := .ob t 0 cs) (.inl rfl) (Nat.zero_le _) (by have := hRC.len; simp at this; omega) (by rw [List.take_of_length_le (by have := hRC.len; omega)]; exact hRC) href
  have hput : l.put d (.ob t 0 cs) = l := by
    refine Loc.eq (fun s => ?_) rfl
    by_cases hs : s = d
    · subst hs; rw [put_same, hl]
    · rw [put_other l _ hs]
  rw [hput] at hG1
  have hrun' : (execOp ρ o).run P E.w = .ok (.value (.pointer (some ⟨E.w.heap.size, 0, none⟩))) (E.w.alloc (.cells z.cells t)) := by
    simp [execOp, ho, Instr.alloc, hrun, newVar, newRow]
  rw [hrun']
  refine ⟨_, _, _, h0, E.new d z.cells t, rfl, ⟨hG1, rfl⟩, .ptr (by simp [Env.new]), fun y v hy _ => hy.mono2 (fun _ => False) (held_alloc _ _ _ fun b k hp => (hG.prot b k hp).1) (fun s _ => ?_) (fun _ h => h.elim)⟩
  by_cases hs : s = d
  · subst hs; exact .inr ⟨hr, t, 0, cs, hl⟩
  · have := Keeps1.new hG d z.cells t (.ob t 0 cs) hs
    rw [hput] at this
    exact .inl this

end
end Go.PM
