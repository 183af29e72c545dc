/- The pure machine: what a function hands back. -/
import Derived.Test.YtepjbmlhfhahcaaPNa
set_option linter.unusedVariables false
set_option linter.unusedSimpArgs false
namespace Go.PM
open Go

variable {P : Program} {R : Type} {r : R}

def resF (tmps : Array Value) : ResultVar → Sem Value
  | .tmp t => pure (tmps.getD t undef)
  | .cell a t => do loadVar t (← asAddr (tmps.getD a undef))

theorem run_mapM {tmps : Array Value} {w : World} : ∀ (rs : List ResultVar) (us : List Value), rs.length = us.length → (∀ (j : Nat) (x : ResultVar) (u : Value), rs[j]? = some x → us[j]? = some u → (resF tmps x).run P w = .ok u w) →
    (rs.mapM (resF tmps)).run P w = .ok us w
  | [], [], _, _ => by simp
  | [], u :: us, h, _ => by simp at h
  | x :: rs, [], h, _ => by simp at h
  | x :: rs, u :: us, h, hr => by
    have h1 := hr 0 x u rfl rfl
    have h2 := run_mapM rs us (by simpa using h) fun j x u hx hu => hr (j + 1) x u (by simpa using hx) (by simpa using hu)
    rw [List.mapM_cons]
    simp [h1, h2]

def tupOf : List Value → Value
  | [u] => u
  | us => .tuple us.toArray

theorem run_results {fn : Func} {tmps : Array Value} {w : World} {us : List Value} (hl : fn.results.toList.length = us.length) (h : ∀ (j : Nat) (x : ResultVar) (u : Value), fn.results.toList[j]? = some x → us[j]? = some u → (resF tmps x).run P w = .ok u w) :
    (results fn tmps).run P w = .ok (tupOf us) w := by
  have e : results fn tmps = (do
      let vs ← fn.results.mapM (resF tmps)
      pure (if h : vs.size = 1 then vs[0] else .tuple vs)) := by
    unfold results
    congr 1
  rw [e, Array.mapM_eq_mapM_toList]
  have := run_mapM (P := P) (tmps := tmps) (w := w) fn.results.toList us hl h
  simp only [Sem.run_bind, Sem.run_map, this, Result.andThen_ok, Sem.run_pure]
  cases us with
  | nil => simp [tupOf]
  | cons u us => cases us <;> simp [tupOf]

section
variable {A : Fr} {E : Env} {σ : St} {l : Loc} {a : Act}

def oneK (k : V → Loc → List Obj → Option R) : List C → Loc → Option R := fun cs l' => match cs with | [c] => k (.c c) l' [] | _ => none

/-- A result that is a value. -/
def Plain (v : V) : Prop := (∃ c, v = .c c) ∨ ∃ cs, v = .agg cs

/-- A result that is handed out as a new object. -/
inductive NewR (P : Program) (E : Env) (l : Loc) (m : Nat) : NewO → V → Value → Prop
  | own {s n : Nat} {te : TypeId} {u : Value} (h : RV P E l (.own s 0 n) u) : NewR P E l m (some s, te, some (n * szOf P te)) (.own (OUT + m) 0 n) u
  | ptr {s : Nat} {te : TypeId} {u : Value} (h : RV P E l (.ptr s 0) u) : NewR P E l m (some s, te, none) (.ptr (OUT + m) 0) u
  | nil {te : TypeId} : NewR P E l m (none, te, some 0) (.own (OUT + m) 0 0) (.slice none 0 0)
theorem NewR.mono {E E' : Env} {l l' : Loc} (hx : ∀ y v, RV P E l y v → RV P E' l' y v) {m : Nat} {q : NewO} {v : V} {u : Value} (h : NewR P E l m q v u) : NewR P E' l' m q v u := by
  cases h with
  | own h => exact .own (hx _ _ h)
  | ptr h => exact .ptr (hx _ _ h)
  | nil => exact .nil

theorem outOwn_sound {E : Env} {l : Loc} {te m : Nat} {x : V} {u : Value} (hx : RV P E l x u) {k : V → Loc → List NewO → Option R} (h : outOwn P te m x l k = some r) : ∃ v q, k v l [q] = some r ∧ NewR P E l m q v u := by
  unfold outOwn at h
  split at h
  · obtain ⟨hb, h'⟩ := need_some h
    have := Nat.eq_of_beq_eq_true hb
    subst this
    exact ⟨_, _, h', .own hx⟩
  · cases hx with | c hc => cases hc with | nl => exact ⟨_, _, h, .nil⟩
  · cases h

theorem resV_sound (hr : Rel P A E ⟨σ.slots, l⟩ (fun _ => False) a) {ex : Option TypeId} {m : Nat} {x : ResultVar} {k : V → Loc → List NewO → Option R} (h : resV P ex m σ l x k = some r) :
    ∃ v l' os E' u, k v l' os = some r ∧ E'.w = E.w ∧ Rel P A E' ⟨σ.slots, l'⟩ (fun _ => False) a ∧ (∀ y v, RV P E l y v → RV P E' l' y v) ∧ Held E.w E.Pr E'.w E'.Pr ∧ (resF a.tmps x).run P E.w = .ok u E.w ∧
      ((Plain v ∧ os = [] ∧ RV P E' l' v u) ∨ ∃ q, os = [q] ∧ NewR P E' l' m q v u) := by
  have slot : ∀ t y, σ.get t = y → y ≠ .und → RV P E l y (a.tmps.getD t undef) := fun t y hy hn => by
    by_cases ht : t < σ.slots.length
    · have := hr.slots t ht
      have e : St.get ⟨σ.slots, l⟩ t = y := hy
      rw [e] at this; exact this
    · rw [rv_und (E := E) (l := l) (u := undef) ht] at hy; exact absurd hy.symm hn
  have new1 : ∀ {y : V} {u : Value} {te : TypeId}, RV P E l y u → (resF a.tmps x).run P E.w = .ok u E.w → outOwn P te m y l k = some r →
      ∃ v l' os E' u, k v l' os = some r ∧ E'.w = E.w ∧ Rel P A E' ⟨σ.slots, l'⟩ (fun _ => False) a ∧ (∀ y v, RV P E l y v → RV P E' l' y v) ∧ Held E.w E.Pr E'.w E'.Pr ∧ (resF a.tmps x).run P E.w = .ok u E.w ∧
      ((Plain v ∧ os = [] ∧ RV P E' l' v u) ∨ ∃ q, os = [q] ∧ NewR P E' l' m q v u) := by
    intro y u te hy hrun ho
    obtain ⟨v, q, hk, hq⟩ := outOwn_sound hy ho
    exact ⟨v, l, [q], E, u, hk, rfl, hr, fun _ _ h => h, .refl _ _, hrun, .inr ⟨q, rfl, hq⟩⟩
  have pure1 : ∀ {y : V} {u : Value}, RV P E l y u → oneV y = true → (resF a.tmps x).run P E.w = .ok u E.w → pur P false y l (fun cs l' => match cs with | [c] => k (.c c) l' [] | _ => none) = some r →
      ∃ v l' os E' u, k v l' os = some r ∧ E'.w = E.w ∧ Rel P A E' ⟨σ.slots, l'⟩ (fun _ => False) a ∧ (∀ y v, RV P E l y v → RV P E' l' y v) ∧ Held E.w E.Pr E'.w E'.Pr ∧ (resF a.tmps x).run P E.w = .ok u E.w ∧
      ((Plain v ∧ os = [] ∧ RV P E' l' v u) ∨ ∃ q, os = [q] ∧ NewR P E' l' m q v u) := by
    intro y u hy ho hrun hp
    have h1 := pur_one hy hp ho
    obtain ⟨cs, l1, E1, hk, hG, hM, hc, _⟩ := pur_sound (show Good P A E l (fun _ => False) from hr.good) hy hp
    rw [cells_one h1] at hc
    split at hk
    · rename_i c
      obtain ⟨u', us, e, hcu, _⟩ := hc.uncons
      have e' : u = u' := by simpa using congrArg List.head? e
      subst e'
      have hr1 : Rel P A E1 ⟨σ.slots, l1⟩ (fun _ => False) a := ⟨hG, fun t' ht' => hM.rv (hr.slots t' ht'), hr.size, by rw [hM.D]; exact hr.defers, hr.tm, hr.len, fun k g n hk => hM.rv (hr.outs k g n hk)⟩
      exact ⟨_, _, _, E1, u, hk, hM.w, hr1, fun _ _ h => hM.rv h, hM.held, hrun, .inl ⟨.inl ⟨_, rfl⟩, rfl, .c hcu⟩⟩
    · cases hk
  cases x with
  | tmp t =>
    have hrun : (resF a.tmps (.tmp t)).run P E.w = .ok (a.tmps.getD t undef) E.w := by simp [resF]
    simp only [resV] at h
    split at h
    · rename_i c hc
      split at h
      · exact new1 (slot t _ hc (by simp)) hrun h
      · exact ⟨_, _, _, E, _, h, rfl, hr, fun _ _ h => h, .refl _ _, hrun, .inl ⟨.inl ⟨_, rfl⟩, rfl, slot t _ hc (by simp)⟩⟩
    · rename_i cs hc
      exact ⟨_, _, _, E, _, h, rfl, hr, fun _ _ h => h, .refl _ _, hrun, .inl ⟨.inr ⟨_, rfl⟩, rfl, slot t _ hc (by simp)⟩⟩
    · rename_i s off n hc
      split at h
      · exact new1 (slot t _ hc (by simp)) hrun h
      · exact pure1 (slot t _ hc (by simp)) rfl hrun h
    · rename_i s off hc
      split at h
      · obtain ⟨h0, h'⟩ := need_some h
        have e1 := Nat.eq_of_beq_eq_true h0
        subst e1
        exact ⟨_, _, _, E, _, h', rfl, hr, fun _ _ h => h, .refl _ _, hrun, .inr ⟨_, rfl, .ptr (slot t _ hc (by simp))⟩⟩
      · exact pure1 (slot t _ hc (by simp)) rfl hrun h
    · cases h
  | cell b t =>
    simp only [resV] at h
    split at h
    · rename_i s off hc
      have hx := slot b _ hc (by simp)
      have addr : ∀ ad v, a.tmps.getD b undef = .pointer (some ad) → (loadVar t ad).run P E.w = .ok v E.w → (resF a.tmps (.cell b t)).run P E.w = .ok v E.w := by
        intro ad v h1 h2
        simp [resF, h1, h2, asAddr]
      generalize hu : a.tmps.getD b undef = u at hx
      split at h
      · rename_i t' fz cs hl
        split at h
        · cases h
        cases hx with
        | ptrDead hd => rw [hd] at hl; cases hl
        | @ptr _ _ g hg =>
          have hat := ((blk_of (show Good P A E l (fun _ => False) from hr.good) (show objTC (l s) = some (t', fz, cs) by rw [hl]; rfl) hg).1.at_).drop off
          rw [Nat.zero_add] at hat
          obtain ⟨d, hd⟩ := ldC_desc h
          obtain ⟨v, u', hk, hr', hv⟩ := run_loadVar_at (P := P) hd hat h
          refine ⟨v, l, [], E, u', hk, rfl, hr, fun _ _ h => h, .refl _ _, addr _ _ hu hr', .inl ⟨?_, rfl, rv_loaded hv⟩⟩
          rcases hv with ⟨c, e, _⟩ | ⟨cs', _, e, _⟩
          · exact .inl ⟨c, e⟩
          · exact .inr ⟨cs', e⟩
      · rename_i t' s' off' n' hl
        obtain ⟨hb, h'⟩ := need_some h
        simp only [Bool.and_eq_true, Bool.not_eq_true', Option.isSome_iff_exists] at hb
        obtain ⟨⟨hb1, hb2⟩, d, hd⟩ := hb
        have hoff : off = 0 := Nat.eq_of_beq_eq_true hb1
        subst hoff
        cases hx with
        | ptrDead hd' => rw [hd'] at hl; cases hl
        | @ptr _ _ g hg =>
          have h0 := hr.good.obj s (fun h => h)
          have hl' : St.loc ⟨σ.slots, l⟩ s = .rf t' (.own s' off' n') := hl
          rw [hl'] at h0
          cases h0 with
          | @rf _ _ _ cur u' h1 h2 h2' h3 h4 h5 =>
            rw [hg] at h1; injection h1 with h1; subst h1
            have hc : E.w.cell? ⟨g, 0, none⟩ = some u' := (cell_of_row E.w _ 0 _ _ _ h2).trans h2'
            have hrun : (resF a.tmps (.cell b t)).run P E.w = .ok u' E.w := addr _ _ hu (by simp [loadVar, aggB_run t E.w d hd, hb2, hc])
            split at h'
            · exact new1 h3 hrun h'
            · exact pure1 h3 rfl hrun h'
      · cases h
    · cases h
end

end Go.PM
