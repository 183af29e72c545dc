/- The pure machine: a region's operations, in the order of the text and in any order that its edges allow. -/
import Derived.Test.YtepjbmlhfhahcaaPMs
import Derived.Orders
set_option linter.unusedVariables false
set_option linter.unusedSimpArgs false
namespace Go.PM
open Go

variable {P : Program}

/-- One operation with its guard. -/
noncomputable def gop (cf : Cfg) (strict : Bool) (dsts : Nat → Option Nat) (o : Oper) (σ : St) : Option St :=
  match o.guard with
  | none => opK cf strict o σ.ev σ.loc fun x l ks => need (okKs ks) (some (σ.after o.dst x l ks))
  | some (j, want) =>
    match dsts j with
    | none => none
    | some d =>
      match σ.get d with
      | .c (.v (.bool q)) => bif q == want then opK cf strict o σ.ev σ.loc (fun x l ks => need (okKs ks) (some (σ.after o.dst x l ks))) else some (σ.after o.dst .un σ.loc [])
      | .un => some (σ.after o.dst .un σ.loc [])
      | _ => none

noncomputable def runG (cf : Cfg) (strict : Bool) (dsts : Nat → Option Nat) : List Oper → St → Option St
  | [], σ => some σ
  | o :: os, σ => (gop cf strict dsts o σ).bind (runG cf strict dsts os)

theorem set_get {l : Sl} {d : Nat} {x : V} (h : l.get d = x) (hx : x ≠ .und) : l.set d x = l := by
  by_cases hd : d < l.length
  · rw [Sl.get_lt hd] at h
    cases l with
    | mk f n =>
      simp only [Sl.set]
      congr 1
      funext t
      cases e : Nat.beq t d
      · rfl
      · rw [Nat.eq_of_beq_eq_true e]; exact h.symm
  · rw [Sl.get_ge hd] at h; exact absurd h.symm hx

theorem put_get {σ : St} {d : Nat} {x : V} (h : σ.get d = x) (hx : x ≠ .und) : σ.put (some d) x σ.loc = σ := by
  cases σ with
  | mk sl l => simp only [St.put]; rw [set_get h hx]

theorem opsK_ref {R : Type} {r : R} {cf : Cfg} {strict : Bool} {dsts : Nat → Option Nat} : ∀ {os : List Oper} {σ : St} {k : St → Option R} (_ : opsK cf strict dsts os σ k = some r), ∃ σ', runG cf strict dsts os σ = some σ' ∧ k σ' = some r
  | [], σ, k, h => ⟨σ, rfl, h⟩
  | o :: os, σ, k, h => by
    unfold opsK at h
    have step : ∀ {σ0 : St}, opK cf strict o σ0.ev σ0.loc (fun x l ks => need (okKs ks) (opsK cf strict dsts os (σ0.after o.dst x l ks) k)) = some r → ∃ σ1, opK cf strict o σ0.ev σ0.loc (fun x l ks => need (okKs ks) (some (σ0.after o.dst x l ks))) = some σ1 ∧ ∃ σ', runG cf strict dsts os σ1 = some σ' ∧ k σ' = some r := by
      intro σ0 h
      obtain ⟨x, l', ks, h1, h2⟩ := opK_nat h
      obtain ⟨h3, h4⟩ := need_some h2
      exact ⟨_, (h1 _).trans (by rw [h3]; rfl), opsK_ref h4⟩
    split at h
    · rename_i hg
      obtain ⟨σ1, h1, σ', h2, h3⟩ := step h
      exact ⟨σ', by simp only [runG, gop, hg, h1, Option.bind_some]; exact h2, h3⟩
    · rename_i j want hg
      split at h
      · cases h
      · rename_i d hd
        split at h
        · rename_i q hq
          have hb : ∀ b : Bool, σ.get d = B b → σ.put (some d) (B b) σ.loc = σ := fun b hb => put_get hb (by simp)
          have yes : q = want → opK cf strict o σ.ev σ.loc (fun x l ks => need (okKs ks) (opsK cf strict dsts os (σ.after o.dst x l ks) k)) = some r → ∃ σ', runG cf strict dsts (o :: os) σ = some σ' ∧ k σ' = some r := by
            intro hqw h
            obtain ⟨σ1, h1, σ', h2, h3⟩ := step h
            refine ⟨σ', ?_, h3⟩
            have : (q == want) = true := by simp [hqw]
            simp only [runG, gop, hg, hd, hq, this, cond_true, h1, Option.bind_some]; exact h2
          have no : q ≠ want → opsK cf strict dsts os (σ.after o.dst .un σ.loc []) k = some r → ∃ σ', runG cf strict dsts (o :: os) σ = some σ' ∧ k σ' = some r := by
            intro hqw h
            obtain ⟨σ', h2, h3⟩ := opsK_ref h
            refine ⟨σ', ?_, h3⟩
            have : (q == want) = false := by simp [hqw]
            simp only [runG, gop, hg, hd, hq, this, cond_false, Option.bind_some]; exact h2
          cases want <;> cases q <;> simp only [cond_true, cond_false] at h
          · rw [hb false hq] at h; exact yes rfl h
          · rw [hb true hq] at h; exact no (by simp) h
          · rw [hb false hq] at h; exact no (by simp) h
          · rw [hb true hq] at h; exact yes rfl h
        · rename_i hq
          obtain ⟨σ', h2, h3⟩ := opsK_ref h
          exact ⟨σ', by simp only [runG, gop, hg, hd, hq, Option.bind_some]; exact h2, h3⟩
        · cases h

/-- What a run through a region holds. -/
structure RelR (P : Program) (cf : Cfg) (A : Fr) (σ : St) (pend : Nat → Prop) (a : Act) (w : World) : Prop where
  ex : ∃ E, E.w = w ∧ Rel P A E σ pend a

theorem rv_ev {A : Fr} {E : Env} {σ : St} {pend : Nat → Prop} {a : Act} (h : Rel P A E σ pend a) (y : Operand) : RV P E σ.loc (σ.ev y) (a.eval y) := by
  cases y with
  | tmp t =>
    by_cases ht : t < σ.slots.length
    · exact h.slots t ht
    · show RV P E σ.loc (σ.get t) _
      have : σ.get t = .und := Sl.get_ge ht
      rw [this]; exact .und
  | const x =>
    show RV P E σ.loc (constV x) x
    unfold constV
    split
    · rename_i cs
      split
      · rename_i l hl
        have := RV.agg (P := P) (E := E) (l := σ.loc) (us := cs.toList) (constCs_rc hl)
        simpa using this
      · exact .und
    · split
      · rename_i c hc; exact .c (constC_rc hc)
      · exact .und
  | global g => exact .und
  | func f => exact .c (.fn (us := []) rfl (by simp))

theorem gh_at {s k : Nat} (h : s < OUT) : (V.gh (OUT + k)).at s = false := by
  show Nat.beq (OUT + k) s = false
  cases e : Nat.beq (OUT + k) s
  · rfl
  · have := Nat.eq_of_beq_eq_true e; omega

theorem rel_after {A : Fr} {E : Env} {σ : St} {pend pend' : Nat → Prop} {a : Act} (h : Rel P A E σ pend a) {x : V} {l' : Loc} {ks : List Nat} {u : Value} {w' : World} {dst : Option Nat} (htm : ∀ d, dst = some d → A.tm d = none) (hks : okKs ks = true) (hup : Up P A E σ.loc pend' x l' ks u w') :
    ∃ E', E'.w = w' ∧ Rel P A E' (σ.after dst x l' ks) pend' (a.put dst u) := by
  obtain ⟨E', h1, ⟨h2, h2d⟩, h3, h4⟩ := hup
  have hk : ∀ (ks : List Nat) (sl : Sl), (killAll ks sl).length = sl.length := by
    intro ks sl
    induction ks with
    | nil => rfl
    | cons s ks ih => simp only [killAll, List.foldr_cons, Sl.map_length]; exact ih
  have hkg : ∀ (ks : List Nat) (sl : Sl) (t : Nat) (v : Value), t < sl.length → RV P E σ.loc (sl.get t) v → ∃ y, (killAll ks sl).get t = y ∧ RV P E σ.loc y v ∧ ∀ s ∈ ks, y.at s = false := by
    intro ks sl t v ht hv
    induction ks with
    | nil => exact ⟨_, rfl, hv, by simp⟩
    | cons s ks ih =>
      obtain ⟨y, e, hy, hat⟩ := ih
      have hl : t < (killAll ks sl).length := by rw [hk]; exact ht
      refine ⟨y.kill s, ?_, hy.kill s, fun s' hs' => ?_⟩
      · show ((killAll ks sl).map (V.kill s)).get t = y.kill s
        rw [Sl.map_lt hl, e]
      · rcases List.mem_cons.1 hs' with rfl | hs'
        · exact at_kill s' y
        · unfold V.kill
          cases y.at s
          · exact hat s' hs'
          · rfl
  have hloc : (σ.after dst x l' ks).loc = l' := by cases dst <;> rfl
  refine ⟨E', h1, ?_, ?_, ?_, ?_, ?_, ?_, ?_⟩
  · rw [hloc]; exact h2
  · rw [hloc]
    intro t ht
    have hlen : t < σ.slots.length := by
      cases dst <;> simp [St.after, St.put, hk] at ht <;> exact ht
    have base : ∀ v, RV P E σ.loc (σ.get t) v → RV P E' l' ((killAll ks σ.slots).get t) v := by
      intro v hv
      obtain ⟨y, e, hy, hat⟩ := hkg ks σ.slots t v hlen hv
      rw [e]; exact h4 y v hy hat
    cases dst with
    | none => exact base _ (h.slots t hlen)
    | some d =>
      by_cases hd : d = t
      · subst hd
        have hkl : d < (killAll ks σ.slots).length := by rw [hk]; exact hlen
        have e1 : (σ.after (some d) x l' ks).get d = x := Sl.set_self hkl
        have hal : d < a.tmps.size := by rw [h.size]; exact hlen
        have e2 : (a.put (some d) u).tmps.getD d undef = u := by simp [Act.put, Array.getD, hal]
        rw [e1, e2]; exact h3
      · have e1 : (σ.after (some d) x l' ks).get t = (killAll ks σ.slots).get t := Sl.set_ne hd
        have e2 : (a.put (some d) u).tmps.getD t undef = a.tmps.getD t undef := by
          simp only [Act.put, Array.getD, Array.size_setIfInBounds]
          by_cases hlt : t < a.tmps.size
          · simp [hlt, Array.getElem_setIfInBounds_ne, hd]
          · simp [hlt]
        rw [e1, e2]; exact base _ (h.slots t hlen)
  · cases dst <;> simp [Act.put, St.after, St.put, hk, h.size]
  · rw [h2d]; cases dst <;> exact h.defers
  · intro t v hv
    have := h.tm t v hv
    cases dst with
    | none => exact this
    | some d =>
      have hd : d ≠ t := fun e => by subst e; rw [htm d rfl] at hv; cases hv
      have e2 : (a.put (some d) u).tmps.getD t undef = a.tmps.getD t undef := by
        simp only [Act.put, Array.getD, Array.size_setIfInBounds]
        by_cases hlt : t < a.tmps.size
        · simp [hlt, Array.getElem_setIfInBounds_ne, hd]
        · simp [hlt]
      rw [e2]; exact this
  · rw [← h.len]; cases dst <;> simp [St.after, St.put, hk]
  · intro k g n hk'
    rw [hloc]
    exact h4 _ _ (h.outs k g n hk') fun s hs => gh_at (Nat.le_of_ble_eq_true (List.all_eq_true.1 hks s hs))

end Go.PM
