/- The pure machine: operations that leave the world alone. -/
import Derived.Test.YtepjbmlhfhahcaaPMd
import Derived.Laws.StructEq
set_option linter.unusedVariables false
set_option linter.unusedSimpArgs false
namespace Go.PM
open Go

variable {P : Program}

/-- What an operation comes to, a call by its contract. -/
def Gives (P : Program) (run : Result Next) (Φ : Value → World → Prop) : Prop :=
  match run with
  | .ok (.value u) w' => Φ u w'
  | .ok .skip w' => Φ undef w'
  | .ok (.enter f args) w' => Calls P f args w' (fun e w'' => ∃ u, e = .returned u ∧ Φ u w'')
  | .ok (.round l f tmps assign body) w' => RoundIn Fence.wide 0 P l f tmps assign body w' (fun e w'' => ∃ u, e = .returned u ∧ Φ u w'')
  | _ => False

/-- Behind an operation: the world goes on, all slots but those that were struck read as they did, the new value reads so. -/
def Up (P : Program) (A : Fr) (E : Env) (l : Loc) (pend : Nat → Prop) (x : V) (l' : Loc) (ks : List Nat) (u : Value) (w' : World) : Prop :=
  ∃ E', E'.w = w' ∧ (Good P A E' l' pend ∧ E'.D = E.D) ∧ RV P E' l' x u ∧ ∀ y v, RV P E l y v → (∀ s ∈ ks, y.at s = false) → RV P E' l' y v

def Sound (P : Program) (A : Fr) (E : Env) (l : Loc) (pend : Nat → Prop) (run : Result Next) {R : Type} (k : V → Loc → List Nat → Option R) (r : R) : Prop :=
  ∃ x l' ks, k x l' ks = some r ∧ Gives P run (Up P A E l pend x l' ks)

section
variable {A : Fr} {E : Env} {l : Loc} {pend : Nat → Prop} {R : Type} {k : V → Loc → List Nat → Option R} {r : R}

theorem Sound.quiet (hG : Good P A E l pend) {x : V} {u : Value} (hk : k x l [] = some r) (hx : RV P E l x u) : Sound P A E l pend (.ok (.value u) E.w) k r :=
  ⟨x, l, [], hk, E, rfl, ⟨hG, rfl⟩, hx, fun _ _ h _ => h⟩

theorem Sound.mild {l1 : Loc} {E1 : Env} (hG : Good P A E1 l1 pend) (hM : Mild E E1 l l1) {x : V} {u : Value} (hk : k x l1 [] = some r) (hx : RV P E1 l1 x u) : Sound P A E l pend (.ok (.value u) E.w) k r :=
  ⟨x, l1, [], hk, E1, hM.w, ⟨hG, hM.D⟩, hx, fun _ _ h _ => hM.rv h⟩

end

section looks
variable {R : Type}

theorem getLf_eq {l : Lf} {c : C} {k : C → Option R} {r : R} (h : getLf l c k = some r) : k c = some r := by
  cases l with
  | o => exact h
  | i kd =>
    simp only [getLf, asI] at h
    split at h
    · split at h
      · rename_i hk; rw [← hk] at h; exact h
      · cases h
    · cases h
  | b =>
    simp only [getLf, asB] at h
    split at h
    · exact h
    · cases h
  | s =>
    simp only [getLf, asS] at h
    split at h
    · exact h
    · cases h

theorem getLfs_eq : ∀ {ls : List Lf} {cs : List C} {k : List C → Option R} {r : R} (_ : getLfs ls cs k = some r), ls.length ≤ cs.length ∧ k (cs.take ls.length) = some r
  | [], cs, k, r, h => ⟨Nat.zero_le _, h⟩
  | l :: ls, [], k, r, h => by cases h
  | l :: ls, c :: cs, k, r, h => by
    have h1 := getLfs_eq (getLf_eq (show getLf l c (fun c' => getLfs ls cs fun cs' => k (c' :: cs')) = some r from h))
    exact ⟨by simp; exact h1.1, by simpa using h1.2⟩

theorem ldC_eq {t : TypeId} {cs : List C} {k : V → Option R} {r : R} (h : ldC P t cs k = some r) :
    ∃ i, P.info? t = some i ∧ ((aggB P t = true ∧ i.size ≤ cs.length ∧ k (.agg (cs.take i.size)) = some r) ∨ (aggB P t = false ∧ ∃ c rest, cs = c :: rest ∧ k (.c c) = some r)) := by
  unfold ldC at h
  cases hi : P.info? t with
  | none => rw [hi] at h; cases h
  | some i =>
    rw [hi] at h
    refine ⟨i, rfl, ?_⟩
    cases ha : aggB P t with
    | true =>
      rw [ha] at h
      left
      cases hl : leaves P 20 t with
      | none =>
        rw [hl] at h
        obtain ⟨h1, h2⟩ := need_some h
        exact ⟨rfl, Nat.le_of_ble_eq_true h1, h2⟩
      | some ls =>
        rw [hl] at h
        obtain ⟨h1, h2⟩ := need_some h
        have h3 := getLfs_eq h2
        have h4 : ls.length = i.size := Nat.eq_of_beq_eq_true h1
        rw [h4] at h3
        exact ⟨rfl, h3.1, h3.2⟩
    | false =>
      rw [ha] at h
      right
      refine ⟨rfl, ?_⟩
      cases hl : leaves P 20 t with
      | none => rw [hl] at h; cases h
      | some ls =>
        rw [hl] at h
        match ls, h with
        | [], h => cases h
        | _ :: _ :: _, h => cases h
        | [f], h =>
          cases cs with
          | nil => cases h
          | cons c rest => exact ⟨c, rest, rfl, getLf_eq (show getLf f c (fun c' => k (.c c')) = some r from h)⟩

theorem aggB_run (t : TypeId) (w : World) (d : TypeDesc) (h : P.underlying t = some d) : (isAgg t).run P w = .ok (aggB P t) w := by
  unfold isAgg aggB
  simp only [Sem.run_bind, run_underlying h, Result.andThen_ok, h]
  cases d <;> rfl

theorem info_underlying {t : TypeId} {i : TypeInfo} (ha : aggB P t = true) : ∃ d, P.underlying t = some d := by
  unfold aggB at ha
  cases h : P.underlying t with
  | none => rw [h] at ha; cases ha
  | some d => exact ⟨d, rfl⟩
end looks

theorem add_none (g o j : Nat) : (⟨g, o, none⟩ : Addr).add j = ⟨g, o + j, none⟩ := by
  unfold Addr.add; split <;> simp_all

theorem At.list {w : World} {Pr : Nat → Nat → Prop} : ∀ {cs : List C} {g o : Nat} (_ : At w Pr g o cs), ∃ us : List Value, (∀ (j : Nat) (u : Value), us[j]? = some u → w.cell? ⟨g, o + j, none⟩ = some u) ∧ RCs w Pr cs us
  | [], g, o, _ => ⟨[], by simp, .nil⟩
  | c :: cs, g, o, h => by
    obtain ⟨u, hu, hc⟩ := h 0 c rfl
    obtain ⟨us, h1, h2⟩ := At.list (cs := cs) (g := g) (o := o + 1) (fun j c' hj => by
      have := h (j + 1) c' (by simpa using hj)
      rwa [show o + (j + 1) = o + 1 + j by omega] at this)
    refine ⟨u :: us, fun j v hv => ?_, .cons hc h2⟩
    cases j with
    | zero => simp at hv; subst hv; exact hu
    | succ j => rw [show o + (j + 1) = o + 1 + j by omega]; exact h1 j v (by simpa using hv)

theorem RCs.len {w : World} {Pr : Nat → Nat → Prop} {cs : List C} {us : List Value} (h : RCs w Pr cs us) : us.length = cs.length := h.1

theorem run_sizeOf {t : TypeId} {i : TypeInfo} (hi : P.info? t = some i) (w : World) : (sizeOf t).run P w = .ok i.size w := by simp [sizeOf, typeInfo, hi]

/-- A variable is read. -/
theorem run_loadVar_at {w : World} {Pr : Nat → Nat → Prop} {t : TypeId} {d : TypeDesc} (hd : P.underlying t = some d) {g o : Nat} {cs : List C} (h : At w Pr g o cs) {R : Type} {k : V → Option R} {r : R}
    (h0 : ldC P t cs k = some r) : ∃ v u, k v = some r ∧ (loadVar t ⟨g, o, none⟩).run P w = .ok u w ∧ ((∃ c, v = .c c ∧ RC w Pr c u) ∨ (∃ cs' us, v = .agg cs' ∧ u = .agg us.toArray ∧ RCs w Pr cs' us)) := by
  obtain ⟨i, hi, ⟨ha, hle, hk⟩ | ⟨ha, c, rest, e, hk⟩⟩ := ldC_eq h0
  · obtain ⟨us, h1, h2⟩ := (h.take i.size).list
    have hl : us.length = i.size := by rw [h2.len, List.length_take]; omega
    have hrun := run_loadCells_list (P := P) w ⟨g, o, none⟩ us (fun j v hv => by rw [add_none]; exact h1 j v hv)
    rw [hl] at hrun
    exact ⟨_, .agg us.toArray, hk, by simp [loadVar, aggB_run t w d hd, ha, run_sizeOf hi, hrun], .inr ⟨_, us, rfl, rfl, h2⟩⟩
  · subst e
    obtain ⟨u, hu, hc⟩ := h 0 c rfl
    refine ⟨_, u, hk, ?_, .inl ⟨c, rfl, hc⟩⟩
    rw [Nat.add_zero] at hu
    simp [loadVar, aggB_run t w d hd, ha, hu]

theorem rv_loaded {E : Env} {l : Loc} {v : V} {u : Value} (h : (∃ c, v = .c c ∧ RC E.w E.Pr c u) ∨ (∃ cs' us, v = .agg cs' ∧ u = .agg us.toArray ∧ RCs E.w E.Pr cs' us)) : RV P E l v u := by
  rcases h with ⟨c, rfl, hc⟩ | ⟨cs', us, rfl, rfl, hc⟩
  · exact .c hc
  · exact .agg hc

theorem ldC_desc {t : TypeId} {cs : List C} {R : Type} {k : V → Option R} {r : R} (h : ldC P t cs k = some r) : ∃ d, P.underlying t = some d := by
  obtain ⟨i, hi, ⟨ha, _⟩ | ⟨ha, c, rest, e, _⟩⟩ := ldC_eq h
  · exact info_underlying (i := i) ha
  · unfold ldC at h
    rw [hi, ha] at h
    cases hu : P.underlying t with
    | some d => exact ⟨d, rfl⟩
    | none =>
      have : leaves P 20 t = none := by simp [leaves, hu]
      rw [this] at h
      cases h

/-- A part of a struct or an array. -/
theorem run_part_at {w w0 : World} {Pr : Nat → Nat → Prop} {t : TypeId} {cs : List C} {us : List Value} (h : RCs w0 Pr cs us) (off : Nat) {R : Type} {k : V → Option R} {r : R}
    (h0 : ldC P t (cs.drop off) k = some r) : ∃ v u, k v = some r ∧ (part t us.toArray off).run P w = .ok u w ∧ ((∃ c, v = .c c ∧ RC w0 Pr c u) ∨ (∃ cs' us', v = .agg cs' ∧ u = .agg us'.toArray ∧ RCs w0 Pr cs' us')) := by
  obtain ⟨d, hd⟩ := ldC_desc h0
  obtain ⟨i, hi, ⟨ha, hle, hk⟩ | ⟨ha, c, rest, e, hk⟩⟩ := ldC_eq h0
  · refine ⟨_, .agg ((us.drop off).take i.size).toArray, hk, ?_, .inr ⟨_, _, rfl, rfl, (h.drop off).take i.size⟩⟩
    simp [part, aggB_run t w d hd, ha, run_sizeOf hi, List.take_drop, Nat.add_comm]
  · have hh := h.drop off
    rw [e] at hh
    obtain ⟨u, us', hu, hc, _⟩ := hh.uncons
    refine ⟨_, u, hk, ?_, .inl ⟨c, rfl, hc⟩⟩
    have h1 : us[off]? = some u := by
      have : (us.drop off)[0]? = some u := by rw [hu]; rfl
      rwa [List.getElem?_drop, Nat.add_zero] at this
    simp [part, aggB_run t w d hd, ha, h1]

end Go.PM
