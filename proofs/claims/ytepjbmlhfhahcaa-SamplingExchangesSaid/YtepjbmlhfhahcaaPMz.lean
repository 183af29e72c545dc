/- The pure machine: a function's code. -/
import Derived.Test.YtepjbmlhfhahcaaPMy
import Derived.LoopN
set_option linter.unusedVariables false
set_option linter.unusedSimpArgs false
namespace Go.PM
open Go

variable {P : Program} {R : Type} {r : R}

section
variable {cf : Cfg} {A : Fr} {E : Env} {σ : St} {a : Act}

theorem frzs_sound : ∀ (ts : List Nat) {E : Env} {σ : St} {k : St → Option R} (_ : Rel P A E σ (fun _ => False) a) (_ : frzs P ts σ k = some r), ∃ σ' E', (E'.w = E.w ∧ E'.D = E.D ∧ E'.Y = E.Y ∧ Held E.w E.Pr E'.w E'.Pr) ∧ Rel P A E' σ' (fun _ => False) a ∧ k σ' = some r
  | [], E, σ, k, hr, h => ⟨σ, E, ⟨rfl, rfl, rfl, .refl _ _⟩, hr, h⟩
  | t :: ts, E, σ, k, hr, h => by
    unfold frzs at h
    split at h
    · rename_i s off n hget
      have ht : t < σ.slots.length := by
        by_cases h : t < σ.slots.length
        · exact h
        · rw [rv_und (E := E) (l := σ.loc) (u := undef) h] at hget; cases hget
      have hx := hr.slots t ht
      rw [hget] at hx
      have h1 := pur_one hx h rfl
      obtain ⟨cs, l1, E1, hk, hG, hM, hc, _⟩ := pur_sound hr.good hx h
      rw [cells_one h1] at hc
      split at hk
      · rename_i c
        obtain ⟨u, us, e, hcu, _⟩ := hc.uncons
        have e' : a.tmps.getD t undef = u := by simpa using congrArg List.head? e
        have hr1 : Rel P A E1 ⟨σ.slots, l1⟩ (fun _ => False) a := ⟨hG, fun t' ht' => hM.rv (hr.slots t' ht'), hr.size, by rw [hM.D]; exact hr.defers, hr.tm, hr.len, fun k g n hk => hM.rv (hr.outs k g n hk)⟩
        obtain ⟨σ', E', g1, g2, g3⟩ := frzs_sound ts (rel_set (t := t) (x := .c c) hr1 fun _ => by rw [e']; exact .c hcu) hk
        exact ⟨σ', E', ⟨g1.1.trans hM.w, g1.2.1.trans hM.D, g1.2.2.1.trans hM.Y, hM.held.trans g1.2.2.2⟩, g2, g3⟩
      · cases hk
    · rename_i s off hget
      have ht : t < σ.slots.length := by
        by_cases h : t < σ.slots.length
        · exact h
        · rw [rv_und (E := E) (l := σ.loc) (u := undef) h] at hget; cases hget
      have hx := hr.slots t ht
      rw [hget] at hx
      have h1 := pur_one hx h rfl
      obtain ⟨cs, l1, E1, hk, hG, hM, hc, _⟩ := pur_sound hr.good hx h
      rw [cells_one h1] at hc
      split at hk
      · rename_i c
        obtain ⟨u, us, e, hcu, _⟩ := hc.uncons
        have e' : a.tmps.getD t undef = u := by simpa using congrArg List.head? e
        have hr1 : Rel P A E1 ⟨σ.slots, l1⟩ (fun _ => False) a := ⟨hG, fun t' ht' => hM.rv (hr.slots t' ht'), hr.size, by rw [hM.D]; exact hr.defers, hr.tm, hr.len, fun k g n hk => hM.rv (hr.outs k g n hk)⟩
        obtain ⟨σ', E', g1, g2, g3⟩ := frzs_sound ts (rel_set (t := t) (x := .c c) hr1 fun _ => by rw [e']; exact .c hcu) hk
        exact ⟨σ', E', ⟨g1.1.trans hM.w, g1.2.1.trans hM.D, g1.2.2.1.trans hM.Y, hM.held.trans g1.2.2.2⟩, g2, g3⟩
      · cases hk
    · exact frzs_sound ts hr h

/-- Which type a region's variable is of. -/
def ptOf (ops : Array Oper) (d : Nat) : TypeId :=
  match ops.toList.find? (fun o => match allocDst o with | some d' => Nat.beq d' d | none => false) with
  | some o => (match o.op with | .alloc t => t | _ => 0)
  | none => 0

theorem nodup_one {α : Type} (f : α → Option Nat) : ∀ (os : List α), nodupB (os.filterMap f) = true → ∀ (i j : Nat) (o o' : α) (d : Nat), os[i]? = some o → os[j]? = some o' → f o = some d → f o' = some d → i = j
  | [], _, i, j, o, o', d, h1, _, _, _ => by simp at h1
  | x :: os, hn, i, j, o, o', d, h1, h2, h3, h4 => by
    have hn' : nodupB (os.filterMap f) = true ∧ ∀ d, f x = some d → d ∉ os.filterMap f := by
      rw [List.filterMap_cons] at hn
      cases hs : f x with
      | none => rw [hs] at hn; exact ⟨hn, fun _ h => by cases h⟩
      | some s0 =>
        rw [hs] at hn
        simp only [nodupB, Bool.and_eq_true, Bool.not_eq_true'] at hn
        refine ⟨hn.2, fun s e hs' => ?_⟩
        injection e with e
        subst e
        have := any_beq.2 hs'
        rw [hn.1] at this; cases this
    cases i with
    | zero =>
      simp at h1
      subst h1
      cases j with
      | zero => rfl
      | succ j => exact absurd (List.mem_filterMap.2 ⟨o', List.mem_of_getElem? (by simpa using h2), h4⟩) (hn'.2 d h3)
    | succ i =>
      cases j with
      | zero =>
        simp at h2
        subst h2
        exact absurd (List.mem_filterMap.2 ⟨o, List.mem_of_getElem? (by simpa using h1), h3⟩) (hn'.2 d h4)
      | succ j => rw [nodup_one f os hn'.1 i j o o' d (by simpa using h1) (by simpa using h2) h3 h4]

theorem allocDst_op {o : Oper} {d : Nat} (h : allocDst o = some d) : ∃ t, o.op = .alloc t ∧ o.dst = some d := by
  unfold allocDst at h
  cases ha : isAlloc o
  · rw [ha] at h; cases h
  · rw [ha] at h
    unfold isAlloc at ha
    split at ha
    · rename_i t e; exact ⟨t, e, h⟩
    · cases ha

theorem ptOf_eq {ops : Array Oper} (hn : nodupB (allocDsts ops.toList) = true) {i : Nat} {o : Oper} {t : TypeId} {d : Nat} (hi : ops[i]? = some o) (ho : o.op = .alloc t) (hd : o.dst = some d) : ptOf ops d = t := by
  have had : allocDst o = some d := by simp [allocDst, isAlloc, ho, hd]
  have hi' : ops.toList[i]? = some o := by simpa using hi
  unfold ptOf
  cases hf : ops.toList.find? (fun o => match allocDst o with | some d' => Nat.beq d' d | none => false) with
  | none =>
    have := List.find?_eq_none.1 hf o (List.mem_of_getElem? hi')
    rw [had] at this
    simp at this
  | some o' =>
    have h1 := List.find?_some hf
    have h2 := List.mem_of_find?_eq_some hf
    obtain ⟨j, hj⟩ := List.getElem?_of_mem h2
    have h3 : allocDst o' = some d := by
      cases hs : allocDst o' with
      | none => simp only [hs] at h1; cases h1
      | some d' => simp only [hs] at h1; rw [Nat.eq_of_beq_eq_true h1]
    have := nodup_one allocDst ops.toList hn i j o o' d hi' hj had h3
    subst this
    rw [hi'] at hj
    injection hj with hj
    subst hj
    simp [ho]

/-- How a piece of code is left. -/
def exOf : Ex → Exit
  | .normal => .normal
  | .exit id => .exit id
  | .ret => .ret

def PostK (P : Program) (A : Fr) (k : Ex → St → Option R) (r : R) : Exit → Act → World → Prop :=
  fun e a w => ∃ x σ E, e = exOf x ∧ k x σ = some r ∧ E.w = w ∧ Rel P A E σ (fun _ => False) a

theorem Rel.pt {pt : Nat → TypeId} (h : Rel P A E σ (fun _ => False) a) : Rel P { A with pt := pt } E σ (fun _ => False) a :=
  ⟨⟨h.good.obj, fun _ hs => hs.elim, h.good.inj, h.good.base, h.good.prot, h.good.jf, h.good.pr0, h.good.prN, h.good.size, h.good.os, h.good.tape, h.good.output, h.good.yok, h.good.yown, h.good.ylt, h.good.dm⟩, h.slots, h.size, h.defers, h.tm, h.len, h.outs⟩

theorem Rel.drew {pend : Nat → Prop} (h : Rel P A E σ pend a) (n : Nat) : Rel P A { E with w := { E.w with drawn := n } } σ pend a := by
  have hx : Held E.w E.Pr { E.w with drawn := n } E.Pr := fun b k hp => ⟨hp, rfl⟩
  have hk : ∀ s, Keeps1 E { E with w := { E.w with drawn := n } } σ.loc σ.loc s := fun s => by
    by_cases hd : σ.loc s = .dead
    · exact .inl hd
    · exact .inr ⟨hd, rfl, rfl, .same rfl⟩
  have rv : ∀ {x u}, RV P E σ.loc x u → RV P { E with w := { E.w with drawn := n } } σ.loc x u := fun h => RV.mono0 (E := E) (E' := { E with w := { E.w with drawn := n } }) (l := σ.loc) (l' := σ.loc) hx hk h
  exact ⟨⟨fun s hs => (h.good.obj s hs).keep hx rfl rfl (fun _ _ => rfl) (fun _ _ _ _ h => rv h), h.good.pnd, h.good.inj, h.good.base, h.good.prot, h.good.jstep (E' := { E with w := { E.w with drawn := n } }) rfl rfl hx (fun _ _ h => .inl h) (fun _ _ => rfl) (Nat.le_refl _) rfl rfl rfl, h.good.pr0.trans hx, h.good.prN, h.good.size, h.good.os, h.good.tape, h.good.output, h.good.yok, h.good.yown, h.good.ylt, h.good.dm⟩,
    fun t ht => rv (h.slots t ht), h.size, h.defers, h.tm, h.len, fun k g n hk => rv (h.outs k g n hk)⟩

theorem region_sound {ro : Option Nat} (hc : CfgOk P cf) (h : Rel P A E σ (fun _ => False) a) {id : Nat} {ops : Array Oper} {draw : Bool} {k : Ex → St → Option R} (hk : codeK cf (.region id ops draw) σ k = some r)
    (hw : ∀ t ∈ writes (.region id ops draw), A.tm t = none) : (Code.region id ops draw).wpIn (FW ro) 0 P (PostK P A k r) a E.w := by
  simp only [codeK] at hk
  split at hk
  · cases hk
  · cases hk
  · rename_i σ1 hreg hal
    rw [hc.hP] at hal
    simp only [regOk, Bool.and_eq_true, List.all_eq_true] at hreg
    obtain ⟨hn, hoth⟩ := hreg
    have hpt : ∀ (i : Nat) (o : Oper) (t : TypeId) (d : Nat), ops[i]? = some o → o.op = .alloc t → o.dst = some d → ptOf ops d = t := fun i o t d hi ho hd => ptOf_eq hn hi ho hd
    obtain ⟨E1, e1, h1, hgd⟩ := allocs_sound (A := { A with pt := ptOf ops }) ops.toList h.pt (fun _ _ h => h) hn (fun o ho t d hop hd => by
      obtain ⟨i, hi⟩ := List.getElem?_of_mem ho
      exact hpt i o t d (by simpa using hi) hop hd) hal
    have F : Facts { A with pt := ptOf ops } ops := {
      pt := hpt
      gd := fun i o hi ha => hgd o (by simpa using Array.mem_of_getElem? hi) ha
      one := fun i j o o' d hi hj h3 h4 => nodup_one allocDst ops.toList hn i j o o' d (by simpa using hi) (by simpa using hj) h3 h4
      tm := fun i o d hi hd => hw d (List.mem_filterMap.2 ⟨o, by simpa using Array.mem_of_getElem? hi, hd⟩)
      other := fun i j o o' d hi hj hna hd had => by
        have := hoth o (by simpa using Array.mem_of_getElem? hi)
        rw [hna, hd] at this
        simp only [Bool.false_or, Bool.not_eq_true'] at this
        have h2 : d ∈ allocDsts ops.toList := List.mem_filterMap.2 ⟨o', by simpa using Array.mem_of_getElem? hj, had⟩
        rw [any_beq.2 h2] at this
        cases this }
    have hpend : (fun s => (fun _ : Nat => False) s ∨ s ∈ allocDsts ops.toList) = pendOf ops (List.range' 0 ops.toList.length) := by
      funext s
      refine propext ⟨fun h => ?_, fun h => ?_⟩
      · rcases h with h | h
        · exact h.elim
        · obtain ⟨o, ho, hd⟩ := List.mem_filterMap.1 h
          obtain ⟨i, hi⟩ := List.getElem?_of_mem ho
          exact ⟨i, by simp only [List.mem_range'_1]; have := (List.getElem?_eq_some_iff.1 hi).1; omega, o, by simpa using hi, hd⟩
      · obtain ⟨i, _, o, hi, hd⟩ := h
        exact .inr (List.mem_filterMap.2 ⟨o, by simpa using Array.mem_of_getElem? hi, hd⟩)
    rw [hpend] at h1
    have back : ∀ σ', k .normal σ' = some r → ∀ E' a', Rel P { A with pt := ptOf ops } E' σ' (fun _ => False) a' → PostK P A k r .normal a' E'.w := fun σ' hk' E' a' h' =>
      ⟨.normal, σ', E', rfl, hk', rfl, h'.pt⟩
    split at hk
    · cases hord : orderOk ops with
      | false => rw [hord] at hk; cases hk
      | true =>
        rw [hord] at hk
        obtain ⟨σ', g1, g2⟩ := opsK_ref hk
        refine wpIn_region_any hc.mixed ?_
        have h2 := h1.drew (E.w.drawn + 1)
        rw [e1] at h2
        refine run_any (E := { E1 with w := { E.w with drawn := E.w.drawn + 1 } }) hc F hord (back σ' g2) ops.size _ (List.range' 0 ops.toList.length) (by simp) (by simp) ?_ (fun j => ?_) (fun k' o ho hl => ?_) h2 ?_
        · exact List.pairwise_lt_range'
        · simp only [List.mem_range'_1, Array.length_toList]
          constructor
          · intro hj; have hlt : j < ops.size := by omega
            exact ⟨hlt, by simp [hlt]⟩
          · intro hj; omega
        · exfalso
          by_cases hlt : k' < ops.size
          · simp [hlt] at hl
          · simp [hlt] at hl
        · rw [runI_list ops.toList 0 (fun j => by simp)]; exact g1
    · obtain ⟨σ', g1, g2⟩ := opsK_ref hk
      refine wpIn_region_list ?_
      rw [← e1]
      exact run_plain hc F (back σ' g2) ops.toList 0 (fun j => by simp) h1 g1

end

end Go.PM
