/- The pure machine: a function's contract, and a program's to a depth of calls. -/
import Derived.Test.YtepjbmlhfhahcaaPNb
set_option linter.unusedVariables false
set_option linter.unusedSimpArgs false
namespace Go.PM
open Go

variable {P : Program}

section
variable {A : Fr} {E : Env} {σ : St} {l : Loc} {a : Act}

def Env.ren (E : Env) (src : Nat → Option Nat) : Env :=
  { E with rho := fun s => match src s with | some s0 => E.rho s0 | none => none, bs := fun s => match src s with | some s0 => E.bs s0 | none => 0 }

/-- What a site becomes. -/
inductive Goes (src : Nat → Option Nat) (l : Loc) (s : Nat) : Obj → Prop
  | same {x : Nat} (h : src s = some x) (hq : ∃ q, objTC (l x) = some q) : Goes src l s (l x)
  | part {x n : Nat} {t : TypeId} {cs : List C} (h : src s = some x) (hq : objTC (l x) = some (t, 0, cs)) : Goes src l s (.sb t 0 (cs.take n))
  | dead (h : src s = none) : Goes src l s .dead
  | nil {t : TypeId} (h : src s = none) : Goes src l s (.sb t 0 [])

/-- Sites are given other numbers; the rest are forgotten. -/
theorem good_ren (hG : Good P A E l (fun _ => False)) {src : Nat → Option Nat} {l2 : Loc} (hlog : l2.log = l.log) (hinj : ∀ s s' x, src s = some x → src s' = some x → s = s') (hob : ∀ s, Goes src l s (l2 s)) :
    Good P A (E.ren src) l2 (fun _ => False) := by
  have hr : ∀ s g, (E.ren src).rho s = some g → ∃ x, src s = some x ∧ E.rho x = some g := by
    intro s g h
    simp only [Env.ren] at h
    split at h
    · rename_i x e; exact ⟨x, e, h⟩
    · cases h
  refine ⟨fun s _ => ?_, fun s h => h.elim, fun s s' g h h' => ?_, fun s g h => ?_, fun b k hp => ⟨(hG.prot b k hp).1, fun s h => ?_⟩, by rw [hlog]; exact hG.jf, hG.pr0, hG.prN, hG.size, hG.os, hG.tape, hG.output, hG.yok, fun s g hs => ?_, hG.ylt, hG.dm⟩
  · have hg := hob s
    generalize l2 s = o at hg
    cases hg with
    | dead e => exact .dead (by simp [Env.ren, e])
    | nil e => exact .sbNil (by simp [Env.ren, e])
    | @same x e hq => exact ObjOk.ren (E := E) (E' := E.ren src) (a := x) (s' := s) rfl rfl (by simp only [Env.ren, e]) (by simp only [Env.ren, e]) hq (hG.obj x (fun h => h))
    | @part x n t cs e hq =>
      have er : (E.ren src).rho s = E.rho x := by simp only [Env.ren, e]
      have eb : (E.ren src).bs s = E.bs x := by simp only [Env.ren, e]
      have h0 := hG.obj x (fun h => h)
      have hblk : ∀ {g : Nat}, Blk E x g t cs → Blk (E.ren src) s g t (cs.take n) := by
        rintro g ⟨cur, c1, c2, c3, c4⟩
        refine ⟨cur, c1, c2.trans eb.symm, by rw [List.length_take]; omega, ?_⟩
        have h4 := c4.take n
        rw [List.take_take] at h4
        rw [List.length_take]; exact h4
      rcases objTC_cases hq with e1 | e1 <;> rw [e1] at h0
      · cases h0 with | ob h1 h2 h3 => exact .sb (er.trans h1) (hblk h2) (Nat.zero_le _)
      · cases h0 with
        | sbNil h1 => rw [List.take_nil]; exact .sbNil (er.trans h1)
        | sb h1 h2 h3 => exact .sb (er.trans h1) (hblk h2) (Nat.zero_le _)
  · obtain ⟨x, e, h⟩ := hr s g h
    obtain ⟨x', e', h'⟩ := hr s' g h'
    have := hG.inj x x' g h h'
    subst this
    exact hinj s s' x e e'
  · obtain ⟨x, e, h⟩ := hr s g h
    exact hG.base x g h
  · obtain ⟨x, e, h⟩ := hr s b h
    have h3 := (hG.prot b k hp).2 x h
    have hg := hob s
    generalize l2 s = o at hg
    cases hg with
    | dead e2 => rw [e] at e2; cases e2
    | nil e2 => rw [e] at e2; cases e2
    | same e2 hq => rw [e] at e2; injection e2 with e2; subst e2; exact h3
    | @part x' n t cs e2 hq =>
      rw [e] at e2; injection e2 with e2; subst e2
      have : (l x).fz = 0 := by rcases objTC_cases hq with e1 | e1 <;> rw [e1] <;> rfl
      omega
  · obtain ⟨x, _, h⟩ := hr s g hs
    exact hG.yown x g h

theorem allOb_spec : ∀ {ss : List Nat}, allOb l ss = true → ∀ s ∈ ss, ∃ q, objTC (l s) = some q := fun h s hs => allOb_eq h s hs

theorem plain_rv {E' : Env} {l' : Loc} (hx : Held E.w E.Pr E'.w E'.Pr) {v : V} (hp : Plain v) {u : Value} (h : RV P E l v u) : RV P E' l' v u := by
  rcases hp with ⟨c, rfl⟩ | ⟨cs, rfl⟩
  · cases h with | c h => exact .c (h.held hx)
  · cases h with | agg h => exact .agg (h.held hx)

/-- Which sites are handed back. -/
def srcOf (m : Nat) (os : List NewO) (s : Nat) : Option Nat :=
  if OUT ≤ s then (if s < OUT + m then some s else (os[s - OUT - m]?).bind (·.1)) else none

theorem srcOf_new {m i : Nat} {os : List NewO} {q : NewO} (h : os[i]? = some q) : srcOf m os (OUT + (m + i)) = q.1 := by
  have h1 : OUT ≤ OUT + (m + i) := by omega
  have h2 : ¬ OUT + (m + i) < OUT + m := by omega
  have h3 : OUT + (m + i) - OUT - m = i := by omega
  simp [srcOf, h1, h2, h3, h]

theorem locOf_outer {m : Nat} {l : Loc} {os : List NewO} (hall : allOb l ((List.range m).map (OUT + ·)) = true) (hos : outsOk l os = true) :
    (∀ s, Goes (srcOf m os) l s (locOf (outer m l ++ os.map (outObj l)) l.log s)) ∧ (∀ s s' x, srcOf m os s = some x → srcOf m os s' = some x → s = s') ∧
      ∀ (i : Nat) (q : NewO), os[i]? = some q → locOf (outer m l ++ os.map (outObj l)) l.log (OUT + (m + i)) = outObj l q ∧ outOk1 l q = true := by
  have hsp := allOb_spec hall
  unfold outsOk at hos
  rw [Bool.and_eq_true] at hos
  obtain ⟨hnd, hok⟩ := hos
  have hok' : ∀ (i : Nat) (q : NewO), os[i]? = some q → outOk1 l q = true := fun i q hq => by
    rw [List.all_eq_true] at hok
    exact hok q (List.mem_of_getElem? hq)
  have hlt : ∀ (i : Nat) (q : NewO) (x : Nat), os[i]? = some q → q.1 = some x → x < OUT := by
    intro i q x hq hx
    have h1 := hok' i q hq
    obtain ⟨q1, te, qn⟩ := q
    simp only at hx
    subst hx
    cases qn with
    | none =>
      simp only [outOk1] at h1
      split at h1
      · simp only [Bool.and_eq_true] at h1
        exact Nat.le_of_ble_eq_true h1.2
      · cases h1
    | some n =>
      simp only [outOk1] at h1
      split at h1
      · simp only [Bool.and_eq_true] at h1
        exact Nat.le_of_ble_eq_true h1.2
      · cases h1
  have houter : (outer m l).length = m := by simp [outer]
  have hnew : ∀ (i : Nat) (q : NewO), os[i]? = some q → locOf (outer m l ++ os.map (outObj l)) l.log (OUT + (m + i)) = outObj l q := by
    intro i q hq
    rw [locOf_out, List.getElem?_append_right (by omega), houter, show m + i - m = i by omega, List.getElem?_map, hq]
    rfl
  refine ⟨fun s => ?_, fun s s' x h h' => ?_, fun i q hq => ⟨hnew i q hq, hok' i q hq⟩⟩
  · by_cases h1 : OUT ≤ s
    · obtain ⟨k, rfl⟩ : ∃ k, s = OUT + k := ⟨s - OUT, by omega⟩
      by_cases h2 : k < m
      · have e : locOf (outer m l ++ os.map (outObj l)) l.log (OUT + k) = l (OUT + k) := by
          rw [locOf_out, List.getElem?_append_left (by omega)]
          simp [outer, h2]
        rw [e]
        exact .same (by simp [srcOf, h2]) (hsp (OUT + k) (List.mem_map.2 ⟨k, by simp [h2], rfl⟩))
      · obtain ⟨i, rfl⟩ : ∃ i, k = m + i := ⟨k - m, by omega⟩
        cases hq : os[i]? with
        | none =>
          have e : locOf (outer m l ++ os.map (outObj l)) l.log (OUT + (m + i)) = .dead := by
            rw [locOf_out, List.getElem?_append_right (by omega), houter, show m + i - m = i by omega, List.getElem?_map, hq]
            rfl
          rw [e]
          refine .dead ?_
          have h1 : OUT ≤ OUT + (m + i) := by omega
          have h2 : ¬ OUT + (m + i) < OUT + m := by omega
          have h3 : OUT + (m + i) - OUT - m = i := by omega
          simp [srcOf, h1, h2, h3, hq]
        | some q =>
          rw [hnew i q hq]
          have hs := srcOf_new (m := m) hq
          have hk := hok' i q hq
          obtain ⟨q1, te, qn⟩ := q
          cases q1 with
          | none => exact .nil hs
          | some x =>
            cases qn with
            | none =>
              simp only [outOk1] at hk
              simp only [outObj]
              split at hk
              · rename_i t fz cs e
                simp only [Bool.and_eq_true] at hk
                have e1 := Nat.eq_of_beq_eq_true hk.1.1
                have e2 := Nat.eq_of_beq_eq_true hk.1.2
                subst e1 e2
                have h5 := Goes.same (src := srcOf m os) (l := l) (s := OUT + (m + i)) (x := x) hs ⟨_, by rw [e]; rfl⟩
                rw [e] at h5
                exact h5
              · cases hk
            | some n =>
              simp only [outOk1] at hk
              simp only [outObj]
              split at hk
              · rename_i t fz cs e
                simp only [Bool.and_eq_true] at hk
                have e1 := Nat.eq_of_beq_eq_true hk.1.1.1
                have e2 := Nat.eq_of_beq_eq_true hk.1.1.2
                subst e1 e2
                exact .part hs e
              · cases hk
    · have e : locOf (outer m l ++ os.map (outObj l)) l.log s = .dead := locOf_low _ _ (by omega)
      rw [e]
      exact .dead (by simp [srcOf, h1])
  · simp only [srcOf] at h h'
    split at h
    · rename_i hs
      split at h'
      · rename_i hs'
        split at h
        · injection h with h
          subst h
          split at h'
          · injection h' with h'; exact h'.symm
          · obtain ⟨q, hq, hx⟩ := Option.bind_eq_some_iff.1 h'
            have := hlt _ _ _ hq hx; omega
        · obtain ⟨q, hq, hx⟩ := Option.bind_eq_some_iff.1 h
          split at h'
          · injection h' with h'
            subst h'
            have := hlt _ _ _ hq hx; omega
          · obtain ⟨q', hq', hx'⟩ := Option.bind_eq_some_iff.1 h'
            have := nodup_one (·.1) os hnd _ _ q q' x hq hq' hx hx'
            omega
      · cases h'
    · cases h

/-- A new object's value, by its new number. -/
theorem newR_rv {E' : Env} {l' : Loc} {m i : Nat} {os : List NewO} {q : NewO} (hq : os[i]? = some q) (hall : allOb l' ((List.range m).map (OUT + ·)) = true) (hos : outsOk l' os = true) {v : V} {u : Value} (h : NewR P E' l' (m + i) q v u) :
    RV P (E'.ren (srcOf m os)) (locOf (outer m l' ++ os.map (outObj l')) l'.log) v u := by
  obtain ⟨_, _, h3⟩ := locOf_outer hall hos
  obtain ⟨hl, hk⟩ := h3 i q hq
  have hs := srcOf_new (m := m) hq
  cases h with
  | nil =>
    exact .ownNil (fz := 0) (by simp only [Env.ren, hs]) hl
  | @ptr s te u h =>
    simp only [outOk1] at hk
    split at hk
    · rename_i t fz cs e
      cases h with
      | ptrDead hd => rw [hd] at e; cases e
      | ptr h => exact .ptr (by simp only [Env.ren, hs]; exact h)
    · cases hk
  | @own s n te u h =>
    simp only [outOk1] at hk
    split at hk
    · rename_i t fz cs e
      simp only [Bool.and_eq_true] at hk
      have e1 := Nat.eq_of_beq_eq_true hk.1.1.1
      have e2 := Nat.eq_of_beq_eq_true hk.1.1.2
      subst e1 e2
      have hl2 : outObj l' (some s, t, some (n * szOf P t)) = .sb t 0 (cs.take (n * szOf P t)) := by simp only [outObj, e]
      rw [hl2] at hl
      cases h with
      | ownDead hd => rw [hd] at e; cases e
      | ownRf hd => rw [hd] at e; cases e
      | own0 _ _ ho => exact absurd rfl ho
      | ownNil h1 h2 =>
        rw [h2] at e
        injection e with e; injection e with e1 e2; injection e2 with e2 e3
        subst e1 e3
        exact .ownNil (fz := 0) (by simp only [Env.ren, hs]; exact h1) (by rw [hl, List.take_nil])
      | own h1 h2 h3 h4 h5 =>
        rw [e] at h2
        injection h2 with h2; injection h2 with e1 e2; injection e2 with e2 e3
        subst e1 e2 e3
        exact .own (t := t) (fz := 0) (cs := cs.take (n * szOf P t)) (by simp only [Env.ren, hs]; exact h1) (by rw [hl]; rfl) h3 h4 (by simp only [Env.ren, hs]; exact h5)
    · cases hk

theorem resL_sound {R : Type} {r : R} : ∀ (rs : List ResultVar) {m : Nat} {ex : List (Option TypeId)} {E : Env} {l : Loc} {k : List V → Loc → List NewO → Option R} (_ : Rel P A E ⟨σ.slots, l⟩ (fun _ => False) a) (_ : resL P m σ ex l rs k = some r),
    ∃ (vs : List V) (l' : Loc) (os : List NewO) (E' : Env) (us : List Value), k vs l' os = some r ∧ E'.w = E.w ∧ Rel P A E' ⟨σ.slots, l'⟩ (fun _ => False) a ∧ (∀ y v, RV P E l y v → RV P E' l' y v) ∧ Held E.w E.Pr E'.w E'.Pr ∧ rs.length = us.length ∧ vs.length = us.length ∧
      (∀ (j : Nat) (x : ResultVar) (u : Value), rs[j]? = some x → us[j]? = some u → (resF a.tmps x).run P E.w = .ok u E.w) ∧ ∀ (j : Nat) (v : V) (u : Value), vs[j]? = some v → us[j]? = some u → (Plain v ∧ RV P E' l' v u) ∨ ∃ i q, os[i]? = some q ∧ NewR P E' l' (m + i) q v u
  | [], m, ex, E, l, k, hr, h => ⟨[], l, [], E, [], by simpa [resL] using h, rfl, hr, fun _ _ h => h, .refl _ _, rfl, rfl, by simp, by simp⟩
  | x :: rs, m, ex, E, l, k, hr, h => by
    simp only [resL] at h
    obtain ⟨v, l1, os, E1, u, hk, e1, hr1, hm1, hh1, hrun, hcase⟩ := resV_sound hr h
    obtain ⟨vs, l2, os2, E2, us, hk2, e2, hr2, hm2, hh2, hl, hlv, hruns, hrvs⟩ := resL_sound rs hr1 hk
    refine ⟨v :: vs, l2, os ++ os2, E2, u :: us, hk2, e2.trans e1, hr2, fun y w hy => hm2 y w (hm1 y w hy), hh1.trans hh2, by simp [hl], by simp [hlv], fun j x' u' hx hu => ?_, fun j v' u' hv' hu => ?_⟩
    · cases j with
      | zero => simp at hx hu; subst hx hu; exact hrun
      | succ j =>
        have := hruns j x' u' (by simpa using hx) (by simpa using hu)
        rw [e1] at this; exact this
    · cases j with
      | zero =>
        simp at hv' hu; subst hv' hu
        rcases hcase with ⟨hp, _, hv⟩ | ⟨q, rfl, hq⟩
        · exact .inl ⟨hp, plain_rv hh2 hp hv⟩
        · exact .inr ⟨0, q, rfl, hq.mono hm2⟩
      | succ j =>
        rcases hrvs j v' u' (by simpa using hv') (by simpa using hu) with h | ⟨i, q, hq, hn⟩
        · exact .inl h
        · refine .inr ⟨os.length + i, q, by rw [List.getElem?_append_right (by omega), show os.length + i - os.length = i by omega]; exact hq, ?_⟩
          rw [show m + (os.length + i) = m + os.length + i by omega]; exact hn

theorem finish_sound {cf : Cfg} {fn : Func} {m : Nat} {out : Out} (hcf : cf.P = P) (hr : Rel P A E σ (fun _ => False) a) (hf : finish cf fn m σ = some out) :
    ∃ u E', (results fn a.tmps).run P E.w = .ok u E.w ∧ E'.w = E.w ∧ Good P A E' (locOf out.objs out.log) (fun _ => False) ∧ RV P E' (locOf out.objs out.log) out.r u ∧
      ∀ k, k < m → (∀ g n, A.outs k = some (g, n) → E'.rho (OUT + k) = some g ∧ E'.bs (OUT + k) = n) := by
  have fin : ∀ {E1 : Env} {l' : Loc} {os : List NewO}, Rel P A E1 ⟨σ.slots, l'⟩ (fun _ => False) a → allOb l' ((List.range m).map (OUT + ·)) = true → outsOk l' os = true →
      Good P A (E1.ren (srcOf m os)) (locOf (outer m l' ++ os.map (outObj l')) l'.log) (fun _ => False) ∧ ∀ k, k < m → (∀ g n, A.outs k = some (g, n) → (E1.ren (srcOf m os)).rho (OUT + k) = some g ∧ (E1.ren (srcOf m os)).bs (OUT + k) = n) := by
    intro E1 l' os hr1 hall hos
    obtain ⟨q1, q2, q3⟩ := locOf_outer hall hos
    refine ⟨good_ren hr1.good rfl q2 q1, fun k hk g n ho => ?_⟩
    have hs : srcOf m os (OUT + k) = some (OUT + k) := by simp [srcOf, hk]
    obtain ⟨q, hl⟩ := allOb_spec hall (OUT + k) (List.mem_map.2 ⟨k, by simp [hk], rfl⟩)
    have h0 := hr1.outs k g n ho
    generalize hv : ghv g n = v at h0
    cases h0 with
    | ghDead hd => have hd' : l' (OUT + k) = .dead := hd; rw [hd'] at hl; cases hl
    | @gh _ g2 n2 h1 h2 =>
      simp only [ghv, Value.tuple.injEq] at hv
      have hv := congrArg Array.toList hv
      simp only [List.cons.injEq, Value.int.injEq, true_and, and_true] at hv
      have e1 : g = g2 := by omega
      have e2 : n = n2 := by omega
      subst e1 e2
      exact ⟨by simp only [Env.ren, hs]; exact h1, by simp only [Env.ren, hs]; exact h2⟩
  unfold finish at hf
  split at hf
  · rename_i x hx
    rw [hcf] at hf
    obtain ⟨v, l', os, E1, u, hk, e1, hr1, hm1, hh, hrun, hcase⟩ := resV_sound (σ := σ) (l := σ.loc) hr hf
    obtain ⟨hb, hk⟩ := need_some hk
    rw [Bool.and_eq_true] at hb
    obtain ⟨hall, hos⟩ := hb
    injection hk with hk
    subst hk
    have hres : (results fn a.tmps).run P E.w = .ok u E.w := run_results (us := [u]) (by rw [hx]; rfl) fun j x' u' hx' hu' => by
      rw [hx] at hx'
      cases j with
      | zero => simp at hx' hu'; subst hx' hu'; exact hrun
      | succ j => simp at hx'
    obtain ⟨g1, g2⟩ := fin hr1 hall hos
    refine ⟨u, E1.ren (srcOf m os), hres, e1, g1, ?_, g2⟩
    rcases hcase with ⟨hp, rfl, hv⟩ | ⟨q, rfl, hq⟩
    · exact plain_rv (E := E1) (E' := E1.ren (srcOf m [])) (Held.refl E1.w E1.Pr) hp hv
    · exact newR_rv (i := 0) rfl hall hos hq
  · rename_i hne
    rw [hcf] at hf
    obtain ⟨vs, l', os, E1, us, hk, e1, hr1, hm1, hh, hl, hlv, hruns, hrvs⟩ := resL_sound (σ := σ) fn.results.toList hr hf
    obtain ⟨hb, hk⟩ := need_some hk
    rw [Bool.and_eq_true] at hb
    obtain ⟨hall, hos⟩ := hb
    injection hk with hk
    subst hk
    have hres := run_results (P := P) (fn := fn) hl hruns
    have hus : tupOf us = .tuple us.toArray := by
      match us, hl with
      | [], _ => rfl
      | [u], hl =>
        match hq : fn.results.toList, hl with
        | [x], _ => exact (hne x hq).elim
        | [], hl => simp at hl
        | _ :: _ :: _, hl => simp at hl
      | u :: u' :: us, _ => rfl
    rw [hus] at hres
    obtain ⟨g1, g2⟩ := fin hr1 hall hos
    refine ⟨_, E1.ren (srcOf m os), hres, e1, g1, ?_, g2⟩
    refine .tup hlv.symm fun j x u hx hu => ?_
    rcases hrvs j x u hx hu with ⟨hp, hv⟩ | ⟨i, q, hq, hn⟩
    · exact plain_rv (E := E1) (E' := E1.ren (srcOf m os)) (Held.refl E1.w E1.Pr) hp hv
    · exact newR_rv hq hall hos hn
end

end Go.PM
