/- The pure machine: a function's contract, and a program's to a depth of calls. -/
import Derived.Test.YtepjbmlhfhahcaaPNb
namespace Go.PM
open Go

variable {P : Program}

section
variable {A : Fr} {E : Env} {σ : St} {l : Loc} {a : Act}

def reLoc (src : Nat → Option Nat) (l : Loc) : Loc := ⟨fun s => match src s with | some s0 => l s0 | none => .dead, l.log⟩
def Env.ren (E : Env) (src : Nat → Option Nat) : Env :=
  { E with rho := fun s => match src s with | some s0 => E.rho s0 | none => none, bs := fun s => match src s with | some s0 => E.bs s0 | none => 0 }

/-- Sites are given other numbers; the rest are forgotten. -/
theorem good_ren (hG : Good P A E l (fun _ => False)) {src : Nat → Option Nat} (hinj : ∀ s s' x, src s = some x → src s' = some x → s = s') (hob : ∀ s x, src s = some x → ∃ t fz cs, l x = .ob t fz cs) :
    Good P A (E.ren src) (reLoc src l) (fun _ => False) := by
  have hr : ∀ s g, (E.ren src).rho s = some g → ∃ x, src s = some x ∧ E.rho x = some g := by
    intro s g h
    simp only [Env.ren] at h
    split at h
    · rename_i x e; exact ⟨x, e, h⟩
    · cases h
  refine ⟨fun s _ => ?_, fun s h => h.elim, fun s s' g h h' => ?_, fun s g h => ?_, fun b k hp => ⟨(hG.prot b k hp).1, fun s h => ?_⟩, hG.jf, hG.pr0, hG.prN, hG.size, hG.os, hG.tape, hG.output, hG.yok, fun s g hs => ?_, hG.ylt, hG.dm⟩
  · cases e : src s with
    | none =>
      have e1 : reLoc src l s = .dead := by simp [reLoc, e]
      rw [e1]; exact .dead (by simp [Env.ren, e])
    | some x =>
      obtain ⟨t, fz, cs, hl⟩ := hob s x e
      have e1 : reLoc src l s = .ob t fz cs := by simp [reLoc, e, hl]
      rw [e1]
      have h0 := hG.obj x (fun h => h)
      rw [hl] at h0
      cases h0 with
      | ob h1 h2 h3 =>
        obtain ⟨cur, c1, c2, c3, c4⟩ := h2
        exact .ob (by simp only [Env.ren, e]; exact h1) ⟨cur, c1, by simp only [Env.ren, e]; exact c2, c3, c4⟩ h3
  · obtain ⟨x, e, h⟩ := hr s g h
    obtain ⟨x', e', h'⟩ := hr s' g h'
    have := hG.inj x x' g h h'
    subst this
    exact hinj s s' x e e'
  · obtain ⟨x, e, h⟩ := hr s g h
    exact hG.base x g h
  · obtain ⟨x, e, h⟩ := hr s b h
    have := (hG.prot b k hp).2 x h
    simp only [reLoc, e]; exact this
  · obtain ⟨x, _, h⟩ := hr s g hs
    exact hG.yown x g h

theorem allOb_spec : ∀ {ss : List Nat}, allOb l ss = true → ∀ s ∈ ss, ∃ t fz cs, l s = .ob t fz cs
  | [], _, s, hs => by simp at hs
  | x :: ss, h, s, hs => by
    unfold allOb at h
    split at h
    · rename_i t fz cs e
      rcases List.mem_cons.1 hs with rfl | hs
      · exact ⟨t, fz, cs, e⟩
      · exact allOb_spec h s hs
    · cases h

theorem plain_rv {E' : Env} {l' : Loc} (hx : Held E.w E.Pr E'.w E'.Pr) {v : V} (hp : Plain v) {u : Value} (h : RV P E l v u) : RV P E' l' v u := by
  rcases hp with ⟨c, rfl⟩ | ⟨cs, rfl⟩
  · cases h with | c h => exact .c (h.held hx)
  · cases h with | agg h => exact .agg (h.held hx)

/-- Which sites are handed back. -/
def srcOf (m : Nat) (new : Option Nat) (s : Nat) : Option Nat :=
  if OUT ≤ s then (if s < OUT + m then some s else if s = OUT + m then new else none) else none

theorem locOf_outer (m : Nat) (l : Loc) (new : Option Nat) (os : List Obj) (h : os = (match new with | some s => [l s] | none => [])) : locOf (outer m l ++ os) l.log = reLoc (srcOf m new) l := by
  subst h
  refine Loc.eq (fun s => ?_) rfl
  simp only [locOf, reLoc, srcOf]
  by_cases h1 : OUT ≤ s
  · have e1 : Nat.ble OUT s = true := Nat.ble_eq_true_of_le h1
    rw [e1, if_pos h1]
    simp only [cond_true]
    by_cases h2 : s < OUT + m
    · rw [if_pos h2]
      have hlt : s - OUT < m := by omega
      rw [List.getElem?_append_left (by simp [outer]; exact hlt)]
      have e2 : OUT + (s - OUT) = s := by omega
      simp only [outer, List.getElem?_map, List.getElem?_range hlt, Option.map_some, Option.getD_some, e2]
    · rw [if_neg h2]
      by_cases h3 : s = OUT + m
      · rw [if_pos h3]
        subst h3
        rw [List.getElem?_append_right (by simp [outer])]
        cases new <;> simp [outer]
      · rw [if_neg h3]
        rw [List.getElem?_append_right (by simp [outer]; omega)]
        have : (outer m l).length = m := by simp [outer]
        rw [this]
        cases new with
        | none => simp
        | some s0 =>
          have : s - OUT - m ≠ 0 := by omega
          cases hk : s - OUT - m with
          | zero => exact absurd hk this
          | succ k => simp
  · have e1 : Nat.ble OUT s = false := by
      cases e : Nat.ble OUT s
      · rfl
      · exact absurd (Nat.le_of_ble_eq_true e) h1
    rw [e1, if_neg h1]
    rfl

theorem resL_sound {m : Nat} {R : Type} {r : R} : ∀ (rs : List ResultVar) {E : Env} {l : Loc} {k : List V → Loc → Option R} (_ : Rel P A E ⟨σ.slots, l⟩ (fun _ => False) a) (_ : resL P m σ l rs k = some r),
    ∃ (vs : List V) (l' : Loc) (E' : Env) (us : List Value), k vs l' = some r ∧ E'.w = E.w ∧ Rel P A E' ⟨σ.slots, l'⟩ (fun _ => False) a ∧ Held E.w E.Pr E'.w E'.Pr ∧ rs.length = us.length ∧ vs.length = us.length ∧
      (∀ (j : Nat) (x : ResultVar) (u : Value), rs[j]? = some x → us[j]? = some u → (resF a.tmps x).run P E.w = .ok u E.w) ∧ ∀ (j : Nat) (v : V) (u : Value), vs[j]? = some v → us[j]? = some u → Plain v ∧ RV P E' l' v u
  | [], E, l, k, hr, h => ⟨[], l, E, [], h, rfl, hr, .refl _ _, rfl, rfl, by simp, by simp⟩
  | x :: rs, E, l, k, hr, h => by
    simp only [resL] at h
    obtain ⟨v, l1, os, E1, u, hk, e1, hr1, hh1, hrun, hcase⟩ := resV_sound hr h
    obtain ⟨vs, l2, E2, us, hk2, e2, hr2, hh2, hl, hlv, hruns, hrvs⟩ := resL_sound rs hr1 hk
    rcases hcase with ⟨hp, _, hv⟩ | ⟨h, _⟩
    · refine ⟨v :: vs, l2, E2, u :: us, hk2, e2.trans e1, hr2, hh1.trans hh2, by simp [hl], by simp [hlv], fun j x' u' hx hu => ?_, fun j v' u' hv' hu => ?_⟩
      · cases j with
        | zero => simp at hx hu; subst hx hu; exact hrun
        | succ j =>
          have := hruns j x' u' (by simpa using hx) (by simpa using hu)
          rw [e1] at this; exact this
      · cases j with
        | zero => simp at hv' hu; subst hv' hu; exact ⟨hp, plain_rv hh2 hp hv⟩
        | succ j => exact hrvs j v' u' (by simpa using hv') (by simpa using hu)
    · cases h

theorem finish_sound {cf : Cfg} {fn : Func} {m : Nat} {out : Out} (hcf : cf.P = P) (hr : Rel P A E σ (fun _ => False) a) (hf : finish cf fn m σ = some out) :
    ∃ u E', (results fn a.tmps).run P E.w = .ok u E.w ∧ E'.w = E.w ∧ Good P A E' (locOf out.objs out.log) (fun _ => False) ∧ RV P E' (locOf out.objs out.log) out.r u ∧
      ∀ k g n, k < m → A.outs k = some (g, n) → E'.rho (OUT + k) = some g ∧ E'.bs (OUT + k) = n := by
  have fin : ∀ {E1 : Env} {l' : Loc} (new : Option Nat), Rel P A E1 ⟨σ.slots, l'⟩ (fun _ => False) a → allOb l' ((List.range m).map (OUT + ·)) = true → (∀ s, new = some s → s < OUT ∧ ∃ t cs, l' s = .ob t 0 cs) →
      Good P A (E1.ren (srcOf m new)) (reLoc (srcOf m new) l') (fun _ => False) ∧ ∀ k g n, k < m → A.outs k = some (g, n) → (E1.ren (srcOf m new)).rho (OUT + k) = some g ∧ (E1.ren (srcOf m new)).bs (OUT + k) = n := by
    intro E1 l' new hr1 hall hnew
    have hsp := allOb_spec hall
    refine ⟨good_ren hr1.good (fun s s' x h h' => ?_) (fun s x h => ?_), fun k g n hk ho => ?_⟩
    · simp only [srcOf] at h h'
      split at h
      · split at h'
        · split at h
          · injection h with h
            subst h
            split at h'
            · injection h' with h'; exact h'.symm
            · split at h'
              · have := (hnew _ h').1; omega
              · cases h'
          · split at h
            · split at h'
              · injection h' with h'
                subst h'
                have := (hnew _ h).1; omega
              · split at h'
                · omega
                · cases h'
            · cases h
        · cases h'
      · cases h
    · simp only [srcOf] at h
      split at h
      · split at h
        · injection h with h
          subst h
          exact hsp s (List.mem_map.2 ⟨s - OUT, by simp; omega, by omega⟩)
        · split at h
          · obtain ⟨_, t, cs, e⟩ := hnew _ h
            exact ⟨t, 0, cs, e⟩
          · cases h
      · cases h
    · have hs : srcOf m new (OUT + k) = some (OUT + k) := by simp [srcOf, hk]
      obtain ⟨t, fz, cs, hl⟩ := hsp (OUT + k) (List.mem_map.2 ⟨k, by simp [hk], rfl⟩)
      have h0 := hr1.outs k g n ho
      generalize hv : ghv g n = v at h0
      cases h0 with
      | ghDead hd => have hd' : l' (OUT + k) = .dead := hd; rw [hl] at hd'; cases hd'
      | @gh _ g2 n2 h1 h2 =>
        simp only [ghv, Value.tuple.injEq] at hv
        have hv := congrArg Array.toList hv
        simp only [List.cons.injEq, Value.int.injEq, true_and, and_true] at hv
        have e1 : g = g2 := by omega
        have e2 : n = n2 := by omega
        subst e1 e2
        exact ⟨by simp only [Env.ren, hs]; exact h1, by simp only [Env.ren, hs]; exact h2⟩
  unfold finish at hf
  rw [hcf] at hf
  split at hf
  · rename_i x hx
    obtain ⟨v, l', os, E1, u, hk, e1, hr1, hh, hrun, hcase⟩ := resV_sound (σ := σ) (l := σ.loc) hr hf
    obtain ⟨hall, hk⟩ := need_some hk
    injection hk with hk
    subst hk
    have hres : (results fn a.tmps).run P E.w = .ok u E.w := run_results (us := [u]) (by rw [hx]; rfl) fun j x' u' hx' hu' => by
      rw [hx] at hx'
      cases j with
      | zero => simp at hx' hu'; subst hx' hu'; exact hrun
      | succ j => simp at hx'
    rcases hcase with ⟨hp, rfl, hv⟩ | ⟨_, s, t, cs, hs, hl, rfl, rfl, hv⟩
    · obtain ⟨g1, g2⟩ := fin none hr1 hall (fun _ h => by cases h)
      have el := locOf_outer m l' none [] rfl
      exact ⟨u, E1.ren (srcOf m none), hres, e1, by rw [el]; exact g1, by rw [el]; exact plain_rv (E := E1) (E' := E1.ren (srcOf m none)) (Held.refl E1.w E1.Pr) hp hv, g2⟩
    · obtain ⟨g1, g2⟩ := fin (some s) hr1 hall (fun _ h => by injection h with h; subst h; exact ⟨hs, t, cs, hl⟩)
      have el := locOf_outer m l' (some s) [.ob t 0 cs] (by simp [hl])
      refine ⟨u, E1.ren (srcOf m (some s)), hres, e1, by rw [el]; exact g1, ?_, g2⟩
      rw [el]
      cases hv with
      | ptrDead hd => rw [hl] at hd; cases hd
      | ptr h => exact .ptr (by simp only [Env.ren, srcOf]; simp; exact h)
  · rename_i hne
    obtain ⟨vs, l', E1, us, hk, e1, hr1, hh, hl, hlv, hruns, hrvs⟩ := resL_sound (σ := σ) fn.results.toList hr hf
    obtain ⟨hall, hk⟩ := need_some hk
    injection hk with hk
    subst hk
    have hres := run_results (P := P) (fn := fn) hl hruns
    have hus : tupOf us = .tuple us.toArray := by
      match us, hl with
      | [], _ => rfl
      | [u], hl =>
        match hq : fn.results.toList, hl with
        | [x], _ => exact (hne x hq).elim
        | [], hl => simp at hl
        | _ :: _ :: _, hl => simp at hl
      | u :: u' :: us, _ => rfl
    rw [hus] at hres
    obtain ⟨g1, g2⟩ := fin none hr1 hall (fun _ h => by cases h)
    have el := locOf_outer m l' none [] rfl
    rw [List.append_nil] at el
    refine ⟨_, E1.ren (srcOf m none), hres, e1, by rw [el]; exact g1, ?_, g2⟩
    rw [el]
    exact .tup hlv.symm fun j x u hx hu => plain_rv (E := E1) (E' := E1.ren (srcOf m none)) (Held.refl E1.w E1.Pr) (hrvs j x u hx hu).1 (hrvs j x u hx hu).2
end

end Go.PM
