/- The pure machine: what is carried over a loop's rounds and a join. -/
import Derived.Test.YtepjbmlhfhahcaaPMw
set_option linter.unusedVariables false
set_option linter.unusedSimpArgs false
namespace Go.PM
open Go

variable {P : Program}

theorem setRow_self {w : World} {g : Nat} {cur : Array Value} {t : TypeId} {fr : Nat × Nat} (h : w.heap[g]? = some (.cells cur t fr)) : w.setRow g cur = w := by
  have hw : (w.setRow g cur).heap = w.heap := by
    unfold World.setRow
    apply Array.ext
    · simp
    · intro i h1 h2
      simp only
      rw [Array.getElem_modify]
      split
      · rename_i e
        subst e
        have : w.heap[g] = .cells cur t fr := by
          rw [Array.getElem?_eq_getElem h2] at h
          injection h
        rw [this]
      · rfl
  have e : w.setRow g cur = { w with heap := (w.setRow g cur).heap } := rfl
  rw [e, hw]

section
variable {R : Type} {r : R}

theorem lf_get {l : Lf} {c : C} {k : l.ty → Option R} (h : l.get c k = some r) : ∃ x, k x = some r ∧ l.put x = c := by
  cases l with
  | i kd =>
    simp only [Lf.get, asI] at h
    split at h
    · split at h
      · rename_i e; subst e; exact ⟨_, h, rfl⟩
      · cases h
    · cases h
  | b =>
    simp only [Lf.get, asB] at h
    split at h
    · exact ⟨_, h, rfl⟩
    · cases h
  | s =>
    simp only [Lf.get, asS] at h
    split at h
    · exact ⟨_, h, rfl⟩
    · cases h
  | o => exact ⟨c, h, rfl⟩

theorem ltys_get : ∀ {ls : List Lf} {cs : List C} {k : LTys ls → Option R} (_ : cs.length = ls.length) (_ : LTys.get ls cs k = some r), ∃ x, k x = some r ∧ LTys.put ls x = cs
  | [], [], k, _, h => ⟨(), h, rfl⟩
  | [], c :: cs, k, hl, h => by simp at hl
  | l :: ls, [], k, hl, h => by simp at hl
  | l :: ls, c :: cs, k, hl, h => by
    simp only [LTys.get, unc] at h
    obtain ⟨x, h1, h2⟩ := lf_get h
    obtain ⟨y, h3, h4⟩ := ltys_get (by simpa using hl) h1
    exact ⟨(x, y), h3, by simp only [LTys.put, h2, h4]⟩
end

/-- Nothing leads to a site, and no object holds a reference. -/
structure Bare (τ : St) (S : Nat → Prop) : Prop where
  slot : ∀ (t : Nat) (x : V), t < τ.slots.length → τ.slots.get t = x → ∀ s, S s → x.at s = false
  dead : ∀ s, S s → τ.loc s = .dead
  rf : ∀ s t x, τ.loc s ≠ .rf t x

section
variable {A : Fr} {E E1 : Env} {σ τ : St} {lv : Loc} {a : Act}

/-- What has been built up so far, beside what is not taken yet. -/
structure Build (P : Program) (A : Fr) (E E1 : Env) (σ τ : St) (lv : Loc) (a : Act) : Prop where
  w : E1.w = E.w
  Pr : E1.Pr = E.Pr
  rel : Rel P A E1 τ (fun _ => False) a
  fresh : ∀ s s' g, E1.rho s = some g → E.rho s' = some g → lv s' = .dead
  D : E1.D = E.D
  Y : E1.Y = E.Y
  llg : lv.log = none ∨ lv.log = σ.loc.log
  lv : ∀ s, lv s = .dead ∨ lv s = σ.loc s
  len : τ.slots.length = σ.slots.length

theorem rel_set {E : Env} {τ : St} {t : Nat} {x : V} (h : Rel P A E τ (fun _ => False) a) (hx : t < τ.slots.length → RV P E τ.loc x (a.tmps.getD t undef)) : Rel P A E ⟨τ.slots.set t x, τ.loc⟩ (fun _ => False) a := by
  refine ⟨h.good, fun t' ht' => ?_, by rw [h.size]; simp, h.defers, h.tm, by rw [← h.len]; simp, h.outs⟩
  have hl : t' < τ.slots.length := by simpa using ht'
  by_cases e : t = t'
  · subst e
    have e1 : St.get ⟨τ.slots.set t x, τ.loc⟩ t = x := Sl.set_self hl
    rw [e1]; exact hx hl
  · have e1 : St.get ⟨τ.slots.set t x, τ.loc⟩ t' = τ.get t' := Sl.set_ne e
    rw [e1]; exact h.slots t' hl

theorem rv_und {E : Env} {l : Loc} {u : Value} {σ : St} {t : Nat} (h : ¬ t < σ.slots.length) : σ.get t = .und := Sl.get_ge h

/-- A slot's plain value is taken over. -/
theorem build_plain (B : Build P A E E1 σ τ lv a) (hr : Rel P A E σ (fun _ => False) a) {t : Nat} {x : V} (hx : σ.get t = x) (hp : x.plain = x) (hnu : x ≠ .und) : Build P A E E1 σ ⟨τ.slots.set t x, τ.loc⟩ lv a ∧ ∀ s, x.at s = false := by
  have ht : t < σ.slots.length := by
    by_cases h : t < σ.slots.length
    · exact h
    · rw [rv_und (E := E) (l := σ.loc) (u := undef) h] at hx; exact absurd hx.symm hnu
  have h0 := hr.slots t ht
  rw [hx] at h0
  refine ⟨⟨B.w, B.Pr, rel_set B.rel fun _ => ?_, B.fresh, B.D, B.Y, B.llg, B.lv, by simpa using B.len⟩, fun s => ?_⟩
  · have hh : Held E.w E.Pr E1.w E1.Pr := by rw [B.w, B.Pr]; exact .refl _ _
    cases x with
    | c c => generalize a.tmps.getD t undef = u at h0 ⊢; cases h0 with | c h => exact .c (h.held hh)
    | agg cs => generalize a.tmps.getD t undef = u at h0 ⊢; cases h0 with | agg h => exact .agg (h.held hh)
    | _ => first | (cases hp; done) | exact absurd rfl hnu
  · cases x <;> first | rfl | (cases hp; done)

theorem rel_pts {E : Env} {s : Nat} : ∀ (ts : List (Nat × Nat)) {τ : St} (_ : Rel P A E τ (fun _ => False) a) (_ : ∀ p ∈ ts, p.1 < τ.slots.length → RV P E τ.loc (.ptr s p.2) (a.tmps.getD p.1 undef)), Rel P A E ⟨putPts s ts τ.slots, τ.loc⟩ (fun _ => False) a
  | [], τ, h, _ => h
  | p :: ts, τ, h, hp => by
    have := rel_pts (s := s) ts (τ := ⟨τ.slots.set p.1 (.ptr s p.2), τ.loc⟩) (rel_set h (hp p (by simp))) (fun q hq hl => hp q (by simp [hq]) (by simpa using hl))
    exact this

theorem putPts_length (s : Nat) : ∀ (ts : List (Nat × Nat)) (sl : Sl), (putPts s ts sl).length = sl.length
  | [], sl => rfl
  | p :: ts, sl => by simp only [putPts]; rw [putPts_length s ts]; simp

theorem putPts_cases {s : Nat} : ∀ (ts : List (Nat × Nat)) {sl : Sl} {t : Nat} {x : V}, t < sl.length → (putPts s ts sl).get t = x → (∃ off, x = .ptr s off) ∨ sl.get t = x
  | [], sl, t, x, _, h => .inr h
  | p :: ts, sl, t, x, hl, h => by
    rcases putPts_cases ts (by simpa using hl) h with h | h
    · exact .inl h
    · rcases Sl.set_cases hl h with h | h
      · exact .inl ⟨p.2, h⟩
      · exact .inr h

/-- A block is taken over. -/
theorem build_adopt (B : Build P A E E1 σ τ lv a) (hr : Rel P A E σ (fun _ => False) a) {S : Nat → Prop} (hb : Bare τ S) {s s' : Nat} (hs : S s) {t : TypeId} {cs : List C} (hl : lv s' = .ob t 0 cs ∨ lv s' = .sb t 0 cs) {g : Nat} (hg : E.rho s' = some g) {ob : Obj} (ho : ob = .ob t 0 cs ∨ ob = .sb t 0 cs) (hgh : s < OUT ∨ s' = s) :
    ∃ E2, Build P A E E2 σ ⟨τ.slots, τ.loc.put s ob⟩ (lv.put s' .dead) a ∧ E2.rho s = some g ∧ E2.bs s = E.bs s' := by
  have hls : σ.loc s' = .ob t 0 cs ∨ σ.loc s' = .sb t 0 cs := by
    rcases B.lv s' with e | e
    · rw [e] at hl; rcases hl with hl | hl <;> cases hl
    · rw [← e]; exact hl
  have htc : objTC (σ.loc s') = some (t, 0, cs) := by rcases hls with e | e <;> rw [e] <;> rfl
  obtain ⟨⟨cur, c1, c2, c3, c4⟩, _⟩ := blk_of hr.good htc hg
  have hfz0 : (σ.loc s').fz = 0 := by rcases hls with e | e <;> rw [e] <;> rfl
  have hlive : lv s' ≠ .dead := by rcases hl with e | e <;> rw [e] <;> simp
  have c1' : E1.w.heap[g]? = some (.cells cur t (0, 0)) := by rw [B.w]; exact c1
  have key := good_adopt (cur' := cur) (fz := 0) (cs := cs) (ob := ob) B.rel.good (hb.dead s hs) (fun h => h) (fun x hx => hlive (B.fresh x s' g hx hg)) (fun hy => hr.good.yown s' g hg (B.Y ▸ hy)) (hr.good.base s' g hg) c1' rfl
    (fun k hk => by
      rw [B.Pr] at hk
      have := (hr.good.prot g k hk).2 s' hg
      rw [hfz0] at this; omega)
    (fun j hj => by omega) ho (Nat.zero_le _) c3 (by rw [B.w, B.Pr]; exact c4) (fun s2 t2 x h2 => absurd h2 (hb.rf s2 t2 x))
  obtain ⟨k1, k2, k3⟩ := key
  have hself : (E1.adopt s g cur).w = E1.w := setRow_self c1'
  refine ⟨E1.adopt s g cur, ⟨hself.trans B.w, B.Pr, ⟨k1, fun t' ht' => ?_, B.rel.size, B.rel.defers, B.rel.tm, B.rel.len, fun k g' n hk => ?_⟩, fun x x' g' hx hx' => ?_, B.D, B.Y, B.llg, fun x => ?_, B.len⟩, by simp [Env.adopt], by simp [Env.adopt]; exact c2⟩
  · refine (B.rel.slots t' ht').mono (fun x => x = s) k2 (fun x hx => k3 x hx) (fun x hx => ?_)
    subst hx
    exact hb.slot t' _ ht' rfl x hs
  · by_cases e : s = OUT + k
    · have e2 : s' = s := hgh.resolve_left (by omega)
      have h0 := hr.outs k g' n hk
      rw [← e, ← e2] at h0
      generalize hv : ghv g' n = v at h0
      cases h0 with
      | ghDead hd => rcases hls with e | e <;> rw [e] at hd <;> cases hd
      | @gh _ g2 n2 h1 h2 =>
        rw [← e]
        rw [hg] at h1
        injection h1 with h1
        subst h1
        refine .gh (by simp [Env.adopt]) ?_
        simp [Env.adopt]
        rw [c2]; exact h2
    · exact (B.rel.outs k g' n hk).mono (fun x => x = s) k2 (fun x hx => k3 x hx) fun x hx => by
        subst hx
        show Nat.beq (OUT + k) x = false
        cases e' : Nat.beq (OUT + k) x
        · rfl
        · exact absurd (Nat.eq_of_beq_eq_true e').symm e
  · by_cases e : x' = s'
    · subst e; exact put_same _ _ _
    · rw [put_other _ _ e]
      by_cases e2 : x = s
      · subst e2
        have : g' = g := by simp [Env.adopt] at hx; exact hx.symm
        subst this
        exact absurd (hr.good.inj _ _ _ hx' hg) e
      · exact B.fresh x x' g' (by simpa [Env.adopt, e2] using hx) hx'
  · by_cases e : x = s'
    · subst e; exact .inl (put_same _ _ _)
    · rw [put_other _ _ e]; exact B.lv x

theorem gh_ne {s k : Nat} (h : s ≠ OUT + k) : (V.gh (OUT + k)).at s = false := by
  show Nat.beq (OUT + k) s = false
  cases e : Nat.beq (OUT + k) s
  · rfl
  · exact absurd (Nat.eq_of_beq_eq_true e).symm h

/-- An empty slice's place. -/
theorem build_empty (B : Build P A E E1 σ τ lv a) {S : Nat → Prop} (hb : Bare τ S) {s : Nat} (hs : S s) (hlt : ∀ k g n, A.outs k = some (g, n) → s ≠ OUT + k) {t : TypeId} :
    Build P A E E1 σ ⟨τ.slots, τ.loc.put s (.sb t 0 [])⟩ lv a ∧ E1.rho s = none := by
  have hG := B.rel.good
  have hn : E1.rho s = none := by
    have := hG.obj s (fun h => h)
    rw [hb.dead s hs] at this
    cases this; assumption
  have hk : ∀ s', s' ≠ s → Keeps1 E1 E1 τ.loc (τ.loc.put s (.sb t 0 [])) s' := fun s' hne => by
    by_cases hd : τ.loc s' = .dead
    · exact .inl ((put_other _ _ hne).trans hd)
    · exact .inr ⟨hd, rfl, rfl, .same (put_other _ _ hne)⟩
  refine ⟨⟨B.w, B.Pr, ⟨⟨fun s' hp => ?_, fun s' hp => hp.elim, hG.inj, hG.base, fun b k hp => ⟨(hG.prot b k hp).1, fun s' hs' => ?_⟩, hG.jf, hG.pr0, hG.prN, hG.size, hG.os, hG.tape, hG.output, hG.yok, hG.yown, hG.ylt, hG.dm⟩, fun t' ht' => ?_, B.rel.size, B.rel.defers, B.rel.tm, B.rel.len, fun k g' n hk' => (B.rel.outs k g' n hk').mono (fun x => x = s) (.refl _ _) (fun x hx => hk x hx) (fun x hx => by subst hx; exact gh_ne (hlt k g' n hk'))⟩, B.fresh, B.D, B.Y, B.llg, B.lv, B.len⟩, hn⟩
  · show ObjOk P E1 (τ.loc.put s (.sb t 0 [])) s' (τ.loc.put s (.sb t 0 []) s')
    by_cases e : s' = s
    · subst e; rw [put_same]; exact .sbNil hn
    · rw [put_other _ _ e]
      exact (hG.obj s' hp).keep (.refl _ _) rfl rfl (fun _ _ => rfl) fun t' x u hx _ => absurd hx (hb.rf s' t' x)
  · have hne : s' ≠ s := fun e => by rw [e, hn] at hs'; cases hs'
    show k < (τ.loc.put s (.sb t 0 []) s').fz
    rw [put_other _ _ hne]; exact (hG.prot b k hp).2 s' hs'
  · refine (B.rel.slots t' ht').mono (fun x => x = s) (.refl _ _) (fun x hx => hk x hx) (fun x hx => ?_)
    subst hx
    exact hb.slot t' _ ht' rfl x hs
end

end Go.PM
