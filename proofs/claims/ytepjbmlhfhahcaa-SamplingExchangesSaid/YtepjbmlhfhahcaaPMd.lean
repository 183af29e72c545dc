/- The pure machine: cells that are not written any more; values as cells; loads. -/
import Derived.Test.YtepjbmlhfhahcaaPMc
set_option linter.unusedVariables false
set_option linter.unusedSimpArgs false
namespace Go.PM
open Go

variable {P : Program}

theorem Keeps1.refl (E : Env) (l : Loc) (s : Nat) : Keeps1 E E l l s := by
  by_cases hd : l s = .dead
  · exact .inl hd
  · exact .inr ⟨hd, rfl, rfl, .same rfl⟩

theorem Sh.trans {l l1 l2 : Loc} {s : Nat} (h : Sh l l1 s) (h' : Sh l1 l2 s) : Sh l l2 s := by
  refine ⟨fun t fz e => ?_, fun t fz cs e => ?_, fun t y e => ?_⟩
  · obtain ⟨fz', e'⟩ := h.1 t fz e; exact h'.1 t fz' e'
  · rcases h.2.1 t fz cs e with ⟨fz', cs', e'⟩ | ⟨t', y, e'⟩
    · exact h'.2.1 t fz' cs' e'
    · exact .inr (h'.2.2 t' y e')
  · obtain ⟨t', y', e'⟩ := h.2.2 t y e; exact h'.2.2 t' y' e'

theorem Keeps1.trans {E E1 E2 : Env} {l l1 l2 : Loc} {s : Nat} (h : Keeps1 E E1 l l1 s) (h' : Keeps1 E1 E2 l1 l2 s) : Keeps1 E E2 l l2 s := by
  rcases h' with h' | ⟨hd, h1, h2, h3⟩
  · exact .inl h'
  · rcases h with h | ⟨hd', h1', h2', h3'⟩
    · exact absurd h hd
    · exact .inr ⟨hd', h1.trans h1', h2.trans h2', h3'.trans h3⟩

/-- The world is the same; some cells more are not written any more. -/
structure Mild (E E' : Env) (l l' : Loc) : Prop where
  w : E'.w = E.w
  rho : E'.rho = E.rho
  bs : E'.bs = E.bs
  held : Held E.w E.Pr E'.w E'.Pr
  keeps : ∀ s, Keeps1 E E' l l' s
  Y : E'.Y = E.Y
  D : E'.D = E.D
  log : l'.log = l.log

theorem Mild.refl (E : Env) (l : Loc) : Mild E E l l := ⟨rfl, rfl, rfl, .refl _ _, fun s => .refl E l s, rfl, rfl, rfl⟩
theorem Mild.trans {E E1 E2 : Env} {l l1 l2 : Loc} (h : Mild E E1 l l1) (h' : Mild E1 E2 l1 l2) : Mild E E2 l l2 :=
  ⟨h'.w.trans h.w, h'.rho.trans h.rho, h'.bs.trans h.bs, h.held.trans h'.held, fun s => (h.keeps s).trans (h'.keeps s), h'.Y.trans h.Y, h'.D.trans h.D, h'.log.trans h.log⟩
theorem Mild.rv {E E' : Env} {l l' : Loc} (h : Mild E E' l l') {x : V} {u : Value} (hx : RV P E l x u) : RV P E' l' x u := hx.mono0 h.held h.keeps

def Env.frz (E : Env) (g n : Nat) : Env := { E with Pr := fun b k => E.Pr b k ∨ (b = g ∧ k < n) }

theorem objTC_cases {o : Obj} {t : TypeId} {fz : Nat} {cs : List C} (h : objTC o = some (t, fz, cs)) : o = .ob t fz cs ∨ o = .sb t fz cs := by
  cases o <;> simp [objTC] at h
  · obtain ⟨rfl, rfl, rfl⟩ := h; exact .inl rfl
  · obtain ⟨rfl, rfl, rfl⟩ := h; exact .inr rfl

theorem frz_eq {l : Loc} {s n : Nat} {t : TypeId} {fz : Nat} {cs : List C} (h : objTC (l s) = some (t, fz, cs)) :
    ∃ o, frz l s n = l.put s o ∧ objTC o = some (t, Nat.max fz n, cs) ∧ o.fz = Nat.max fz n ∧ Sh l (l.put s o) s := by
  rcases objTC_cases h with e | e
  · refine ⟨.ob t (Nat.max fz n) cs, by simp [frz, e], rfl, rfl, ⟨(fun t' fz' e' => by rw [e] at e'; cases e'), fun t' fz' cs' e' => ?_, (fun t' y e' => by rw [e] at e'; cases e')⟩⟩
    rw [h] at e'; injection e' with e'; injection e' with e1 e2; injection e2 with e2 e3; subst e1 e3
    exact .inl ⟨Nat.max fz n, cs, by rw [put_same]; rfl⟩
  · refine ⟨.sb t (Nat.max fz n) cs, by simp [frz, e], rfl, rfl, ⟨fun t' fz' e' => ?_, fun t' fz' cs' e' => ?_, (fun t' y e' => by rw [e] at e'; cases e')⟩⟩
    · rw [e] at e'; injection e' with e1 e2 e3; subst e1 e3; exact ⟨_, put_same _ _ _⟩
    · rw [h] at e'; injection e' with e'; injection e' with e1 e2; injection e2 with e2 e3; subst e1 e3
      exact .inl ⟨Nat.max fz n, cs, by rw [put_same]; rfl⟩

theorem frz_mild {A : Fr} {E : Env} {l : Loc} {pend : Nat → Prop} (hG : Good P A E l pend) {s n g : Nat} {t : TypeId} {fz : Nat} {cs : List C}
    (h : objTC (l s) = some (t, fz, cs)) (hr : E.rho s = some g) (hn : n ≤ cs.length) : Good P A (E.frz g n) (frz l s n) pend ∧ Mild E (E.frz g n) l (frz l s n) := by
  obtain ⟨o, he, ho, hfz, hsh⟩ := frz_eq (n := n) h
  rw [he]
  have hx : Held E.w E.Pr (E.frz g n).w (E.frz g n).Pr := fun b k hp => ⟨.inl hp, rfl⟩
  have hk : ∀ s', Keeps1 E (E.frz g n) l (l.put s o) s' := by
    intro s'
    by_cases hne : s' = s
    · subst hne; exact .inr ⟨hG.ne_dead hr, rfl, rfl, hsh⟩
    · by_cases hd : l s' = .dead
      · exact .inl ((put_other l o hne).trans hd)
      · exact .inr ⟨hd, rfl, rfl, .same (put_other l o hne)⟩
  have hps : ¬ pend s := fun hp => by rw [(hG.pnd s hp).1] at hr; cases hr
  refine ⟨⟨fun s' hp => ?_, fun s' hp => ?_, hG.inj, hG.base, fun b k hp => ⟨?_, fun a ha => ?_⟩, hG.jstep rfl rfl hx (fun b k hp => (by
    rcases hp with hp | ⟨rfl, _⟩
    · exact .inl hp
    · exact .inr (hG.yown s b hr))) (fun _ _ => rfl) (Nat.le_refl _) rfl rfl rfl, hG.pr0.trans hx, fun b k hp => (by
    rcases hp with hp | ⟨rfl, _⟩
    · exact hG.prN b k hp
    · exact .inr (hG.base s b hr)), hG.size, hG.os, hG.tape, hG.output, hG.yok, hG.yown, hG.ylt, hG.dm⟩, rfl, rfl, rfl, hx, hk, rfl, rfl, rfl⟩
  · by_cases hne : s' = s
    · subst hne
      rw [put_same]
      have h0 := hG.obj s' hp
      rcases objTC_cases h with e | e <;> rw [e] at h0 <;> rcases objTC_cases ho with e' | e' <;> rw [e']
      · cases h0 with | ob h1 h2 h3 => exact .ob h1 (h2.keep hx rfl rfl) (Nat.max_le.2 ⟨h3, hn⟩)
      · cases h0 with | ob h1 h2 h3 => exact .sb h1 (h2.keep hx rfl rfl) (Nat.max_le.2 ⟨h3, hn⟩)
      · cases h0 with
        | sbNil h1 => rw [h1] at hr; cases hr
        | sb h1 h2 h3 => exact .ob h1 (h2.keep hx rfl rfl) (Nat.max_le.2 ⟨h3, hn⟩)
      · cases h0 with
        | sbNil h1 => rw [h1] at hr; cases hr
        | sb h1 h2 h3 => exact .sb h1 (h2.keep hx rfl rfl) (Nat.max_le.2 ⟨h3, hn⟩)
    · rw [put_other l o hne]
      exact (hG.obj s' hp).keep hx rfl rfl (fun _ _ => rfl) fun _ _ _ _ hu => hu.mono0 hx hk
  · obtain ⟨h1, cs', hz, ho'⟩ := hG.pnd s' hp
    exact ⟨h1, cs', hz, (put_other l o (fun (e : s' = s) => hps (e ▸ hp))).trans ho'⟩
  · rcases hp with hp | ⟨rfl, _⟩
    · exact (hG.prot b k hp).1
    · exact hG.lt hr
  · by_cases hne : a = s
    · subst hne
      rw [put_same, hfz]
      have hb : b = g := by have h1 : E.rho a = some b := ha; rw [hr] at h1; injection h1 with h1; exact h1.symm
      rcases hp with hp | ⟨_, hk'⟩
      · have h1 := (hG.prot b k hp).2 a ha
        have h2 : (l a).fz = fz := by rcases objTC_cases h with e | e <;> rw [e] <;> rfl
        rw [h2] at h1
        exact Nat.lt_of_lt_of_le h1 (Nat.le_max_left _ _)
      · exact Nat.lt_of_lt_of_le hk' (Nat.le_max_right _ _)
    · rw [put_other l o hne]
      rcases hp with hp | ⟨rfl, _⟩
      · exact (hG.prot b k hp).2 a ha
      · exact absurd (hG.inj a s b ha hr) hne

theorem blk_of {A : Fr} {E : Env} {l : Loc} {pend : Nat → Prop} (hG : Good P A E l pend) {s g : Nat} {t : TypeId} {fz : Nat} {cs : List C}
    (h : objTC (l s) = some (t, fz, cs)) (hr : E.rho s = some g) : Blk E s g t cs ∧ fz ≤ cs.length := by
  have hps : ¬ pend s := fun hp => by rw [(hG.pnd s hp).1] at hr; cases hr
  have h0 := hG.obj s hps
  rcases objTC_cases h with e | e <;> rw [e] at h0
  · cases h0 with | ob h1 h2 h3 => rw [h1] at hr; cases hr; exact ⟨h2, h3⟩
  · cases h0 with
    | sbNil h1 => rw [h1] at hr; cases hr
    | sb h1 h2 h3 => rw [h1] at hr; cases hr; exact ⟨h2, h3⟩

/-- From an address on the cells read so. -/
def At (w : World) (Pr : Nat → Nat → Prop) (g o : Nat) (cs : List C) : Prop := ∀ (j : Nat) (c : C), cs[j]? = some c → ∃ u, w.cell? ⟨g, o + j, none⟩ = some u ∧ RC w Pr c u

theorem Blk.at_ {E : Env} {s g : Nat} {t : TypeId} {cs : List C} (h : Blk E s g t cs) : At E.w E.Pr g 0 cs := by
  obtain ⟨cur, h1, h2, h3, h4⟩ := h
  intro j c hj
  have hlt : j < cs.length := (List.getElem?_eq_some_iff.1 hj).1
  have hlt' : j < cur.size := by omega
  refine ⟨cur[j], ?_, h4.2 j c cur[j] hj ?_⟩
  · rw [cell_of_row E.w g (0 + j) cur t (0, 0) h1, Nat.zero_add]; exact Array.getElem?_eq_getElem hlt'
  · rw [List.getElem?_take, if_pos hlt]; simp [hlt']

theorem At.drop {w : World} {Pr : Nat → Nat → Prop} {g o : Nat} {cs : List C} (h : At w Pr g o cs) (n : Nat) : At w Pr g (o + n) (cs.drop n) := by
  intro j c hj
  rw [List.getElem?_drop] at hj
  have := h _ c hj
  rwa [← Nat.add_assoc] at this

theorem At.take {w : World} {Pr : Nat → Nat → Prop} {g o : Nat} {cs : List C} (h : At w Pr g o cs) (n : Nat) : At w Pr g o (cs.take n) := by
  intro j c hj
  rw [List.getElem?_take] at hj
  split at hj
  · exact h j c hj
  · cases hj

open Classical in
theorem At.fn {w : World} {Pr : Nat → Nat → Prop} {g o : Nat} {cs : List C} (h : At w Pr g o cs) (hp : ∀ j, j < cs.length → Pr g (o + j)) :
    ∃ us : Nat → Value, (∀ (j : Nat) (c : C), cs[j]? = some c → w.cell? ⟨g, o + j, none⟩ = some (us j) ∧ Pr g (o + j)) ∧ ∀ (j : Nat) (c : C), cs[j]? = some c → RC w Pr c (us j) := by
  refine ⟨fun j => (w.cell? ⟨g, o + j, none⟩).getD undef, fun j c hj => ?_, fun j c hj => ?_⟩
  · obtain ⟨u, hu, _⟩ := h j c hj
    exact ⟨by simp [hu], hp j (List.getElem?_eq_some_iff.1 hj).1⟩
  · obtain ⟨u, hu, hr⟩ := h j c hj
    simp only [hu]; exact hr

theorem At.held {w w' : World} {Pr Pr' : Nat → Nat → Prop} (hx : Held w Pr w' Pr') (hw : w' = w) {g o : Nat} {cs : List C} (h : At w Pr g o cs) : At w' Pr' g o cs := by
  subst hw
  intro j c hj
  obtain ⟨u, hu, hr⟩ := h j c hj
  exact ⟨u, hu, hr.held hx⟩

theorem need_some {R : Type} {b : Bool} {k : Option R} {r : R} (h : need b k = some r) : b = true ∧ k = some r := by
  cases b
  · cases h
  · exact ⟨rfl, h⟩

/-- A value as cells. -/
theorem pur_sound {R : Type} {A : Fr} {E : Env} {l : Loc} {pend : Nat → Prop} (hG : Good P A E l pend) {strict : Bool} {x : V} {u : Value} (hx : RV P E l x u) {k : List C → Loc → Option R} {r : R}
    (h : pur P strict x l k = some r) : ∃ cs l1 E1, k cs l1 = some r ∧ Good P A E1 l1 pend ∧ Mild E E1 l l1 ∧ RCs E1.w E1.Pr cs u.cells.toList ∧ (strict = true → l1 = l) := by
  cases x with
  | c c =>
    cases hx with
    | c hc => exact ⟨[c], l, E, h, hG, .refl E l, by rw [cells_one hc.one]; exact .one hc, fun _ => rfl⟩
  | agg cs =>
    cases hx with
    | agg hc => exact ⟨cs, l, E, h, hG, .refl E l, by simpa [Value.cells] using hc, fun _ => rfl⟩
  | tup vs => cases h
  | gh s => cases h
  | un => cases h
  | und => cases h
  | own s off n =>
    cases strict with
    | true => cases h
    | false =>
      simp only [pur] at h
      cases ho : objTC (l s) with
      | none => rw [ho] at h; cases h
      | some q =>
        obtain ⟨t, fz, cs⟩ := q
        rw [ho] at h
        obtain ⟨hle, hk⟩ := need_some h
        have hle' : off + n * szOf P t ≤ cs.length := Nat.le_of_ble_eq_true hle
        cases hx with
        | ownDead hd => rw [hd] at ho; cases ho
        | ownRf hd => rw [hd] at ho; cases ho
        | ownNil hr hl =>
          rw [hl] at ho
          injection ho with ho; injection ho with e1 e2; injection e2 with e2 e3; subst e1 e2 e3
          have hf : ∀ m, m = 0 → frz l s m = l := by
            intro m hm
            subst hm
            refine Loc.eq (fun s' => ?_) (by simp only [frz, hl]; rfl)
            simp only [frz, hl]
            by_cases hne : s' = s
            · subst hne; rw [put_same, hl]; simp
            · exact put_other l _ hne
          rw [hf _ (by simp)] at hk
          refine ⟨_, _, E, hk, hG, .refl E _, ?_, fun h => by cases h⟩
          simp only [Nat.zero_mul, List.take_zero, Value.cells]
          exact .one (.sl0 (by unfold maxLen; omega))
        | @own0 _ _ g o' t' fz' cs' hr hl hoff =>
          have hz : off + 0 * szOf P t ≤ cs.length := hle'
          obtain ⟨hG1, hM⟩ := frz_mild hG ho hr hz
          refine ⟨_, _, E.frz g (off + 0 * szOf P t), hk, hG1, hM, ?_, fun h => by cases h⟩
          simp only [Nat.zero_mul, List.take_zero, Value.cells]
          exact .one (.sl0 (by unfold maxLen; omega))
        | @own _ _ _ g cap t' fz' cs' hr hl hn hc hb =>
          rw [ho] at hl
          injection hl with hl; injection hl with e1 e2; injection e2 with e2 e3; subst e1 e2 e3
          obtain ⟨hG1, hM⟩ := frz_mild hG ho hr hle'
          refine ⟨_, _, E.frz g (off + n * szOf P t), hk, hG1, hM, ?_, fun h => by cases h⟩
          have hat := ((((blk_of hG ho hr).1.at_).drop off).take (n * szOf P t)).held hM.held rfl
          rw [Nat.zero_add] at hat
          obtain ⟨us, h1, h2⟩ := hat.fn fun j hj => .inr ⟨rfl, by simp only [List.length_take, List.length_drop] at hj; omega⟩
          exact .one (.sl hn hc h1 h2)
  | ptr s off =>
    cases strict with
    | true => cases h
    | false =>
      simp only [pur] at h
      cases ho : objTC (l s) with
      | none => rw [ho] at h; cases h
      | some q =>
        obtain ⟨t, fz, cs⟩ := q
        rw [ho] at h
        cases hx with
        | ptrDead hd => rw [hd] at ho; cases ho
        | @ptr _ _ g hr =>
          obtain ⟨hG1, hM⟩ := frz_mild hG ho hr (Nat.le_refl _)
          refine ⟨_, _, E.frz g cs.length, h, hG1, hM, ?_, fun h => by cases h⟩
          have hat := (((blk_of hG ho hr).1.at_).drop off).held hM.held rfl
          rw [Nat.zero_add] at hat
          obtain ⟨us, h1, h2⟩ := hat.fn fun j hj => .inr ⟨rfl, by simp only [List.length_drop] at hj; omega⟩
          exact .one (.cp h1 h2)

theorem purL_sound {R : Type} {A : Fr} {pend : Nat → Prop} {strict : Bool} : ∀ {xs : List V} {us : List Value} {E : Env} {l : Loc} (_ : Good P A E l pend)
    (_ : us.length = xs.length) (_ : ∀ (j : Nat) (x : V) (u : Value), xs[j]? = some x → us[j]? = some u → RV P E l x u) {k : List (List C) → Loc → Option R} {r : R}
    (_ : purL P strict xs l k = some r), ∃ ps l1 E1, k ps l1 = some r ∧ Good P A E1 l1 pend ∧ Mild E E1 l l1 ∧ ps.length = us.length ∧
      (∀ (j : Nat) (cs : List C) (u : Value), ps[j]? = some cs → us[j]? = some u → RCs E1.w E1.Pr cs u.cells.toList) ∧ (strict = true → l1 = l)
  | [], us, E, l, hG, hl, _, k, r, h => ⟨[], l, E, h, hG, .refl E l, by simpa using hl.symm, by simp, fun _ => rfl⟩
  | x :: xs, [], E, l, hG, hl, _, k, r, h => by simp at hl
  | x :: xs, u :: us, E, l, hG, hl, hx, k, r, h => by
    obtain ⟨cs, l1, E1, h1, hG1, hM1, hc, hs1⟩ := pur_sound hG (hx 0 x u rfl rfl) h
    obtain ⟨ps, l2, E2, h2, hG2, hM2, hp, hpc, hs2⟩ := purL_sound (xs := xs) (us := us) hG1 (by simpa using hl) (fun j y v hy hv => hM1.rv (hx (j + 1) y v (by simpa using hy) (by simpa using hv))) h1
    refine ⟨cs :: ps, l2, E2, h2, hG2, hM1.trans hM2, by simp [hp], fun j cs' u' hc' hu' => ?_, fun h => (hs2 h).trans (hs1 h)⟩
    cases j with
    | zero => simp at hc' hu'; subst hc' hu'; exact hc.held hM2.held
    | succ j => exact hpc j cs' u' (by simpa using hc') (by simpa using hu')

end Go.PM
