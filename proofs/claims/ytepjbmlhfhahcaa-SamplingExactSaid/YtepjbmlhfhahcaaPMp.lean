/- The pure machine: a call, the operation. -/
import Derived.Test.YtepjbmlhfhahcaaPMo
namespace Go.PM
open Go

variable {P : Program}

section
variable {A : Fr} {E : Env} {l : Loc} {pend : Nat → Prop} {R : Type} {r : R}

theorem locOf_out (objs : List Obj) (lg : Option Log) (k : Nat) : locOf objs lg (OUT + k) = (objs[k]?).getD .dead := by
  simp only [locOf]
  have : Nat.ble OUT (OUT + k) = true := Nat.ble_eq_true_of_le (by omega)
  rw [this]; simp

theorem locOf_low (objs : List Obj) (lg : Option Log) {s : Nat} (h : s < OUT) : locOf objs lg s = .dead := by
  simp only [locOf]
  have : Nat.ble OUT s = false := by
    cases hb : Nat.ble OUT s
    · rfl
    · have := Nat.le_of_ble_eq_true hb; omega
  rw [this]; rfl

theorem locOf_ge {objs : List Obj} {lg : Option Log} {s : Nat} (h : locOf objs lg s ≠ .dead) : ∃ k, s = OUT + k ∧ k < objs.length ∧ objs[k]? = some (locOf objs lg s) := by
  by_cases hs : s < OUT
  · exact absurd (locOf_low objs lg hs) h
  · obtain ⟨k, rfl⟩ : ∃ k, s = OUT + k := ⟨s - OUT, by omega⟩
    rw [locOf_out] at h ⊢
    cases hk : objs[k]? with
    | none => rw [hk] at h; simp at h
    | some o => exact ⟨k, rfl, (List.getElem?_eq_some_iff.1 hk).1, by simp [hk]⟩

theorem nodup_inj : ∀ {ss : List Nat} (_ : ss.Nodup) {i j x : Nat} (_ : ss[i]? = some x) (_ : ss[j]? = some x), i = j
  | [], _, i, j, x, h, _ => by simp at h
  | s :: ss, hn, i, j, x, hi, hj => by
    obtain ⟨h1, h2⟩ := List.nodup_cons.1 hn
    cases i <;> cases j
    · rfl
    · simp at hi hj; subst hi; exact absurd (List.mem_of_getElem? hj) h1
    · simp at hi hj; subst hj; exact absurd (List.mem_of_getElem? hi) h1
    · simp at hi hj; rw [nodup_inj h2 hi hj]

/-- What a callee sees of its caller's objects. -/
def Env.callee (E : Env) (ss : List Nat) : Env :=
  { w := E.w, Pr := E.Pr, rho := fun s => if OUT ≤ s then (ss[s - OUT]?).bind E.rho else none, bs := fun s => if OUT ≤ s then ((ss[s - OUT]?).map E.bs).getD 0 else 0, Y := fun b => b < E.w.heap.size ∧ ∀ s ∈ ss, E.rho s ≠ some b, D := [] }

/-- What a callee's surroundings are. -/
abbrev Env.calleeJ (E : Env) (ss : List Nat) : JT := frJ E.w (E.callee ss).Y

theorem callee_rho {E : Env} {ss : List Nat} {i s : Nat} (h : ss[i]? = some s) : (E.callee ss).rho (OUT + i) = E.rho s := by
  simp [Env.callee, h]
theorem callee_bs {E : Env} {ss : List Nat} {i s : Nat} (h : ss[i]? = some s) : (E.callee ss).bs (OUT + i) = E.bs s := by
  simp [Env.callee, h]
theorem callee_some {E : Env} {ss : List Nat} {s g : Nat} (h : (E.callee ss).rho s = some g) : ∃ i a, s = OUT + i ∧ ss[i]? = some a ∧ E.rho a = some g := by
  simp only [Env.callee] at h
  split at h
  · rename_i hs
    cases ha : ss[s - OUT]? with
    | none => rw [ha] at h; cases h
    | some a => rw [ha] at h; exact ⟨s - OUT, a, by omega, ha, h⟩
  · cases h

theorem good_callee (hG : Good P A E l pend) {ss : List Nat} (hn : ss.Nodup) (hob : ∀ s ∈ ss, ∃ t fz cs, l s = .ob t fz cs) (hnp : ∀ s ∈ ss, ¬ pend s) (pt : Nat → TypeId) :
    Good P (startFr pt (E.callee ss) (E.calleeJ ss)) (E.callee ss) (locOf (ss.map l) none) (fun _ => False) := by
  have hcases : ∀ s, (locOf (ss.map l) none s = .dead ∧ (E.callee ss).rho s = none) ∨ ∃ i a, s = OUT + i ∧ ss[i]? = some a ∧ locOf (ss.map l) none s = l a := by
    intro s
    by_cases hd : locOf (ss.map l) none s = .dead
    · left
      refine ⟨hd, ?_⟩
      cases hr : (E.callee ss).rho s with
      | none => rfl
      | some g =>
        obtain ⟨i, a, rfl, ha, hg⟩ := callee_some hr
        rw [locOf_out, List.getElem?_map, ha] at hd
        obtain ⟨t, fz, cs, e⟩ := hob a (List.mem_of_getElem? ha)
        simp [e] at hd
    · obtain ⟨k, rfl, hk, hk2⟩ := locOf_ge hd
      right
      have hk' : k < ss.length := by simpa using hk
      refine ⟨k, ss[k], rfl, List.getElem?_eq_getElem hk', ?_⟩
      rw [locOf_out, List.getElem?_map, List.getElem?_eq_getElem hk']; rfl
  refine ⟨fun s _ => ?_, fun s h => h.elim, fun a b g ha hb => ?_, fun s g h => .inr ⟨s, h⟩, fun b k hp => ⟨(hG.prot b k hp).1, fun s hs => ?_⟩, ⟨rfl, fun _ h => ⟨h, rfl⟩⟩, .refl _ _, fun b k hp => .inl hp, Nat.le_refl _, rfl, rfl, rfl, frJ_yok _ _, fun s g hs hy => ?_, fun b hb => hb.1, fun r hr => by cases hr⟩
  · rcases hcases s with ⟨h1, h2⟩ | ⟨i, a, rfl, ha, h1⟩
    · rw [h1]; exact .dead h2
    · rw [h1]
      have hm := List.mem_of_getElem? ha
      obtain ⟨t, fz, cs, e⟩ := hob a hm
      have h0 := hG.obj a (hnp a hm)
      rw [e] at h0 ⊢
      cases h0 with
      | ob q1 q2 q3 =>
        obtain ⟨cur, b1, b2, b3, b4⟩ := q2
        exact .ob ((callee_rho ha).trans q1) ⟨cur, b1, b2.trans (callee_bs ha).symm, b3, b4⟩ q3
  · obtain ⟨i, x, rfl, hx, h1⟩ := callee_some ha
    obtain ⟨j, y, rfl, hy, h2⟩ := callee_some hb
    have hxy := hG.inj x y g h1 h2
    subst hxy
    rw [nodup_inj hn hx hy]
  · obtain ⟨i, a, rfl, ha, h1⟩ := callee_some hs
    rw [locOf_out, List.getElem?_map, ha]
    exact (hG.prot b k hp).2 a h1
  · obtain ⟨i, a, rfl, ha, h1⟩ := callee_some hs
    exact hy.2 a (List.mem_of_getElem? ha) h1

/-- The caller's world behind a call. -/
def Env.back (E E' : Env) : Env := { E with w := E'.w, Pr := E'.Pr }

theorem good_back (hG : Good P A E l pend) {ss : List Nat} (hn : ss.Nodup) (hnp : ∀ s ∈ ss, ¬ pend s) {pt : Nat → TypeId} {E' : Env} {os : List Obj} {lg : Option Log} (hG' : Good P (startFr pt (E.callee ss) (E.calleeJ ss)) E' (locOf os lg) (fun _ => False))
    (hrho : ∀ k, k < ss.length → E'.rho (OUT + k) = (E.callee ss).rho (OUT + k) ∧ E'.bs (OUT + k) = (E.callee ss).bs (OUT + k)) {l' : Loc} (hlog : l'.log = l.log) (hother : ∀ s, s ∉ ss → l' s = l s)
    (hthese : ∀ (i : Nat) (s : Nat), ss[i]? = some s → ∃ t fz cs cs', l s = .ob t fz cs ∧ os[i]? = some (.ob t fz cs') ∧ l' s = .ob t fz cs') :
    Good P A (E.back E') l' pend ∧ Held E.w E.Pr (E.back E').w (E.back E').Pr ∧ ∀ s, Keeps1 E (E.back E') l l' s := by
  have hx : Held E.w E.Pr (E.back E').w (E.back E').Pr := hG'.pr0
  have hk : ∀ s, Keeps1 E (E.back E') l l' s := by
    intro s
    by_cases hm : s ∈ ss
    · obtain ⟨i, hi, e⟩ := List.mem_iff_getElem.1 hm
      obtain ⟨t, fz, cs, cs', h1, h2, h3⟩ := hthese i s (by rw [List.getElem?_eq_getElem hi, e])
      refine .inr ⟨by rw [h1]; simp, rfl, rfl, (fun _ _ e => by rw [h1] at e; cases e), fun _ _ _ e => .inl ⟨fz, cs', ?_⟩, (fun _ _ e => by rw [h1] at e; cases e)⟩
      rw [h1] at e; injection e with e; injection e with e1 _; subst e1; rw [h3]; rfl
    · by_cases hd : l s = .dead
      · exact .inl ((hother s hm).trans hd)
      · exact .inr ⟨hd, rfl, rfl, .same (hother s hm)⟩
  have hM : ∀ b, (startFr pt (E.callee ss) (E.calleeJ ss)).M b ↔ ∃ s ∈ ss, E.rho s = some b := by
    intro b
    constructor
    · rintro ⟨s, hs⟩
      obtain ⟨i, a, rfl, ha, hg⟩ := callee_some hs
      exact ⟨a, List.mem_of_getElem? ha, hg⟩
    · rintro ⟨s, hs, hg⟩
      obtain ⟨i, hi, e⟩ := List.mem_iff_getElem.1 hs
      exact ⟨OUT + i, by rw [callee_rho (s := s) (by rw [List.getElem?_eq_getElem hi, e])]; exact hg⟩
  have hold : ∀ b, b < E.w.heap.size → (∀ s ∈ ss, E.rho s ≠ some b) → E'.w.heap[b]? = E.w.heap[b]? := by
    intro b hb hno
    exact (hG'.jf.2 b ⟨hb, hno⟩).2
  refine ⟨⟨fun s hp => ?_, fun s hp => ?_, hG.inj, hG.base, fun b k hp => ⟨(hG'.prot b k hp).1, fun s hs => ?_⟩, hG.jstep rfl hlog hx (fun b k hp => ?_) (fun b hb => hold b (hG.ylt b hb) fun s _ hg => hG.yown s b hg hb) hG'.size hG'.os hG'.tape hG'.output, hG.pr0.trans hx, fun b k hp => ?_, Nat.le_trans hG.size hG'.size, hG'.os.trans hG.os, hG'.tape.trans hG.tape, hG'.output.trans hG.output, hG.yok, hG.yown, fun b hb => Nat.lt_of_lt_of_le (hG.ylt b hb) hG'.size, fun r hr => ⟨(hold r (Array.getElem?_eq_some_iff.1 (hG.dm r hr).1).1 fun s _ => hG.dmno hr s).trans (hG.dm r hr).1, (hG.dm r hr).2⟩⟩, hx, hk⟩
  · by_cases hm : s ∈ ss
    · obtain ⟨i, hi, e⟩ := List.mem_iff_getElem.1 hm
      have hi' : ss[i]? = some s := by rw [List.getElem?_eq_getElem hi, e]
      obtain ⟨t, fz, cs, cs', h1, h2, h3⟩ := hthese i s hi'
      rw [h3]
      have h0 := hG'.obj (OUT + i) (fun h => h)
      rw [locOf_out, h2] at h0
      cases h0 with
      | ob q1 q2 q3 =>
        obtain ⟨cur, b1, b2, b3, b4⟩ := q2
        have e1 := (hrho i hi).1
        have e2 := (hrho i hi).2
        rw [callee_rho hi'] at e1
        rw [callee_bs hi'] at e2
        exact .ob (g := _) (e1.symm.trans q1) ⟨cur, b1, b2.trans e2, b3, b4⟩ q3
    · rw [hother s hm]
      refine (hG.obj s hp).keep hx rfl rfl (fun g hg => hold g (hG.lt hg) fun a ha hga => hm (hG.inj s a g hg hga ▸ ha)) fun _ _ _ _ hu => hu.mono0 hx hk
  · obtain ⟨h1, cs, hz, ho⟩ := hG.pnd s hp
    exact ⟨h1, cs, hz, (hother s fun hm => hnp s hm hp).trans ho⟩
  · by_cases hm : s ∈ ss
    · obtain ⟨i, hi, e⟩ := List.mem_iff_getElem.1 hm
      have hi' : ss[i]? = some s := by rw [List.getElem?_eq_getElem hi, e]
      obtain ⟨t, fz, cs, cs', h1, h2, h3⟩ := hthese i s hi'
      have e1 := (hrho i hi).1
      rw [callee_rho hi'] at e1
      have h4 := (hG'.prot b k hp).2 (OUT + i) (e1.trans hs)
      rw [locOf_out, h2] at h4
      rw [h3]; exact h4
    · rw [hother s hm]
      rcases hG'.prN b k hp with h | h | h
      · exact (hG.prot b k h).2 s hs
      · have h1 : E.w.heap.size ≤ b := h
        have h2 := hG.lt (s := s) hs
        omega
      · obtain ⟨a, ha, hga⟩ := (hM b).1 h
        exact absurd (hG.inj s a b hs hga ▸ ha) hm
  · rcases hG'.prN b k hp with h | h | h
    · exact .inl h
    · exact .inr fun hy => Nat.lt_irrefl _ (Nat.lt_of_lt_of_le (hG.ylt b hy) h)
    · obtain ⟨a, _, hga⟩ := (hM b).1 h
      exact .inr (hG.yown a b hga)
  · rcases hG'.prN b k hp with h | h | h
    · exact hG.prN b k h
    · exact .inr (.inl (Nat.le_trans hG.size h))
    · obtain ⟨a, ha, hga⟩ := (hM b).1 h
      exact .inr (hG.base a b hga)

theorem log0_none {ys : List V} (h : noYl ys = true) : log0 ys = none := by
  cases ys with
  | nil => rfl
  | cons y ys =>
    cases y with
    | c c => cases c <;> first | rfl | (cases h; done)
    | _ => rfl

theorem callK_sound (hG : Good P A E l pend) {cf : Cfg} (hP : cf.P = P) (hcon : ∀ f args objs out, cf.call f args objs = some out → ConAt P f args objs out) {strict : Bool} {f : FuncId} {xs : List V} {us : List Value}
    (hl : us.length = xs.length) (hx : ∀ (j : Nat) (x : V) (u : Value), xs[j]? = some x → us[j]? = some u → RV P E l x u) {ty : TypeId} {dst : Option Nat} (hd : ∀ d, dst = some d → ¬ pend d) {k : V → Loc → List Nat → Option R}
    (h : callK cf strict f xs ty dst l k = some r) :
    ∃ x l' ks, k x l' ks = some r ∧ Calls P f us.toArray E.w fun e w' => ∃ u, e = .returned u ∧ Up P A E l pend x l' ks u w' := by
  unfold callK at h
  simp only [hP] at h
  obtain ⟨ys, l1, ss, E1, h1, hG1, hM, hyl, ⟨rest, hrest⟩, hnd, hy, hst, hpt⟩ := marsh_sound hG hl hx (List.nodup_nil) h
  obtain ⟨hob, h2⟩ := need_some h1
  rw [Bool.and_eq_true] at hob
  have hlg : log0 ys = none := log0_none hob.2
  have hob := hob.1
  have hobs := allOb_eq hob
  rw [Option.bind_eq_some_iff] at h2
  obtain ⟨out, hcall, h3⟩ := h2
  obtain ⟨l2, ro, h4, hro, hle, hother, hlog, hthese⟩ := backK_eq hnd h3
  have hobs' : ∀ s ∈ ss, ∃ t fz cs, l1 s = .ob t fz cs := fun s hs => hobs s hs
  -- a handed site is not one that is yet to be made: something leads to it
  have hnp : ∀ s ∈ ss, ¬ pend s := by
    intro s hs hp
    obtain ⟨t, fz, cs, e⟩ := hobs' s hs
    rcases hpt s hs with h | ⟨off, u, h⟩
    · cases h
    · cases h with
      | ptrDead hd => rw [e] at hd; cases hd
      | ptr hr => rw [(hG1.pnd s hp).1] at hr; cases hr
  have hGc := good_callee hG1 hnd hobs' hnp A.pt
  have hargs : ∀ (j : Nat) (y : V) (u : Value), ys[j]? = some y → us[j]? = some u → RV P (E1.callee ss) (locOf (ss.map l1) (log0 ys)) y u := by
    intro j y u hy' hu'
    rcases hy j y u hy' hu' with ⟨c, rfl, hc⟩ | ⟨cs, vs, rfl, rfl, hc⟩ | ⟨i, off, s, rfl, hs, hr⟩
    · exact .c hc
    · exact .agg hc
    · obtain ⟨t, fz, cs, e⟩ := hobs s (List.mem_of_getElem? hs)
      cases hr with
      | ptrDead hd => rw [e] at hd; cases hd
      | ptr hr => exact .ptr ((callee_rho hs).trans hr)
  have hC := hcon f ys (ss.map l1) out hcall A.pt (E1.callee ss) us (E1.calleeJ ss) hyl.symm rfl (by rw [hlg]; exact hGc) hargs
  have hback : ∀ E', Good P (startFr A.pt (E1.callee ss) (E1.calleeJ ss)) E' (locOf out.objs out.log) (fun _ => False) → (∀ k, k < (ss.map l1).length → E'.rho (OUT + k) = (E1.callee ss).rho (OUT + k) ∧ E'.bs (OUT + k) = (E1.callee ss).bs (OUT + k)) →
      Good P A (E1.back E') l2 pend ∧ Held E1.w E1.Pr (E1.back E').w (E1.back E').Pr ∧ ∀ s, Keeps1 E1 (E1.back E') l1 l2 s := by
    intro E' hG' hrho
    exact good_back hG1 hnd hnp hG' (fun k hk => hrho k (by simpa using hk)) hlog hother hthese
  have hplain : ∀ (y : V), PureV y → (y = out.r ∨ y = .und) → k y l2 [] = some r → ∃ x l' ks, k x l' ks = some r ∧ Calls P f us.toArray E.w fun e w' => ∃ u, e = .returned u ∧ Up P A E l pend x l' ks u w' := by
    intro y hpy hyo hk
    refine ⟨y, l2, [], hk, ?_⟩
    rw [← hM.w]
    refine hC.mono fun e w' => ?_
    rintro ⟨u, E', he, hw, hG', hr, hrho⟩
    obtain ⟨q1, q2, q3⟩ := hback E' hG' hrho
    refine ⟨u, he, E1.back E', hw, ⟨q1, hM.D⟩, ?_, fun z v hz _ => (hM.rv hz).mono0 q2 q3⟩
    rcases hyo with rfl | rfl
    · exact hpy.rv (E := E') (E' := E1.back E') (.refl _ _) hr
    · exact .und
  split at h4
  · rename_i t d hty
    cases hown : cf.own d with
    | false =>
      rw [hown] at h4
      simp only [cond_false] at h4
      obtain ⟨y, hpy, hk, hyo⟩ := retK_eq h4
      exact hplain y hpy hyo hk
    | true =>
      rw [hown] at h4
      simp only [cond_true] at h4
      have hdp : ¬ pend d := hd d rfl
      obtain ⟨hr0, h5⟩ : (∃ s off, out.r = .ptr s off ∧ s = OUT + ss.length ∧ off = 0) ∧ uncO ro (fun o _ => rO o t 0 fun cs => match leaves P 20 t with
            | some ls => need (Nat.beq cs.length ls.length) (getLfs ls cs fun cs2 => k (.ptr d 0) ((l2.kill d).put d (.ob t 0 cs2)) [d])
            | none => k (.ptr d 0) ((l2.kill d).put d (.ob t 0 cs)) [d]) = some r := by
        unfold rP at h4
        split at h4
        · rename_i s off hr
          obtain ⟨hb, h5⟩ := need_some h4
          rw [Bool.and_eq_true] at hb
          exact ⟨⟨s, off, hr, Nat.eq_of_beq_eq_true hb.1, Nat.eq_of_beq_eq_true hb.2⟩, h5⟩
        · cases h4
      obtain ⟨_, _, hr0, rfl, rfl⟩ := hr0
      obtain ⟨o, os, hro2, h6⟩ := uncO_eq h5
      obtain ⟨cs, rfl, h6'⟩ := rO_eq h6
      clear h6
      have h6 := h6'
      clear h6'
      have h8 : k (.ptr d 0) ((l2.kill d).put d (.ob t 0 cs)) [d] = some r := by
        split at h6
        · obtain ⟨hb, h7⟩ := need_some h6
          have h8 := getLfs_eq h7
          rw [← Nat.eq_of_beq_eq_true hb, List.take_length] at h8
          exact h8.2
        · exact h6
      have hox : out.objs[ss.length]? = some (.ob t 0 cs) := by
        have : (out.objs.drop ss.length)[0]? = some (.ob t 0 cs) := by rw [← hro, hro2]; rfl
        rwa [List.getElem?_drop, Nat.add_zero] at this
      refine ⟨_, _, _, h8, ?_⟩
      rw [← hM.w]
      refine hC.mono fun e w' => ?_
      rintro ⟨u, E', he, hw, hG', hr, hrho⟩
      obtain ⟨q1, q2, q3⟩ := hback E' hG' hrho
      have hlx : locOf out.objs out.log (OUT + ss.length) = .ob t 0 cs := by rw [locOf_out, hox]; rfl
      have h0 := hG'.obj (OUT + ss.length) (fun h => h)
      rw [hlx] at h0
      cases h0 with
      | @ob _ _ _ g b1 b2 b3 =>
        obtain ⟨cur, c1, c2, c3, c4⟩ := b2
        have hu : u = .pointer (some ⟨g, 0, none⟩) := by
          rw [hr0] at hr
          cases hr with
          | ptrDead hd => rw [hlx] at hd; cases hd
          | ptr hr => rw [b1] at hr; injection hr with hr; subst hr; rfl
        subst hu
        have hq := q1.kill hdp
        have hnoE : ∀ a, E1.rho a ≠ some g := by
          intro a ha
          rcases hG'.base _ g b1 with h | ⟨s, h⟩
          · have h1 : E1.w.heap.size ≤ g := h
            have := hG1.lt ha
            omega
          · obtain ⟨i, x, rfl, hx', hgx⟩ := callee_some h
            have hi : i < ss.length := (List.getElem?_eq_some_iff.1 hx').1
            have e1 := (hrho i (by simpa using hi)).1
            have := hG'.inj _ _ g (e1.trans h) b1
            omega
        have hno : ∀ a, ((E1.back E').kill l2 d).rho a ≠ some g := fun a ha => hnoE a (kill_rho ha)
        have hbase : A.w0.heap.size ≤ g ∨ A.M g := by
          rcases hG'.base _ g b1 with h | ⟨s, h⟩
          · exact .inl (Nat.le_trans hG1.size h)
          · obtain ⟨i, x, rfl, hx', hgx⟩ := callee_some h
            exact absurd hgx (hnoE x)
        have hynew : ¬ ((E1.back E').kill l2 d).Y g := fun hy => by
          have hy' : E1.Y g := hy
          have hlt := hG1.ylt g hy'
          rcases hG'.base _ g b1 with h | ⟨s, h⟩
          · have h1 : E1.w.heap.size ≤ g := h
            omega
          · obtain ⟨i, x, rfl, hx', hgx⟩ := callee_some h
            exact hG1.yown x g hgx hy'
        have hsame := setRow_self E'.w g cur t (0, 0) c1
        obtain ⟨a1, a2, a3⟩ := good_adopt (P := P) (A := A) hq (d := d) (g := g) (kill_at d l2) hdp hno hynew hbase (cur := cur) (cur' := cur) (t := t) c1 rfl (fz := 0) (fun k hk => by
          have := (hG'.prot g k hk).2 _ b1
          rw [hlx] at this; exact this) (fun _ _ => rfl) (cs := cs) (ob := .ob t 0 cs) (.inl rfl) (Nat.zero_le _) c3 c4 (kill_ref d l2)
        refine ⟨_, he, _, ?_, ⟨a1, hM.D⟩, .ptr (by simp [Env.adopt]), fun y v hy hk => ?_⟩
        · show E'.w.setRow g cur = w'
          rw [hsame, hw]
        · exact (rv_kill d ((hM.rv hy).mono0 q2 q3)).mono (fun s => s = d) a2 (fun s hs => a3 s hs) (fun s hs => by subst hs; exact hk s (by simp))
  · obtain ⟨y, hpy, hk, hyo⟩ := retK_eq h4
    exact hplain y hpy hyo hk

end
end Go.PM
