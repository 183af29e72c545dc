/- The pure machine: calls. -/
import Derived.Test.YtepjbmlhfhahcaaPMoa
set_option linter.unusedVariables false
set_option linter.unusedSimpArgs false
namespace Go.PM
open Go

variable {P : Program}

/-- What is others' stays as it is. -/
def frJ (w0 : World) (Y0 : Nat → Prop) : JT where
  J Y _ lg w := lg = none ∧ ∀ b, Y0 b → Y b ∧ w.heap[b]? = w0.heap[b]?
  stab := fun h hb _ _ _ _ _ _ => ⟨h.1, fun b h0 => ⟨(h.2 b h0).1, (hb b (h.2 b h0).1).trans (h.2 b h0).2⟩⟩
  weak := fun h => ⟨rfl, h.2⟩

theorem frJ_yok (w0 : World) (Y0 : Nat → Prop) : YOk P (frJ w0 Y0) := fun _ _ _ _ _ _ _ h => by cases h.1

/-- Where a callee begins: its objects are those that were handed over, each at its number. -/
def startFr (pt : Nat → TypeId) (E : Env) (j : JT) : Fr := { pt := pt, w0 := E.w, Pr0 := E.Pr, tm := fun _ => none, n := 0, outs := fun _ => none, M := fun b => ∃ s, E.rho s = some b, jt := j, dfix := false }

/-- What a call does, said of pure values. -/
def ConAt (P : Program) (f : FuncId) (args : List V) (objs : List Obj) (out : Out) : Prop :=
  ∀ (pt : Nat → TypeId) (E : Env) (us : List Value) (j : JT), us.length = args.length → E.D = [] → Good P (startFr pt E j) E (locOf objs (log0 args)) (fun _ => False) →
    (∀ (i : Nat) (x : V) (u : Value), args[i]? = some x → us[i]? = some u → RV P E (locOf objs (log0 args)) x u) →
    Calls P f us.toArray E.w fun e w' => ∃ u E', e = .returned u ∧ E'.w = w' ∧ Good P (startFr pt E j) E' (locOf out.objs out.log) (fun _ => False) ∧ RV P E' (locOf out.objs out.log) out.r u ∧
      ∀ k, k < objs.length → ∀ g, E.rho (OUT + k) = some g → E'.rho (OUT + k) = some g ∧ E'.bs (OUT + k) = E.bs (OUT + k)

section
variable {A : Fr} {E : Env} {l : Loc} {pend : Nat → Prop} {R : Type} {r : R}

theorem siteIdx_some : ∀ {ss : List Nat} {s i n : Nat} (_ : siteIdx ss s i = some n), ∃ j, n = i + j ∧ ss[j]? = some s
  | [], _, _, _, h => by cases h
  | s' :: ss, s, i, n, h => by
    unfold siteIdx at h
    cases hb : Nat.beq s' s with
    | true =>
      rw [hb] at h; injection h with h
      exact ⟨0, by omega, by simp [Nat.eq_of_beq_eq_true hb]⟩
    | false =>
      rw [hb] at h
      obtain ⟨j, h1, h2⟩ := siteIdx_some (ss := ss) h
      exact ⟨j + 1, by omega, by simpa using h2⟩

theorem siteIdx_none : ∀ {ss : List Nat} {s i : Nat} (_ : siteIdx ss s i = none), s ∉ ss
  | [], _, _, _ => by simp
  | s' :: ss, s, i, h => by
    unfold siteIdx at h
    cases hb : Nat.beq s' s with
    | true => rw [hb] at h; cases h
    | false =>
      rw [hb] at h
      have h1 := siteIdx_none (ss := ss) h
      intro hm
      rcases List.mem_cons.1 hm with e | e
      · subst e; rw [Nat.beq_refl] at hb; cases hb
      · exact h1 e

/-- A handed argument. -/
def RY (P : Program) (E : Env) (l : Loc) (ss : List Nat) (y : V) (u : Value) : Prop :=
  (∃ c, y = .c c ∧ RC E.w E.Pr c u) ∨ (∃ cs vs, y = .agg cs ∧ u = .agg vs.toArray ∧ RCs E.w E.Pr cs vs) ∨ (∃ i off s, y = .ptr (OUT + i) off ∧ ss[i]? = some s ∧ RV P E l (.ptr s off) u) ∨ (∃ i off n s, y = .own (OUT + i) off n ∧ ss[i]? = some s ∧ RV P E l (.own s off n) u)

/-- Something leads to a site. -/
def Led (P : Program) (E : Env) (l : Loc) (s : Nat) : Prop := (∃ off u, RV P E l (.ptr s off) u) ∨ ∃ off n u, RV P E l (.own s off n) u
theorem Led.mild {E E' : Env} {l l' : Loc} (h : Mild E E' l l') {s : Nat} (hs : Led P E l s) : Led P E' l' s := by
  rcases hs with ⟨off, u, h1⟩ | ⟨off, n, u, h1⟩
  · exact .inl ⟨off, u, h.rv h1⟩
  · exact .inr ⟨off, n, u, h.rv h1⟩
theorem Led.npend (hG : Good P A E l pend) {s : Nat} (h : Led P E l s) : ¬ pend s := by
  intro hp
  obtain ⟨hr, cs, _, hl⟩ := hG.pnd s hp
  rcases h with ⟨off, u, h⟩ | ⟨off, n, u, h⟩
  · cases h with
    | ptrDead hd => rw [hl] at hd; cases hd
    | ptr h => rw [hr] at h; cases h
  · cases h with
    | ownDead hd => rw [hl] at hd; cases hd
    | ownNil _ hd => rw [hl] at hd; cases hd
    | own h _ _ _ _ => rw [hr] at h; cases h
    | own0 h _ _ => rw [hr] at h; cases h
    | ownRf hd => rw [hl] at hd; cases hd

theorem nrm1_rc {w : World} {Pr : Nat → Nat → Prop} {hd : List Nat} {c : C} {u : Value} (h : RC w Pr c u) : RC w Pr (nrm1 hd c) u := by
  unfold nrm1
  split
  · rename_i n _
    cases Nat.beq n 2
    · exact h
    · show RC w Pr (nrm c) u
      unfold nrm
      split
      · cases h; exact .sl0 (by unfold maxLen; omega)
      · exact h
  · exact h

theorem marsh_sound {strict : Bool} : ∀ {hd : List Nat} {xs : List V} {us : List Value} {E : Env} {l : Loc} {ss : List Nat} (_ : Good P A E l pend) (_ : us.length = xs.length)
    (_ : ∀ (j : Nat) (x : V) (u : Value), xs[j]? = some x → us[j]? = some u → RV P E l x u) (_ : ss.Nodup) {k : List V → Loc → List Nat → Option R} (_ : marsh P strict hd xs l ss k = some r),
    ∃ ys l1 ss1 E1, k ys l1 ss1 = some r ∧ Good P A E1 l1 pend ∧ Mild E E1 l l1 ∧ ys.length = us.length ∧ (∃ rest, ss1 = ss ++ rest) ∧ ss1.Nodup ∧
      (∀ (j : Nat) (y : V) (u : Value), ys[j]? = some y → us[j]? = some u → RY P E1 l1 ss1 y u) ∧ (strict = true → l1 = l ∧ ss1 = ss) ∧ ∀ s ∈ ss1, s ∈ ss ∨ Led P E1 l1 s
  | _, [], us, E, l, ss, hG, hl, _, hn, k, h => ⟨[], l, ss, E, h, hG, .refl E l, by simpa using hl.symm, ⟨[], by simp⟩, hn, by simp, fun _ => ⟨rfl, rfl⟩, fun _ h => .inl h⟩
  | hd, x :: xs, [], E, l, ss, hG, hl, _, _, k, h => by simp at hl
  | hd, x :: xs, u :: us, E, l, ss, hG, hl, hx, hn, k, h => by
    have hu := hx 0 x u rfl rfl
    have cons : ∀ {E1 : Env} {l1 : Loc} {ss1 : List Nat} (y : V), Good P A E1 l1 pend → Mild E E1 l l1 → (∃ rest, ss1 = ss ++ rest) → ss1.Nodup → (strict = true → l1 = l ∧ ss1 = ss) → (∀ (E2 : Env) (l2 : Loc) (rest : List Nat), Mild E1 E2 l1 l2 → RY P E2 l2 (ss1 ++ rest) y u) → (∀ s ∈ ss1, s ∈ ss ∨ Led P E1 l1 s) →
        marsh P strict hd.tail xs l1 ss1 (fun ys l' ss' => k (y :: ys) l' ss') = some r →
        ∃ ys l1 ss1 E1, k ys l1 ss1 = some r ∧ Good P A E1 l1 pend ∧ Mild E E1 l l1 ∧ ys.length = (u :: us).length ∧ (∃ rest, ss1 = ss ++ rest) ∧ ss1.Nodup ∧
          (∀ (j : Nat) (y : V) (u' : Value), ys[j]? = some y → (u :: us)[j]? = some u' → RY P E1 l1 ss1 y u') ∧ (strict = true → l1 = l ∧ ss1 = ss) ∧ ∀ s ∈ ss1, s ∈ ss ∨ Led P E1 l1 s := by
      intro E1 l1 ss1 y hG1 hM1 hr1 hn1 hst1 hy hpt h
      obtain ⟨ys, l2, ss2, E2, h1, h2, h3, h4, ⟨rest, h5⟩, h6, h7, h8, h9⟩ := marsh_sound (xs := xs) (us := us) hG1 (by simpa using hl) (fun j z v hz hv => hM1.rv (hx (j + 1) z v (by simpa using hz) (by simpa using hv))) hn1 h
      obtain ⟨rest1, hr1⟩ := hr1
      refine ⟨y :: ys, l2, ss2, E2, h1, h2, hM1.trans h3, by simp [h4], ⟨rest1 ++ rest, by rw [h5, hr1, List.append_assoc]⟩, h6, fun j y' u' hy' hu' => ?_, fun hs => ⟨(h8 hs).1.trans (hst1 hs).1, (h8 hs).2.trans (hst1 hs).2⟩, fun s hs => by
          rcases h9 s hs with h | h
          · rcases hpt s h with h | h
            · exact .inl h
            · exact .inr (h.mild h3)
          · exact .inr h⟩
      cases j with
      | zero => simp at hy' hu'; subst hy' hu'; rw [h5]; exact hy E2 l2 rest h3
      | succ j => exact h7 j y' u' (by simpa using hy') (by simpa using hu')
    unfold marsh at h
    cases x with
    | c c =>
      cases hu with | c hc =>
      exact cons (.c (nrm1 hd c)) hG (.refl E l) ⟨[], by simp⟩ hn (fun _ => ⟨rfl, rfl⟩) (fun E2 l2 rest hM => .inl ⟨_, rfl, nrm1_rc (hc.held hM.held)⟩) (fun _ h => .inl h) h
    | agg cs =>
      cases hu with | agg hc =>
      exact cons (.agg cs) hG (.refl E l) ⟨[], by simp⟩ hn (fun _ => ⟨rfl, rfl⟩) (fun E2 l2 rest hM => .inr (.inl ⟨cs, _, rfl, rfl, hc.held hM.held⟩)) (fun _ h => .inl h) h
    | own s off n =>
      simp only at h
      split at h
      · rename_i hh
        have hst : strict = false := by
          cases strict with
          | false => rfl
          | true => cases hh
        split at h
        · rename_i i hi
          obtain ⟨j, e, hj⟩ := siteIdx_some hi
          obtain rfl : i = j := by omega
          exact cons (.own (OUT + i) off n) hG (.refl E l) ⟨[], by simp⟩ hn (fun hs => by rw [hst] at hs; cases hs) (fun E2 l2 rest hM => .inr (.inr (.inr ⟨i, off, n, s, rfl, by
            rw [List.getElem?_append_left (List.getElem?_eq_some_iff.1 hj).1]; exact hj, hM.rv hu⟩))) (fun _ h => .inl h) h
        · rename_i hi
          have hns := siteIdx_none hi
          exact cons (ss1 := ss ++ [s]) (.own (OUT + ss.length) off n) hG (.refl E l) ⟨[s], rfl⟩ (by
            rw [List.nodup_append]; exact ⟨hn, by simp, by intro a ha b hb; simp at hb; subst hb; exact fun e => hns (e ▸ ha)⟩) (fun hs => by rw [hst] at hs; cases hs) (fun E2 l2 rest hM => .inr (.inr (.inr ⟨ss.length, off, n, s, rfl, by simp, hM.rv hu⟩))) (fun a ha => by
            rcases List.mem_append.1 ha with ha | ha
            · exact .inl ha
            · simp at ha; subst ha; exact .inr (.inr ⟨off, n, u, hu⟩)) h
      have hone := pur_one hu h rfl
      obtain ⟨cs, l1, E1, hk, hG1, hM, hc, hst⟩ := pur_sound hG hu h
      split at hk
      · rename_i c
        rw [cells_one hone] at hc
        obtain ⟨v, vs, e, hc1, _⟩ := hc.uncons
        simp at e
        obtain ⟨e1, e2⟩ := e
        subst e1
        exact cons (.c c) hG1 hM ⟨[], by simp⟩ hn (fun hs => ⟨hst hs, rfl⟩) (fun E2 l2 rest hM2 => .inl ⟨c, rfl, hc1.held hM2.held⟩) (fun _ h => .inl h) hk
      · cases hk
    | ptr s off =>
      simp only at h
      cases strict with
      | true => cases h
      | false =>
        simp only at h
        split at h
        · rename_i i hi
          obtain ⟨j, e, hj⟩ := siteIdx_some hi
          obtain rfl : i = j := by omega
          exact cons (.ptr (OUT + i) off) hG (.refl E l) ⟨[], by simp⟩ hn (fun hs => by cases hs) (fun E2 l2 rest hM => .inr (.inr (.inl ⟨i, off, s, rfl, by
            rw [List.getElem?_append_left (List.getElem?_eq_some_iff.1 hj).1]; exact hj, hM.rv hu⟩))) (fun _ h => .inl h) h
        · rename_i hi
          have hns := siteIdx_none hi
          exact cons (ss1 := ss ++ [s]) (.ptr (OUT + ss.length) off) hG (.refl E l) ⟨[s], rfl⟩ (by
            rw [List.nodup_append]; exact ⟨hn, by simp, by intro a ha b hb; simp at hb; subst hb; exact fun e => hns (e ▸ ha)⟩) (fun hs => by cases hs) (fun E2 l2 rest hM => .inr (.inr (.inl ⟨ss.length, off, s, rfl, by simp, hM.rv hu⟩))) (fun a ha => by
            rcases List.mem_append.1 ha with ha | ha
            · exact .inl ha
            · simp at ha; subst ha; exact .inr (.inl ⟨off, u, hu⟩)) h
    | _ => cases h

theorem retV_eq {t : TypeId} {x : V} {k : V → Option R} (h : retV P t x k = some r) : ((∃ c, x = .c c) ∨ ∃ cs, x = .agg cs) ∧ k x = some r := by
  unfold retV at h
  split at h
  · unfold rA at h
    split at h
    · rename_i cs
      refine ⟨.inr ⟨cs, rfl⟩, ?_⟩
      split at h
      · obtain ⟨hb, h⟩ := need_some h
        have h1 := getLfs_eq h
        have h2 := Nat.eq_of_beq_eq_true hb
        rw [← h2, List.take_length] at h1
        exact h1.2
      · exact h
    · cases h
  · split at h
    · unfold rC at h
      split at h
      · rename_i c
        exact ⟨.inl ⟨c, rfl⟩, getLf_eq (k := fun c' => k (.c c')) h⟩
      · cases h
    · cases h

theorem retL_eq : ∀ {ts : List TypeId} {xs : List V} {k : List V → Option R} (_ : retL P ts xs k = some r), (∀ x ∈ xs, (∃ c, x = .c c) ∨ ∃ cs, x = .agg cs) ∧ k xs = some r
  | [], xs, k, h => by
    unfold retL at h
    split at h
    · exact ⟨by simp, h⟩
    · cases h
  | t :: ts, xs, k, h => by
    unfold retL uncV at h
    split at h
    · cases h
    · rename_i x ys
      obtain ⟨h1, h2⟩ := retV_eq h
      obtain ⟨h3, h4⟩ := retL_eq h2
      exact ⟨fun z hz => by rcases List.mem_cons.1 hz with rfl | hz; exact h1; exact h3 z hz, h4⟩

/-- A result without references. -/
inductive PureV : V → Prop
  | c (c : C) : PureV (.c c)
  | agg (cs : List C) : PureV (.agg cs)
  | tup {vs : List V} (h : ∀ x ∈ vs, (∃ c, x = .c c) ∨ ∃ cs, x = .agg cs) : PureV (.tup vs)
  | und : PureV .und

theorem retK_eq {t : TypeId} {x : V} {k : V → Option R} (h : retK P t x k = some r) : ∃ y, PureV y ∧ k y = some r ∧ (y = x ∨ y = .und) := by
  unfold retK at h
  split at h
  · split at h
    · exact ⟨.und, .und, h, .inr rfl⟩
    · unfold rT at h
      split at h
      · rename_i vs
        obtain ⟨h1, h2⟩ := retL_eq h
        exact ⟨_, .tup h1, h2, .inl rfl⟩
      · cases h
  · obtain ⟨h1, h2⟩ := retV_eq h
    rcases h1 with ⟨c, rfl⟩ | ⟨cs, rfl⟩
    · exact ⟨_, .c c, h2, .inl rfl⟩
    · exact ⟨_, .agg cs, h2, .inl rfl⟩

theorem PureV.rv {E E' : Env} {l l' : Loc} (hx : Held E.w E.Pr E'.w E'.Pr) {y : V} (hp : PureV y) {u : Value} (h : RV P E l y u) : RV P E' l' y u := by
  cases hp with
  | c c => cases h with | c h => exact .c (h.held hx)
  | agg cs => cases h with | agg h => exact .agg (h.held hx)
  | tup hv =>
    cases h with
    | tup hs h =>
      refine .tup hs fun j x u hx' hu => ?_
      have h1 := h j x u hx' hu
      rcases hv x (List.mem_of_getElem? hx') with ⟨c, rfl⟩ | ⟨cs, rfl⟩
      · cases h1 with | c h => exact .c (h.held hx)
      · cases h1 with | agg h => exact .agg (h.held hx)
  | und => exact .und

/-- An object of the same kind, with other cells. -/
inductive Same : Obj → Obj → Prop
  | ob {t fz : Nat} {cs cs' : List C} : Same (.ob t fz cs) (.ob t fz cs')
  | sb {t fz : Nat} {cs cs' : List C} (h : cs'.length = cs.length) : Same (.sb t fz cs) (.sb t fz cs')
theorem Same.tc {o o' : Obj} (h : Same o o') : ∃ t fz cs cs', objTC o = some (t, fz, cs) ∧ objTC o' = some (t, fz, cs') := by
  cases h <;> exact ⟨_, _, _, _, rfl, rfl⟩
theorem Same.fz {o o' : Obj} (h : Same o o') : o'.fz = o.fz := by cases h <;> rfl
theorem Same.sh {l l' : Loc} {s : Nat} (h : Same (l s) (l' s)) : Sh l l' s := by
  generalize ho : l s = o at h
  generalize ho' : l' s = o' at h
  cases h with
  | @ob t fz cs cs' =>
    refine ⟨(fun _ _ e => by rw [ho] at e; cases e), fun _ _ _ e => .inl ⟨fz, cs', ?_⟩, (fun _ _ e => by rw [ho] at e; cases e)⟩
    rw [ho] at e; injection e with e; injection e with e1 _; subst e1; rw [ho']; rfl
  | @sb t fz cs cs' hl =>
    refine ⟨fun t2 fz2 e => ?_, fun _ _ _ e => .inl ⟨fz, cs', ?_⟩, (fun _ _ e => by rw [ho] at e; cases e)⟩
    · rw [ho] at e; injection e with e1 e2 e3
      subst e1 e3
      have : cs' = [] := List.eq_nil_of_length_eq_zero (by simpa using hl)
      exact ⟨fz, by rw [ho', this]⟩
    · rw [ho] at e; injection e with e; injection e with e1 _; subst e1; rw [ho']; rfl

/-- The objects come back. -/
theorem backK_eq : ∀ {ss : List Nat} {os : List Obj} {l : Loc} (_ : ss.Nodup) {k : List Obj → Loc → Option R} (_ : backK P ss os l k = some r),
    ∃ l' rest, k rest l' = some r ∧ rest = os.drop ss.length ∧ ss.length ≤ os.length ∧ (∀ s, s ∉ ss → l' s = l s) ∧ l'.log = l.log ∧
      ∀ (i : Nat) (s : Nat), ss[i]? = some s → Same (l s) (l' s) ∧ os[i]? = some (l' s)
  | [], os, l, _, k, h => ⟨l, os, h, by simp, by simp, fun _ _ => rfl, rfl, by simp⟩
  | s :: ss, os, l, hn, k, h => by
    have fin : ∀ (o o' : Obj) (os' : List Obj), l s = o → Same o o' → os = o' :: os' → backK P ss os' (l.put s o') k = some r → ∃ l' rest, k rest l' = some r ∧ rest = os.drop (s :: ss).length ∧ (s :: ss).length ≤ os.length ∧ (∀ a, a ∉ s :: ss → l' a = l a) ∧ l'.log = l.log ∧
        ∀ (i : Nat) (a : Nat), (s :: ss)[i]? = some a → Same (l a) (l' a) ∧ os[i]? = some (l' a) := by
      rintro o o' os' ho hsame rfl h'
      have hns : s ∉ ss := (List.nodup_cons.1 hn).1
      obtain ⟨l', rest, q1, q2, q3, q4, q4l, q5⟩ := backK_eq (ss := ss) (List.nodup_cons.1 hn).2 h'
      have hls : l' s = o' := by rw [q4 s hns, put_same]
      refine ⟨l', rest, q1, by simpa using q2, by simpa using q3, fun a ha => ?_, q4l, fun i a hi => ?_⟩
      · have ha' : a ≠ s ∧ a ∉ ss := by simpa using ha
        rw [q4 a ha'.2, put_other l _ ha'.1]
      · cases i with
        | zero =>
          simp at hi; subst hi
          rw [hls, ho]; exact ⟨hsame, rfl⟩
        | succ i =>
          simp at hi
          obtain ⟨h1, h2⟩ := q5 i a hi
          have hne : a ≠ s := fun e => hns (e ▸ List.mem_of_getElem? hi)
          rw [put_other l _ hne] at h1
          exact ⟨h1, by simpa using h2⟩
    unfold backK at h
    split at h
    case h_3 => cases h
    case h_1 t fz cs hl =>
      obtain ⟨o, os', rfl, h1⟩ := uncO_eq h
      obtain ⟨cs', rfl, h2⟩ := rO_eq h1
      refine fin _ _ os' hl .ob rfl ?_
      split at h2
      · obtain ⟨hb2, h3⟩ := need_some h2
        rw [Bool.and_eq_true] at hb2
        have h4 := getLfs_eq h3
        have h5 := Nat.eq_of_beq_eq_true hb2.1
        rw [← h5, List.take_length] at h4
        exact h4.2
      · exact (need_some h2).2
    case h_2 t fz cs hl =>
      obtain ⟨o, os', rfl, h1⟩ := uncO_eq h
      obtain ⟨cs', rfl, h2⟩ := rS_eq h1
      obtain ⟨hb2, h3⟩ := need_some h2
      exact fin _ _ os' hl (.sb (Nat.eq_of_beq_eq_true hb2)) rfl h3

theorem allOb_eq : ∀ {ss : List Nat} (_ : allOb l ss = true) (s : Nat), s ∈ ss → ∃ q, objTC (l s) = some q
  | s' :: ss, h, s, hs => by
    unfold allOb at h
    split at h
    · rename_i t fz cs hl
      rcases List.mem_cons.1 hs with rfl | hs
      · exact ⟨(t, fz, cs), by rw [hl]; rfl⟩
      · exact allOb_eq h s hs
    · rename_i t fz cs hl
      rcases List.mem_cons.1 hs with rfl | hs
      · exact ⟨(t, fz, cs), by rw [hl]; rfl⟩
      · exact allOb_eq h s hs
    · cases h

end
end Go.PM
